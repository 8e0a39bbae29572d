/-
  Below a block number all stands but one block.
-/
import Derived.Test.YtidlkomgondkiaaRec
namespace Go.Proofs.Ytidlkomgondkiaa
open Go.RowKit
/-- All blocks below B but x are as they were; no block has gone. -/
def Still (B x : Nat) (w w' : World) : Prop := w.heap.size ≤ w'.heap.size ∧ ∀ k, k < B → k ≠ x → w'.heap[k]? = w.heap[k]?
section
variable {B x : Nat} {w w' w'' : World}
theorem Still.refl (B x : Nat) (w : World) : Still B x w w := ⟨Nat.le_refl _, fun _ _ _ => rfl⟩
theorem Still.trans (h : Still B x w w') (k : Still B x w' w'') : Still B x w w'' := ⟨Nat.le_trans h.1 k.1, fun i hi hx => (k.2 i hi hx).trans (h.2 i hi hx)⟩
theorem Still.of_below (h : Below B w w') : Still B x w w' := ⟨h.size, fun k hk _ => h.block k hk⟩
theorem Still.setCell (h : Still B x w w') (o : Nat) (u : Value) : Still B x w (w'.setCell ⟨x, o, none⟩ u) :=
  h.trans ⟨by simp [World.setCell], fun k _ hx => Below.heap_setCell _ _ _ _ (by simpa using hx)⟩
theorem Still.below (h : Still B x w w') (hb : Below B w' w'') : Still B x w w'' := h.trans (Still.of_below hb)
theorem Rd.still {size n : Nat} {A : Option Addr} {xs : List Value} (h : Rd w size A n xs) (hs : Still B x w w') (hB : w.heap.size ≤ B) (hx : ∀ b o, A = some ⟨b, o, none⟩ → b ≠ x) : Rd w' size A n xs := by
  refine ⟨h.1, fun hn => ?_⟩
  obtain ⟨b, o, e, hc⟩ := h.2 hn
  refine ⟨b, o, e, fun j u hu => ?_⟩
  have h1 := hc j u hu
  have hlt := cell_lt h1
  rw [World.cell?_of_block (hs.2 b (Nat.lt_of_lt_of_le hlt hB) (hx b o e))]
  exact h1
end
/-- What an append leaves of a block that is not the row's. -/
theorem grown_block {W w' : World} {base : Nat} {e : TypeId} {size n : Nat} {v : Value} {xs : List Value} {k : Nat} {x : Obj} (ho : W.ownsRow base e size v n xs) (hg : W.grownBy w' v.ownBlock) (hx : W.heap[k]? = some x) (hk : k < base ∨ ∃ w : World, w.ownsRow base e size v n xs ∧ w.heap.size ≤ k) : w'.heap[k]? = some x := by
  have hlt : k < W.heap.size := by
    rcases Nat.lt_or_ge k W.heap.size with h | h
    · exact h
    · rw [Array.getElem?_eq_none h] at hx; cases hx
  rw [hg.block k hlt ?_]
  · exact hx
  · intro hk2
    rcases hk with hk | ⟨w, hw, hk⟩
    · have := (ho.lt k hk2.symm).1; omega
    · have := (hw.lt k hk2.symm).2; omega
end Go.Proofs.Ytidlkomgondkiaa
