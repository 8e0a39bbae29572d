/-
  The document's Forget; what its calls turn.
-/
import Derived.Test.YtidlkomgondkiaaKDMem
import Derived.Test.YtidlkomgondkiaaKTurns
namespace Go.Proofs.Ytidlkomgondkiaa
open Go.RowKit
set_option linter.unusedVariables false
set_option linter.unusedSimpArgs false
/-- The sorts of blocks that the document's Marks turn. -/
def DSort (t : TypeId) : Prop := t = 86 ∨ t = 89
theorem own_put {w : World} {B j base size n : Nat} {e : TypeId} {v u : Value} {xs : List Value} (ho : w.ownsRow base e size v n xs) (hB : B < base) : (w.setCell ⟨B, j, none⟩ u).ownsRow base e size v n xs := by
  refine ⟨ho.1, ?_⟩
  rcases ho.2 with h0 | ⟨g, cap, cur, hv, hb, hh, hr⟩
  · exact .inl h0
  · exact .inr ⟨g, cap, cur, hv, hb, (Below.heap_setCell _ _ _ _ (fun e => by have e : g = B := e; omega)).trans hh, hr⟩
theorem dmAt_sort {w : World} {B : Nat} {v : Value} {f m : Int} (h : DMAt w B v f m) : OfSort DSort w B := OfSort.of h (.inl rfl)
theorem DM.sort {w : World} {B : Nat} {W : List Mk} {f m : Int} (h : DM w B W f m) : OfSort DSort w B := by obtain ⟨A, n, c, h1, _⟩ := h; exact dmAt_sort h1
theorem DM.put1 {w : World} {B : Nat} {W : List Mk} {f m : Int} (h : DM w B W f m) (v : Int) : DM (w.setCell ⟨B, 1, none⟩ (.int .i64 v)) B W v m := by
  obtain ⟨A, n, c, h1, h2, h3⟩ := h
  exact ⟨A, n, c, by have := heap_setCell_same w B 1 _ _ (.int .i64 v) h1; unfold DMAt; simpa using this, own_put h2 (Nat.lt_succ_self _), h3⟩
/-- A row that grows: its block is of the sort, or new. -/
theorem Turns.grew {B base size n : Nat} {S : TypeId → Prop} {w w1 w2 : World} {e : TypeId} {v : Value} {xs : List Value} (h : Turns B S w w1) (ho : w1.ownsRow base e size v n xs) (hg : w1.grownBy w2 v.ownBlock) (hB : B ≤ base) (hBs : B ≤ w.heap.size) (hs : S e ∨ w.heap.size ≤ base) : Turns B S w w2 := by
  have hk : ∀ g, v.ownBlock = some g → B ≤ g ∧ OfSort S w g := fun g hgb => by
    have h1 := (ho.lt g hgb).1
    refine ⟨by omega, ?_⟩
    rcases hs with hs | hs
    · rcases ho.2 with ⟨rfl, _⟩ | ⟨g', cap, cur, rfl, _, hh, _⟩
      · cases hgb
      · obtain rfl : g' = g := by injection hgb
        intro o hoo
        by_cases hn : ∃ cs t fz, o = .cells cs t fz ∧ S t
        · exact hn
        · have h2 := h.kept g' o hoo (fun cs t fz e2 h2 => hn ⟨cs, t, fz, e2, h2⟩)
          rw [hh] at h2
          exact ⟨_, _, _, (Option.some.inj h2).symm, hs⟩
    · exact OfSort.new (by omega)
  refine ⟨hg.os.trans h.os, hg.tape.trans h.tape, hg.output.trans h.output, Nat.le_trans h.size hg.size, fun k hk2 => ?_, fun k o hk2 hn => ?_⟩
  · exact (hg.block k (by have := h.size; omega) (fun e2 => by have := (hk k e2.symm).1; omega)).trans (h.block k hk2)
  · have h1 := h.kept k o hk2 hn
    exact (hg.block k (theap_lt h1) (fun e2 => by
      obtain ⟨cs, t, fz, e3, h3⟩ := (hk k e2.symm).2 o hk2
      exact hn cs t fz e3 h3)).trans h1
theorem dforget_any {w : World} {B : Nat} {W : List Mk} {f m : Int} (v : Int) (h : DM w B W f m) :
    Calls Try.prog 24 #[.pointer (some ⟨B, 0, none⟩), .int .i64 v] w fun e w' =>
      (v < f ∧ e = .returned (.int .i64 7) ∧ w' = w) ∨ (f ≤ v ∧ e = .returned (.int .i64 0) ∧ w' = w.setCell ⟨B, 1, none⟩ (.int .i64 v)) := by
  obtain ⟨A, n, c, hma, _, _⟩ := h
  have m1 := cell_of_row _ _ 1 _ _ (0, 0) hma
  have z1 := frozen_of_row _ _ 1 _ _ hma
  clear hma
  by_cases e1 : v < f
  · have E1 := hide_ e1
    go_enter Try.func24, Try.ntmps24
    go_wp2_with fail
    go_ret
    exact .inl ⟨E1.out, rfl, rfl⟩
  · have E1 := hide_ (show f ≤ v by omega)
    go_enter Try.func24, Try.ntmps24
    go_wp2_with fail
    go_ret
    exact .inr (by first | exact ⟨E1.out, rfl, rfl⟩ | exact ⟨rfl, rfl⟩)

end Go.Proofs.Ytidlkomgondkiaa
