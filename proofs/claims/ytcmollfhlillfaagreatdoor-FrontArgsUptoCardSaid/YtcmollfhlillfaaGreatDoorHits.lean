/-
  What a call turns, told by a set of blocks: all others that were there stand.
-/
import Derived.Test.YtcmollfhlillfaaGreatDoorOnly
import Derived.Test.YtcmollfhlillfaaGreatDoorTurns
namespace Go.Proofs.YtcmollfhlillfaaGreatDoor
open Go.RowKit
structure Hits (F : Nat → Prop) (w w' : World) : Prop where
  os : w'.os = w.os
  tape : w'.tape = w.tape
  output : w'.output = w.output
  size : w.heap.size ≤ w'.heap.size
  kept : ∀ k, k < w.heap.size → ¬ F k → w'.heap[k]? = w.heap[k]?
theorem Hits.refl (F : Nat → Prop) (w : World) : Hits F w w := ⟨rfl, rfl, rfl, Nat.le_refl _, fun _ _ _ => rfl⟩
theorem Hits.trans {F G : Nat → Prop} {a b c : World} (h : Hits F a b) (k : Hits G b c) (hG : ∀ i, i < a.heap.size → G i → F i) : Hits F a c :=
  ⟨k.os.trans h.os, k.tape.trans h.tape, k.output.trans h.output, Nat.le_trans h.size k.size, fun i hi hF => (k.kept i (Nat.lt_of_lt_of_le hi h.size) fun hg => hF (hG i hi hg)).trans (h.kept i hi hF)⟩
theorem Hits.mono {F G : Nat → Prop} {w w' : World} (h : Hits F w w') (hFG : ∀ i, i < w.heap.size → F i → G i) : Hits G w w' :=
  ⟨h.os, h.tape, h.output, h.size, fun k hk hn => h.kept k hk fun hF => hn (hFG k hk hF)⟩
theorem Hits.later {F : Nat → Prop} {w w' : World} (h : Below w.heap.size w w') : Hits F w w' := ⟨h.os, h.tape, h.output, h.size, fun k hk _ => h.block k hk⟩
theorem Hits.thenLater {F : Nat → Prop} {w w' w'' : World} (h : Hits F w w') (k : Below w'.heap.size w' w'') : Hits F w w'' :=
  h.trans (Hits.later (F := fun _ => False) k) fun _ _ hF => hF.elim
theorem Hits.alloc {F : Nat → Prop} {w w' : World} (h : Hits F w w') (o : Obj) : Hits F w (w'.alloc o) := h.thenLater ((Below.refl _ _).alloc (Nat.le_refl _) _)
theorem Hits.drewN {F : Nat → Prop} {w w' : World} (h : Hits F w w') (n : Nat) : Hits F w (w'.drewN n) := ⟨h.os, h.tape, h.output, h.size, h.kept⟩
theorem Hits.setCell {F : Nat → Prop} {w w' : World} (h : Hits F w w') {g : Nat} (hg : g < w.heap.size → F g) (j : Nat) (u : Value) : Hits F w (w'.setCell ⟨g, j, none⟩ u) :=
  ⟨h.os, h.tape, h.output, by have := h.size; simpa [World.setCell] using this, fun k hk hn => (Below.heap_setCell _ _ _ _ (fun e => by
    have e : k = g := e
    subst e; exact hn (hg hk))).trans (h.kept k hk hn)⟩
theorem Hits.grown {F : Nat → Prop} {w w' w'' : World} (h : Hits F w w') {row : Option Nat} (hg : w'.grownBy w'' row) (hF : ∀ g, row = some g → g < w.heap.size → F g) : Hits F w w'' :=
  ⟨hg.os.trans h.os, hg.tape.trans h.tape, hg.output.trans h.output, Nat.le_trans h.size hg.size, fun k hk hn => (hg.block k (Nat.lt_of_lt_of_le hk h.size) (fun e => hn (hF k e.symm hk))).trans (h.kept k hk hn)⟩
theorem Hits.below {F : Nat → Prop} {w w' : World} (h : Hits F w w') {B : Nat} (hB : B ≤ w.heap.size) (hF : ∀ k, F k → B ≤ k) : Below B w w' :=
  ⟨h.os, h.tape, h.output, h.size, fun k hk => h.kept k (by omega) fun hk2 => by have := hF k hk2; omega⟩
theorem Hits.row {F : Nat → Prop} {w w' : World} (h : Hits F w w') {k : Nat} {o : Obj} (hk : w.heap[k]? = some o) (hn : ¬ F k) : w'.heap[k]? = some o := (h.kept k (theap_lt hk) hn).trans hk
theorem Hits.own {F : Nat → Prop} {w w' : World} (h : Hits F w w') {base size n : Nat} {e : TypeId} {v : Value} {xs : List Value} (ho : w.ownsRow base e size v n xs) (hn : ∀ k, v.ownBlock = some k → ¬ F k) : w'.ownsRow base e size v n xs := by
  refine ⟨ho.1, ?_⟩
  rcases ho.2 with h0 | ⟨g, cap, cur, hv, hb, hh, hr⟩
  · exact .inl h0
  · subst hv; exact .inr ⟨g, cap, cur, rfl, hb, h.row hh (hn g rfl), hr⟩
theorem Hits.rd {F : Nat → Prop} {w w' : World} (h : Hits F w w') {size n : Nat} {A : Option Addr} {xs : List Value} (hr : Rd w size A n xs) (hn : ∀ a, A = some a → ¬ F a.block) : Rd w' size A n xs := by
  refine ⟨hr.1, fun h0 => ?_⟩
  obtain ⟨b, o, e, hc⟩ := hr.2 h0
  refine ⟨b, o, e, fun j u hu => ?_⟩
  have h1 := hc j u hu
  have h2 := h.kept b (cell_lt h1) (hn _ e)
  unfold World.cell? at h1 ⊢
  rw [h2]; exact h1
/-- An own row's block lies in the heap, behind its base. -/
theorem own_block {w : World} {base size n g : Nat} {e : TypeId} {v : Value} {xs : List Value} (ho : w.ownsRow base e size v n xs) (hg : v.ownBlock = some g) : base ≤ g ∧ g < w.heap.size ∧ ∃ cs, w.heap[g]? = some (.cells cs e (0, 0)) := by
  rcases ho.2 with ⟨rfl, _⟩ | ⟨g', cap, cur, rfl, hb, hh, _⟩
  · cases hg
  · have e : g' = g := by injection hg
    subst e
    exact ⟨hb, theap_lt hh, cur, hh⟩
end Go.Proofs.YtcmollfhlillfaaGreatDoor
