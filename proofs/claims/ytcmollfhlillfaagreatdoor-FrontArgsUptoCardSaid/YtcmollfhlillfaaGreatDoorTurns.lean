/-
  What a call turns, told by the sort of the blocks: all others stand.
-/
import Derived.Test.YtcmollfhlillfaaGreatDoorOnly
namespace Go.Proofs.YtcmollfhlillfaaGreatDoor
open Go.RowKit
/-- Blocks below B stand, and all that are not of a sort. -/
structure Turns (B : Nat) (S : TypeId → Prop) (w w' : World) : Prop where
  os : w'.os = w.os
  tape : w'.tape = w.tape
  output : w'.output = w.output
  size : w.heap.size ≤ w'.heap.size
  block : ∀ k, k < B → w'.heap[k]? = w.heap[k]?
  kept : ∀ (k : Nat) (o : Obj), w.heap[k]? = some o → (∀ cs t fz, o = .cells cs t fz → ¬ S t) → w'.heap[k]? = some o
theorem theap_lt {w : World} {k : Nat} {o : Obj} (h : w.heap[k]? = some o) : k < w.heap.size := by
  rcases Nat.lt_or_ge k w.heap.size with hlt | hge
  · exact hlt
  · rw [Array.getElem?_eq_none hge] at h; cases h
/-- A block of the sort, or a new one. -/
def OfSort (S : TypeId → Prop) (w : World) (g : Nat) : Prop := ∀ o : Obj, w.heap[g]? = some o → ∃ cs t fz, o = .cells cs t fz ∧ S t
theorem OfSort.of {S : TypeId → Prop} {w : World} {g : Nat} {cs : Array Value} {t : TypeId} {fz : Nat × Nat} (h : w.heap[g]? = some (.cells cs t fz)) (ht : S t) : OfSort S w g := fun o ho => by
  rw [h] at ho; injection ho with ho; exact ⟨cs, t, fz, ho.symm, ht⟩
theorem OfSort.new {S : TypeId → Prop} {w : World} {g : Nat} (h : w.heap.size ≤ g) : OfSort S w g := fun o ho => by
  have := theap_lt ho; omega
theorem Turns.refl (B : Nat) (S : TypeId → Prop) (w : World) : Turns B S w w := ⟨rfl, rfl, rfl, Nat.le_refl _, fun _ _ => rfl, fun _ _ h _ => h⟩
theorem Turns.trans {B : Nat} {S : TypeId → Prop} {a b c : World} (h : Turns B S a b) (k : Turns B S b c) : Turns B S a c :=
  ⟨k.os.trans h.os, k.tape.trans h.tape, k.output.trans h.output, Nat.le_trans h.size k.size, fun i hi => (k.block i hi).trans (h.block i hi), fun i o hi hn => k.kept i o (h.kept i o hi hn) hn⟩
theorem Turns.mono {B B' : Nat} {S S' : TypeId → Prop} {w w' : World} (h : Turns B S w w') (hB : B' ≤ B) (hS : ∀ t, S t → S' t) : Turns B' S' w w' :=
  ⟨h.os, h.tape, h.output, h.size, fun k hk => h.block k (Nat.lt_of_lt_of_le hk hB), fun k o hk hn => h.kept k o hk fun cs t fz e hs => hn cs t fz e (hS t hs)⟩
theorem Turns.later {B : Nat} {S : TypeId → Prop} {w w' : World} (h : Below w.heap.size w w') (hB : B ≤ w.heap.size) : Turns B S w w' :=
  ⟨h.os, h.tape, h.output, h.size, fun k hk => h.block k (by omega), fun k o hk _ => (h.block k (theap_lt hk)).trans hk⟩
theorem Turns.below {B : Nat} {S : TypeId → Prop} {w w' : World} (h : Turns B S w w') : Below B w w' := ⟨h.os, h.tape, h.output, h.size, h.block⟩
theorem Turns.alloc {B : Nat} {S : TypeId → Prop} {w w' : World} (h : Turns B S w w') (hB : B ≤ w.heap.size) (o : Obj) : Turns B S w (w'.alloc o) :=
  h.trans (Turns.later ((Below.refl _ _).alloc (Nat.le_refl _) _) (Nat.le_trans hB h.size))
theorem Turns.grown {B g : Nat} {S : TypeId → Prop} {w w' : World} (h : w.grownBy w' (some g)) (hB : B ≤ g) (hBs : B ≤ w.heap.size) (hg : OfSort S w g) : Turns B S w w' :=
  ⟨h.os, h.tape, h.output, h.size, fun k hk => h.block k (by omega) (fun e => by injection e with e; omega), fun k o hk hn => (h.block k (theap_lt hk) (fun e => by
    injection e with e
    subst e
    obtain ⟨cs, t, fz, ho, ht⟩ := hg o hk
    exact hn cs t fz ho ht)).trans hk⟩
theorem Turns.setCell {B g : Nat} {S : TypeId → Prop} {w w' : World} (h : Turns B S w w') (hB : B ≤ g) (hg : OfSort S w g) (j : Nat) (u : Value) : Turns B S w (w'.setCell ⟨g, j, none⟩ u) :=
  ⟨h.os, h.tape, h.output, by have := h.size; simpa [World.setCell] using this, fun k hk => (Below.heap_setCell _ _ _ _ (fun e => by have e : k = g := e; omega)).trans (h.block k hk), fun k o hk hn => by
    rw [Below.heap_setCell _ _ _ _ (fun e => by
      have e : k = g := e
      subst e
      obtain ⟨cs, t, fz, ho, ht⟩ := hg o hk
      exact hn cs t fz ho ht)]
    exact h.kept k o hk hn⟩
theorem Turns.setRow {B g : Nat} {S : TypeId → Prop} {w w' : World} (h : Turns B S w w') (hB : B ≤ g) (hg : OfSort S w g) (cs : Array Value) : Turns B S w (w'.setRow g cs) :=
  ⟨h.os, h.tape, h.output, by have := h.size; simpa [World.setRow] using this, fun k hk => (setRow_other _ _ _ _ (fun e => by omega)).trans (h.block k hk), fun k o hk hn => by
    rw [setRow_other _ _ _ _ (fun e => by
      subst e
      obtain ⟨cs, t, fz, ho, ht⟩ := hg o hk
      exact hn cs t fz ho ht)]
    exact h.kept k o hk hn⟩
theorem Turns.row {B : Nat} {S : TypeId → Prop} {w w' : World} (h : Turns B S w w') {k : Nat} {cs : Array Value} {t : TypeId} {fz : Nat × Nat} (hk : w.heap[k]? = some (.cells cs t fz)) (ht : ¬ S t) : w'.heap[k]? = some (.cells cs t fz) :=
  h.kept k _ hk fun cs' t' fz' e hs => by injection e with _ e2 _; subst e2; exact ht hs
theorem Turns.own {B : Nat} {S : TypeId → Prop} {w w' : World} (h : Turns B S w w') {base size n : Nat} {e : TypeId} {v : Value} {xs : List Value} (ho : w.ownsRow base e size v n xs) (hS : ¬ S e) : w'.ownsRow base e size v n xs := by
  refine ⟨ho.1, ?_⟩
  rcases ho.2 with h0 | ⟨g, cap, cur, hv, hb, hh, hr⟩
  · exact .inl h0
  · exact .inr ⟨g, cap, cur, hv, hb, h.row hh hS, hr⟩
end Go.Proofs.YtcmollfhlillfaaGreatDoor
