/-
  Texts of this seat in one: Only, Turns, Hits.
-/
import Derived.Test.YtcmollfhlillfaaGreatDoorM6
import Derived.Test.YtcmollfhlillfaaGreatDoorM7
import Derived.Test.YtcmollfhlillfaaGreatDoorM5
/-
  What is written: one row of the call's own and new blocks alone.
-/
namespace Go.Proofs.YtcmollfhlillfaaGreatDoor
open Go.RowKit
theorem grown_trans {w w1 w2 : World} {row row2 : Option Nat} (h : w.grownBy w1 row) (k : w1.grownBy w2 row2) (hr : row2 = row ∨ ∀ b, row2 = some b → w.heap.size ≤ b) : w.grownBy w2 row :=
  ⟨k.os.trans h.os, k.tape.trans h.tape, k.output.trans h.output, Nat.le_trans h.size k.size, fun i hi hne => (k.block i (Nat.lt_of_lt_of_le hi h.size) (fun e => by
    rcases hr with rfl | hr
    · exact hne e
    · have := hr i e.symm; omega)).trans (h.block i hi hne)⟩
theorem grown_drew {w w' : World} {row : Option Nat} (h : w.grownBy w' row) : w.grownBy w'.drew row := ⟨h.os, h.tape, h.output, h.size, h.block⟩
theorem grown_later {w w' : World} (h : Later w w') (row : Option Nat) : w.grownBy w' row := ⟨h.os, h.tape, h.output, h.size, fun k hk _ => h.block k hk⟩
theorem grown_alloc {w w' : World} {row : Option Nat} (h : w.grownBy w' row) (o : Obj) : w.grownBy (w'.alloc o) row := grown_trans h (World.grownBy_alloc w' o row) (.inl rfl)
theorem grown_setRow {w w' : World} {g : Nat} {row : Option Nat} (h : w.grownBy w' row) (hg : row = some g ∨ w.heap.size ≤ g) (cs : Array Value) : w.grownBy (w'.setRow g cs) row :=
  ⟨h.os, h.tape, h.output, by have := h.size; simpa [World.setRow] using this, fun k hk hne => by
    rw [setRow_other _ _ _ _ (fun e => by
      rcases hg with hg | hg
      · exact hne (by rw [e, hg])
      · omega)]
    exact h.block k hk hne⟩
theorem grown_setCell {w w' : World} {g o : Nat} {row : Option Nat} (h : w.grownBy w' row) (hg : row = some g ∨ w.heap.size ≤ g) (u : Value) : w.grownBy (w'.setCell ⟨g, o, none⟩ u) row :=
  ⟨h.os, h.tape, h.output, by have := h.size; simpa [World.setCell] using this, fun k hk hne => by
    rw [Below.heap_setCell _ _ _ _ (fun e => by
      have e : k = g := e
      rcases hg with hg | hg
      · exact hne (by rw [e, hg])
      · omega)]
    exact h.block k hk hne⟩
theorem grown_blocks {B : Nat} {w w' : World} {g : Nat} (hb : Below B w w') (hk : ∀ k, k ≠ g → w'.heap[k]? = w.heap[k]?) : w.grownBy w' (some g) :=
  ⟨hb.os, hb.tape, hb.output, hb.size, fun k _ hne => hk k fun e => hne (by rw [e])⟩
/-- Rows of unlike elements lie in unlike blocks. -/
theorem own_apart {w : World} {b1 b2 : Nat} {e1 e2 : TypeId} {s1 s2 n1 n2 : Nat} {v1 v2 : Value} {x1 x2 : List Value} (h1 : w.ownsRow b1 e1 s1 v1 n1 x1) (h2 : w.ownsRow b2 e2 s2 v2 n2 x2) (he : e1 ≠ e2) : v1.ownBlock = none ∨ v1.ownBlock ≠ v2.ownBlock := by
  rcases h1.2 with ⟨rfl, _⟩ | ⟨g1, c1, cur1, rfl, _, hg1, _⟩
  · exact .inl rfl
  · rcases h2.2 with ⟨rfl, _⟩ | ⟨g2, c2, cur2, rfl, _, hg2, _⟩
    · exact .inr fun h => nomatch h
    · refine .inr fun h => he ?_
      have : g1 = g2 := by injection h
      subst this
      rw [hg1] at hg2
      injection hg2 with hg2
      injection hg2
theorem own_kept {w w' : World} {b1 b2 : Nat} {e1 e2 : TypeId} {s1 s2 n1 n2 : Nat} {v1 v2 : Value} {x1 x2 : List Value} (h1 : w.ownsRow b1 e1 s1 v1 n1 x1) (h2 : w.ownsRow b2 e2 s2 v2 n2 x2) (he : e1 ≠ e2) (hg : w.grownBy w' v2.ownBlock) : w'.ownsRow b1 e1 s1 v1 n1 x1 := h1.kept hg (own_apart h1 h2 he)
end Go.Proofs.YtcmollfhlillfaaGreatDoor
/-
  What a call turns, told by the sort of the blocks: all others stand.
-/
namespace Go.Proofs.YtcmollfhlillfaaGreatDoor
open Go.RowKit
/-- Blocks below B stand, and all that are not of a sort. -/
structure Turns (B : Nat) (S : TypeId → Prop) (w w' : World) : Prop where
  os : w'.os = w.os
  tape : w'.tape = w.tape
  output : w'.output = w.output
  size : w.heap.size ≤ w'.heap.size
  block : ∀ k, k < B → w'.heap[k]? = w.heap[k]?
  kept : ∀ (k : Nat) (o : Obj), w.heap[k]? = some o → (∀ cs t fz, o = .cells cs t fz → ¬ S t) → w'.heap[k]? = some o
theorem theap_lt {w : World} {k : Nat} {o : Obj} (h : w.heap[k]? = some o) : k < w.heap.size := by
  rcases Nat.lt_or_ge k w.heap.size with hlt | hge
  · exact hlt
  · rw [Array.getElem?_eq_none hge] at h; cases h
/-- A block of the sort, or a new one. -/
def OfSort (S : TypeId → Prop) (w : World) (g : Nat) : Prop := ∀ o : Obj, w.heap[g]? = some o → ∃ cs t fz, o = .cells cs t fz ∧ S t
theorem OfSort.of {S : TypeId → Prop} {w : World} {g : Nat} {cs : Array Value} {t : TypeId} {fz : Nat × Nat} (h : w.heap[g]? = some (.cells cs t fz)) (ht : S t) : OfSort S w g := fun o ho => by
  rw [h] at ho; injection ho with ho; exact ⟨cs, t, fz, ho.symm, ht⟩
theorem OfSort.new {S : TypeId → Prop} {w : World} {g : Nat} (h : w.heap.size ≤ g) : OfSort S w g := fun o ho => by
  have := theap_lt ho; omega
theorem Turns.refl (B : Nat) (S : TypeId → Prop) (w : World) : Turns B S w w := ⟨rfl, rfl, rfl, Nat.le_refl _, fun _ _ => rfl, fun _ _ h _ => h⟩
theorem Turns.trans {B : Nat} {S : TypeId → Prop} {a b c : World} (h : Turns B S a b) (k : Turns B S b c) : Turns B S a c :=
  ⟨k.os.trans h.os, k.tape.trans h.tape, k.output.trans h.output, Nat.le_trans h.size k.size, fun i hi => (k.block i hi).trans (h.block i hi), fun i o hi hn => k.kept i o (h.kept i o hi hn) hn⟩
theorem Turns.mono {B B' : Nat} {S S' : TypeId → Prop} {w w' : World} (h : Turns B S w w') (hB : B' ≤ B) (hS : ∀ t, S t → S' t) : Turns B' S' w w' :=
  ⟨h.os, h.tape, h.output, h.size, fun k hk => h.block k (Nat.lt_of_lt_of_le hk hB), fun k o hk hn => h.kept k o hk fun cs t fz e hs => hn cs t fz e (hS t hs)⟩
theorem Turns.later {B : Nat} {S : TypeId → Prop} {w w' : World} (h : Below w.heap.size w w') (hB : B ≤ w.heap.size) : Turns B S w w' :=
  ⟨h.os, h.tape, h.output, h.size, fun k hk => h.block k (by omega), fun k o hk _ => (h.block k (theap_lt hk)).trans hk⟩
theorem Turns.below {B : Nat} {S : TypeId → Prop} {w w' : World} (h : Turns B S w w') : Below B w w' := ⟨h.os, h.tape, h.output, h.size, h.block⟩
theorem Turns.alloc {B : Nat} {S : TypeId → Prop} {w w' : World} (h : Turns B S w w') (hB : B ≤ w.heap.size) (o : Obj) : Turns B S w (w'.alloc o) :=
  h.trans (Turns.later ((Below.refl _ _).alloc (Nat.le_refl _) _) (Nat.le_trans hB h.size))
theorem Turns.grown {B g : Nat} {S : TypeId → Prop} {w w' : World} (h : w.grownBy w' (some g)) (hB : B ≤ g) (hBs : B ≤ w.heap.size) (hg : OfSort S w g) : Turns B S w w' :=
  ⟨h.os, h.tape, h.output, h.size, fun k hk => h.block k (by omega) (fun e => by injection e with e; omega), fun k o hk hn => (h.block k (theap_lt hk) (fun e => by
    injection e with e
    subst e
    obtain ⟨cs, t, fz, ho, ht⟩ := hg o hk
    exact hn cs t fz ho ht)).trans hk⟩
theorem Turns.setCell {B g : Nat} {S : TypeId → Prop} {w w' : World} (h : Turns B S w w') (hB : B ≤ g) (hg : OfSort S w g) (j : Nat) (u : Value) : Turns B S w (w'.setCell ⟨g, j, none⟩ u) :=
  ⟨h.os, h.tape, h.output, by have := h.size; simpa [World.setCell] using this, fun k hk => (Below.heap_setCell _ _ _ _ (fun e => by have e : k = g := e; omega)).trans (h.block k hk), fun k o hk hn => by
    rw [Below.heap_setCell _ _ _ _ (fun e => by
      have e : k = g := e
      subst e
      obtain ⟨cs, t, fz, ho, ht⟩ := hg o hk
      exact hn cs t fz ho ht)]
    exact h.kept k o hk hn⟩
theorem Turns.setRow {B g : Nat} {S : TypeId → Prop} {w w' : World} (h : Turns B S w w') (hB : B ≤ g) (hg : OfSort S w g) (cs : Array Value) : Turns B S w (w'.setRow g cs) :=
  ⟨h.os, h.tape, h.output, by have := h.size; simpa [World.setRow] using this, fun k hk => (setRow_other _ _ _ _ (fun e => by omega)).trans (h.block k hk), fun k o hk hn => by
    rw [setRow_other _ _ _ _ (fun e => by
      subst e
      obtain ⟨cs, t, fz, ho, ht⟩ := hg o hk
      exact hn cs t fz ho ht)]
    exact h.kept k o hk hn⟩
theorem Turns.row {B : Nat} {S : TypeId → Prop} {w w' : World} (h : Turns B S w w') {k : Nat} {cs : Array Value} {t : TypeId} {fz : Nat × Nat} (hk : w.heap[k]? = some (.cells cs t fz)) (ht : ¬ S t) : w'.heap[k]? = some (.cells cs t fz) :=
  h.kept k _ hk fun cs' t' fz' e hs => by injection e with _ e2 _; subst e2; exact ht hs
theorem Turns.own {B : Nat} {S : TypeId → Prop} {w w' : World} (h : Turns B S w w') {base size n : Nat} {e : TypeId} {v : Value} {xs : List Value} (ho : w.ownsRow base e size v n xs) (hS : ¬ S e) : w'.ownsRow base e size v n xs := by
  refine ⟨ho.1, ?_⟩
  rcases ho.2 with h0 | ⟨g, cap, cur, hv, hb, hh, hr⟩
  · exact .inl h0
  · exact .inr ⟨g, cap, cur, hv, hb, h.row hh hS, hr⟩
end Go.Proofs.YtcmollfhlillfaaGreatDoor
/-
  What a call turns, told by a set of blocks: all others that were there stand.
-/
namespace Go.Proofs.YtcmollfhlillfaaGreatDoor
open Go.RowKit
structure Hits (F : Nat → Prop) (w w' : World) : Prop where
  os : w'.os = w.os
  tape : w'.tape = w.tape
  output : w'.output = w.output
  size : w.heap.size ≤ w'.heap.size
  kept : ∀ k, k < w.heap.size → ¬ F k → w'.heap[k]? = w.heap[k]?
theorem Hits.refl (F : Nat → Prop) (w : World) : Hits F w w := ⟨rfl, rfl, rfl, Nat.le_refl _, fun _ _ _ => rfl⟩
theorem Hits.trans {F G : Nat → Prop} {a b c : World} (h : Hits F a b) (k : Hits G b c) (hG : ∀ i, i < a.heap.size → G i → F i) : Hits F a c :=
  ⟨k.os.trans h.os, k.tape.trans h.tape, k.output.trans h.output, Nat.le_trans h.size k.size, fun i hi hF => (k.kept i (Nat.lt_of_lt_of_le hi h.size) fun hg => hF (hG i hi hg)).trans (h.kept i hi hF)⟩
theorem Hits.mono {F G : Nat → Prop} {w w' : World} (h : Hits F w w') (hFG : ∀ i, i < w.heap.size → F i → G i) : Hits G w w' :=
  ⟨h.os, h.tape, h.output, h.size, fun k hk hn => h.kept k hk fun hF => hn (hFG k hk hF)⟩
theorem Hits.later {F : Nat → Prop} {w w' : World} (h : Below w.heap.size w w') : Hits F w w' := ⟨h.os, h.tape, h.output, h.size, fun k hk _ => h.block k hk⟩
theorem Hits.thenLater {F : Nat → Prop} {w w' w'' : World} (h : Hits F w w') (k : Below w'.heap.size w' w'') : Hits F w w'' :=
  h.trans (Hits.later (F := fun _ => False) k) fun _ _ hF => hF.elim
theorem Hits.alloc {F : Nat → Prop} {w w' : World} (h : Hits F w w') (o : Obj) : Hits F w (w'.alloc o) := h.thenLater ((Below.refl _ _).alloc (Nat.le_refl _) _)
theorem Hits.drewN {F : Nat → Prop} {w w' : World} (h : Hits F w w') (n : Nat) : Hits F w (w'.drewN n) := ⟨h.os, h.tape, h.output, h.size, h.kept⟩
theorem Hits.setCell {F : Nat → Prop} {w w' : World} (h : Hits F w w') {g : Nat} (hg : g < w.heap.size → F g) (j : Nat) (u : Value) : Hits F w (w'.setCell ⟨g, j, none⟩ u) :=
  ⟨h.os, h.tape, h.output, by have := h.size; simpa [World.setCell] using this, fun k hk hn => (Below.heap_setCell _ _ _ _ (fun e => by
    have e : k = g := e
    subst e; exact hn (hg hk))).trans (h.kept k hk hn)⟩
theorem Hits.grown {F : Nat → Prop} {w w' w'' : World} (h : Hits F w w') {row : Option Nat} (hg : w'.grownBy w'' row) (hF : ∀ g, row = some g → g < w.heap.size → F g) : Hits F w w'' :=
  ⟨hg.os.trans h.os, hg.tape.trans h.tape, hg.output.trans h.output, Nat.le_trans h.size hg.size, fun k hk hn => (hg.block k (Nat.lt_of_lt_of_le hk h.size) (fun e => hn (hF k e.symm hk))).trans (h.kept k hk hn)⟩
theorem Hits.below {F : Nat → Prop} {w w' : World} (h : Hits F w w') {B : Nat} (hB : B ≤ w.heap.size) (hF : ∀ k, F k → B ≤ k) : Below B w w' :=
  ⟨h.os, h.tape, h.output, h.size, fun k hk => h.kept k (by omega) fun hk2 => by have := hF k hk2; omega⟩
theorem Hits.row {F : Nat → Prop} {w w' : World} (h : Hits F w w') {k : Nat} {o : Obj} (hk : w.heap[k]? = some o) (hn : ¬ F k) : w'.heap[k]? = some o := (h.kept k (theap_lt hk) hn).trans hk
theorem Hits.own {F : Nat → Prop} {w w' : World} (h : Hits F w w') {base size n : Nat} {e : TypeId} {v : Value} {xs : List Value} (ho : w.ownsRow base e size v n xs) (hn : ∀ k, v.ownBlock = some k → ¬ F k) : w'.ownsRow base e size v n xs := by
  refine ⟨ho.1, ?_⟩
  rcases ho.2 with h0 | ⟨g, cap, cur, hv, hb, hh, hr⟩
  · exact .inl h0
  · subst hv; exact .inr ⟨g, cap, cur, rfl, hb, h.row hh (hn g rfl), hr⟩
theorem Hits.rd {F : Nat → Prop} {w w' : World} (h : Hits F w w') {size n : Nat} {A : Option Addr} {xs : List Value} (hr : Rd w size A n xs) (hn : ∀ a, A = some a → ¬ F a.block) : Rd w' size A n xs := by
  refine ⟨hr.1, fun h0 => ?_⟩
  obtain ⟨b, o, e, hc⟩ := hr.2 h0
  refine ⟨b, o, e, fun j u hu => ?_⟩
  have h1 := hc j u hu
  have h2 := h.kept b (cell_lt h1) (hn _ e)
  unfold World.cell? at h1 ⊢
  rw [h2]; exact h1
/-- An own row's block lies in the heap, behind its base. -/
theorem own_block {w : World} {base size n g : Nat} {e : TypeId} {v : Value} {xs : List Value} (ho : w.ownsRow base e size v n xs) (hg : v.ownBlock = some g) : base ≤ g ∧ g < w.heap.size ∧ ∃ cs, w.heap[g]? = some (.cells cs e (0, 0)) := by
  rcases ho.2 with ⟨rfl, _⟩ | ⟨g', cap, cur, rfl, hb, hh, _⟩
  · cases hg
  · have e : g' = g := by injection hg
    subst e
    exact ⟨hb, theap_lt hh, cur, hh⟩
end Go.Proofs.YtcmollfhlillfaaGreatDoor
