/-
  What is written: one row of the call's own and new blocks alone.
-/
import Derived.Test.YtcmollfhlillfaaGreatDoorRec
import Derived.Test.YtcmollfhlillfaaGreatDoorRows2
import Derived.Test.YtcmollfhlillfaaGreatDoorRegion
namespace Go.Proofs.YtcmollfhlillfaaGreatDoor
open Go.RowKit
theorem grown_trans {w w1 w2 : World} {row row2 : Option Nat} (h : w.grownBy w1 row) (k : w1.grownBy w2 row2) (hr : row2 = row ∨ ∀ b, row2 = some b → w.heap.size ≤ b) : w.grownBy w2 row :=
  ⟨k.os.trans h.os, k.tape.trans h.tape, k.output.trans h.output, Nat.le_trans h.size k.size, fun i hi hne => (k.block i (Nat.lt_of_lt_of_le hi h.size) (fun e => by
    rcases hr with rfl | hr
    · exact hne e
    · have := hr i e.symm; omega)).trans (h.block i hi hne)⟩
theorem grown_drew {w w' : World} {row : Option Nat} (h : w.grownBy w' row) : w.grownBy w'.drew row := ⟨h.os, h.tape, h.output, h.size, h.block⟩
theorem grown_later {w w' : World} (h : Later w w') (row : Option Nat) : w.grownBy w' row := ⟨h.os, h.tape, h.output, h.size, fun k hk _ => h.block k hk⟩
theorem grown_alloc {w w' : World} {row : Option Nat} (h : w.grownBy w' row) (o : Obj) : w.grownBy (w'.alloc o) row := grown_trans h (World.grownBy_alloc w' o row) (.inl rfl)
theorem grown_setRow {w w' : World} {g : Nat} {row : Option Nat} (h : w.grownBy w' row) (hg : row = some g ∨ w.heap.size ≤ g) (cs : Array Value) : w.grownBy (w'.setRow g cs) row :=
  ⟨h.os, h.tape, h.output, by have := h.size; simpa [World.setRow] using this, fun k hk hne => by
    rw [setRow_other _ _ _ _ (fun e => by
      rcases hg with hg | hg
      · exact hne (by rw [e, hg])
      · omega)]
    exact h.block k hk hne⟩
theorem grown_setCell {w w' : World} {g o : Nat} {row : Option Nat} (h : w.grownBy w' row) (hg : row = some g ∨ w.heap.size ≤ g) (u : Value) : w.grownBy (w'.setCell ⟨g, o, none⟩ u) row :=
  ⟨h.os, h.tape, h.output, by have := h.size; simpa [World.setCell] using this, fun k hk hne => by
    rw [Below.heap_setCell _ _ _ _ (fun e => by
      have e : k = g := e
      rcases hg with hg | hg
      · exact hne (by rw [e, hg])
      · omega)]
    exact h.block k hk hne⟩
theorem grown_blocks {B : Nat} {w w' : World} {g : Nat} (hb : Below B w w') (hk : ∀ k, k ≠ g → w'.heap[k]? = w.heap[k]?) : w.grownBy w' (some g) :=
  ⟨hb.os, hb.tape, hb.output, hb.size, fun k _ hne => hk k fun e => hne (by rw [e])⟩
/-- Rows of unlike elements lie in unlike blocks. -/
theorem own_apart {w : World} {b1 b2 : Nat} {e1 e2 : TypeId} {s1 s2 n1 n2 : Nat} {v1 v2 : Value} {x1 x2 : List Value} (h1 : w.ownsRow b1 e1 s1 v1 n1 x1) (h2 : w.ownsRow b2 e2 s2 v2 n2 x2) (he : e1 ≠ e2) : v1.ownBlock = none ∨ v1.ownBlock ≠ v2.ownBlock := by
  rcases h1.2 with ⟨rfl, _⟩ | ⟨g1, c1, cur1, rfl, _, hg1, _⟩
  · exact .inl rfl
  · rcases h2.2 with ⟨rfl, _⟩ | ⟨g2, c2, cur2, rfl, _, hg2, _⟩
    · exact .inr fun h => nomatch h
    · refine .inr fun h => he ?_
      have : g1 = g2 := by injection h
      subst this
      rw [hg1] at hg2
      injection hg2 with hg2
      injection hg2
theorem own_kept {w w' : World} {b1 b2 : Nat} {e1 e2 : TypeId} {s1 s2 n1 n2 : Nat} {v1 v2 : Value} {x1 x2 : List Value} (h1 : w.ownsRow b1 e1 s1 v1 n1 x1) (h2 : w.ownsRow b2 e2 s2 v2 n2 x2) (he : e1 ≠ e2) (hg : w.grownBy w' v2.ownBlock) : w'.ownsRow b1 e1 s1 v1 n1 x1 := h1.kept hg (own_apart h1 h2 he)
end Go.Proofs.YtcmollfhlillfaaGreatDoor
