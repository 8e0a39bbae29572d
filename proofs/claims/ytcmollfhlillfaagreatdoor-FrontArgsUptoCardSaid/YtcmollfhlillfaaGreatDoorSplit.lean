/-
  A region in which two operations may come up in either order, both ways followed; a cut behind it.
-/
import Derived.Test.YtcmollfhlillfaaGreatDoorLoud
namespace Go.Proofs.YtcmollfhlillfaaGreatDoor
open Go.RowKit
section
variable {P : Program} {ops : Array Oper} {Q : Exit → Act → World → Prop} {md : Region.Mode} {loud : List Nat}
/-- Number i is taken first, where none is loud. -/
theorem wpAnyL_take0 (i : Nat) {oi : Oper} {rest : List Oper} {v : Value} {fuel : Nat} {listed : Array Bool} {a : Act} {w : World} (hi : ops.toList.drop i = oi :: rest)
    (hs : Region.noSelect ops = true) (hf : Region.free md ops listed i = true) (hr : (Region.ready md ops listed).contains i = true)
    (hQ : ∀ c a w, Q (.panic c) (a.put oi.dst v) w → Q (.panic c) a w) (hw : Region.wanted oi (yielded ops a.tmps) = true)
    (hy : ∀ W, Later w W → (execOp a.eval oi).run P W = .ok (.value v) W)
    (h : wpAnyL P md ops Q [] fuel (listed.setIfInBounds i true) (a.put oi.dst v) w) : wpAnyL P md ops Q [] (fuel + 1) listed a w :=
  wpAnyL_first Later Later.steady (fun _ => True) (fun _ _ _ _ _ => ⟨trivial, fun _ _ h => h.elim (fun h => by cases h) id⟩) (op_of_drop hi) (Region.noSelect_spec hs) hQ fuel listed a w trivial (Region.free_spec (op_of_drop hi) hf) (by simpa using hr) (.inl ⟨hw, hy⟩) h
/-- Two may come up; none is loud. -/
theorem wpAnyL_two (i j : Nat) {oi oj : Oper} {ri rj : List Oper} {fuel : Nat} {listed : Array Bool} {a : Act} {w : World} (hr : Region.ready md ops listed = [i, j]) (hoi : ops.toList.drop i = oi :: ri) (hoj : ops.toList.drop j = oj :: rj)
    (hi : ∀ K : Act → World → Prop, Shut (∀ a' w', Later w w' → wpAnyL P md ops Q loud fuel (listed.setIfInBounds i true) a' w' → K a' w') → if Region.wanted oi (yielded ops a.tmps) = true then Oper.wp P oi a w K Q else K (a.put oi.dst undef) w)
    (hj : ∀ K : Act → World → Prop, Shut (∀ a' w', Later w w' → wpAnyL P md ops Q loud fuel (listed.setIfInBounds j true) a' w' → K a' w') → if Region.wanted oj (yielded ops a.tmps) = true then Oper.wp P oj a w K Q else K (a.put oj.dst undef) w) :
    wpAnyL P md ops Q loud (fuel + 1) listed a w := by
  refine ⟨fun h0 => (by rw [hr] at h0; cases h0), fun k hk => ?_⟩
  rw [hr] at hk
  rcases List.mem_cons.1 hk with rfl | hk
  · exact wpOp_step (op_of_drop hoi) fun K hK => hi K fun a' w' hl hW => hK a' w' ⟨.inr hl, hW⟩
  · obtain rfl : k = j := by simpa using hk
    exact wpOp_step (op_of_drop hoj) fun K hK => hj K fun a' w' hl hW => hK a' w' ⟨.inr hl, hW⟩
/-- Two may come up; loud ones too. -/
theorem wpAnyL_both (i j : Nat) {oi oj : Oper} {ri rj : List Oper} {fuel : Nat} {listed : Array Bool} {a : Act} {w : World} (hr : Region.ready md ops listed = [i, j]) (hoi : ops.toList.drop i = oi :: ri) (hoj : ops.toList.drop j = oj :: rj)
    (hi : ∀ K : Act → World → Prop, Shut (∀ a' w', (i ∈ loud ∨ Later w w') → wpAnyL P md ops Q loud fuel (listed.setIfInBounds i true) a' w' → K a' w') → if Region.wanted oi (yielded ops a.tmps) = true then Oper.wp P oi a w K Q else K (a.put oi.dst undef) w)
    (hj : ∀ K : Act → World → Prop, Shut (∀ a' w', (j ∈ loud ∨ Later w w') → wpAnyL P md ops Q loud fuel (listed.setIfInBounds j true) a' w' → K a' w') → if Region.wanted oj (yielded ops a.tmps) = true then Oper.wp P oj a w K Q else K (a.put oj.dst undef) w) :
    wpAnyL P md ops Q loud (fuel + 1) listed a w := by
  refine ⟨fun h0 => (by rw [hr] at h0; cases h0), fun k hk => ?_⟩
  rw [hr] at hk
  rcases List.mem_cons.1 hk with rfl | hk
  · exact wpOp_step (op_of_drop hoi) fun K hK => hi K fun a' w' hl hW => hK a' w' ⟨hl, hW⟩
  · obtain rfl : k = j := by simpa using hk
    exact wpOp_step (op_of_drop hoj) fun K hK => hj K fun a' w' hl hW => hK a' w' ⟨hl, hW⟩
/-- A cut: a region that ends as usual, in one of some frames. -/
def CutPost (F : Nat → World → Prop) (T : Nat → Act) : Exit → Act → World → Prop
  | .normal, a, W => ∃ b, a = T b ∧ F b W
  | _, _, _ => False
theorem cut_leaf {F : Nat → World → Prop} {T : Nat → Act} {a : Act} {W : World} (b : Nat) (h1 : a = T b) (h2 : F b W) : CutPost F T .normal a W := ⟨b, h1, h2⟩
theorem wp_cut {c : Code} {a : Act} {w : World} (F : Nat → World → Prop) (T : Nat → Act) (h1 : c.wp P (CutPost F T) a w) (h2 : ∀ b W, F b W → Q .normal (T b) W) : c.wp P Q a w :=
  Code.wp_mono (fun e a' W h => by cases e with | normal => obtain ⟨b, rfl, hF⟩ := h; exact h2 b W hF | _ => exact h.elim) h1
end
end Go.Proofs.YtcmollfhlillfaaGreatDoor
