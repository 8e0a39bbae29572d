/-
  Texts of this seat in one: Zone.
-/
import Derived.Test.YtcmollfhlillfaaGreatDoorM5
import Derived.Test.YtcmollfhlillfaaGreatDoorM10
/-
  A region that draws its order: what is not loud keeps a relation of worlds (blocks that stand); several may come up in any order.
-/
namespace Go.Proofs.YtcmollfhlillfaaGreatDoor
open Go.RowKit
set_option linter.unusedVariables false
section
variable {P : Program} {ops : Array Oper} {Q : Exit → Act → World → Prop} {md : Region.Mode} {loud : List Nat} {R : World → World → Prop}
/-- Whatever order is picked from here on, and each operation that is not loud leaves what stood. -/
def wpAnyZ (P : Program) (md : Region.Mode) (ops : Array Oper) (Q : Exit → Act → World → Prop) (loud : List Nat) (R : World → World → Prop) : Nat → Array Bool → Act → World → Prop
  | 0, listed, a, w => Region.ready md ops listed = [] ∧ Q .normal a w
  | fuel + 1, listed, a, w =>
    (Region.ready md ops listed = [] → Q .normal a w) ∧
    ∀ i ∈ Region.ready md ops listed, wpOp P ops Q i (fun a' w' => (i ∈ loud ∨ R w w') ∧ wpAnyZ P md ops Q loud R fuel (listed.setIfInBounds i true) a' w') a w
theorem wpAny_of_z : ∀ (fuel : Nat) (listed : Array Bool) (a : Act) (w : World), wpAnyZ P md ops Q loud R fuel listed a w → wpAny P md ops Q fuel listed a w
  | 0, _, _, _, h => h
  | fuel + 1, _, _, _, h => ⟨h.1, fun i hi => wpOp_mono (fun a' w' h' => wpAny_of_z fuel _ a' w' h'.2) (h.2 i hi)⟩
/-- What may come up ahead of i, told by a set that stays: 'In' holds of the list at hand, is kept by each ready one but i, and such a one is not loud. -/
theorem wpAnyZ_first (hR : Steady R) {i : Nat} {oi : Oper} {v : Value} (S : World → World → Prop) (hS : Steady S) (In : Array Bool → Prop)
    (hIn : ∀ listed j, In listed → j ∈ Region.ready md ops listed → j ≠ i → In (listed.setIfInBounds j true) ∧ ∀ w w', (j ∈ loud ∨ R w w') → S w w') (hi : ops[i]? = some oi) (hsel : ∀ (j : Nat) (o : Oper) cs b, ops[j]? = some o → o.op ≠ .select cs b)
    (hQ : ∀ c a w, Q (.panic c) (a.put oi.dst v) w → Q (.panic c) a w) :
    ∀ (fuel : Nat) (listed : Array Bool) (a : Act) (w : World), In listed →
      (∀ j oj, ops[j]? = some oj → j ≠ i → listed.getD j true = false → (∀ e ∈ oj.after, Region.binds md e = true → e.on ≠ i) → oi.apart ops oj = true) →
      i ∈ Region.ready md ops listed → YieldsIf P ops (S w) oi v a →
      wpAnyZ P md ops Q loud R fuel (listed.setIfInBounds i true) (a.put oi.dst v) w → wpAnyZ P md ops Q loud R (fuel + 1) listed a w := by
  intro fuel
  induction fuel with
  | zero =>
    intro listed a w _ _ hr hy H
    refine ⟨fun h => (by rw [h] at hr; cases hr), fun j hj => ?_⟩
    by_cases hji : j = i
    · subst hji; exact hy.wpOp hi (hS.refl w) ⟨.inr (hR.refl w), H⟩
    · have := ready_mono hj hji
      rw [H.1] at this
      cases this
  | succ fuel ih =>
    intro listed a w hin hfree hr hy H
    refine ⟨fun h => (by rw [h] at hr; cases hr), fun j hj => ?_⟩
    by_cases hji : j = i
    · subst hji; exact hy.wpOp hi (hS.refl w) ⟨.inr (hR.refl w), H⟩
    · have h1 := H.2 j (ready_mono hj hji)
      obtain ⟨hjun, oj, hoj, hall⟩ := mem_ready.1 hj
      have hnot : ∀ e ∈ oj.after, Region.binds md e = true → e.on ≠ i := fun e he hb heq => by
        have h1 := hall e he hb
        have h0 := (mem_ready.1 hr).1
        rw [heq] at h1
        rcases Nat.lt_or_ge i listed.size with h' | h'
        · simp [h'] at h0 h1; rw [h0] at h1; cases h1
        · simp [Array.getElem?_eq_none h'] at h1
      have h2 := wpOp_putIf hoj (hfree j oj hoj hji hjun hnot) (fun cs b => hsel i oi cs b hi) (fun cs b => hsel j oj cs b hoj) hQ hy h1
      have hfree' : ∀ k ok, ops[k]? = some ok → k ≠ i → (listed.setIfInBounds j true).getD k true = false →
          (∀ e ∈ ok.after, Region.binds md e = true → e.on ≠ i) → oi.apart ops ok = true := fun k ok hk hki hun hno => by
        refine hfree k ok hk hki ?_ hno
        by_cases hjk : j = k
        · subst hjk; exact hjun
        · rw [getD_set_ne true hjk] at hun; exact hun
      obtain ⟨hin', hst⟩ := hIn listed j hin hj hji
      refine wpOp_mono (fun a' w' h3 => ⟨h3.2.1, ih (listed.setIfInBounds j true) a' w' hin' hfree' (ready_mono hr (Ne.symm hji)) (yieldsIf_later hS h3.1 (hst _ _ h3.2.1)) ?_⟩) h2
      rw [Array.setIfInBounds_comm _ _ hji]
      exact h3.2.2
theorem getD_true_of_falseZ {l : Array Bool} {k : Nat} (h : l.getD k false = true) : l.getD k true = true := by
  rcases Nat.lt_or_ge k l.size with hk | hk
  · simp [hk] at h ⊢; exact h
  · simp [Array.getElem?_eq_none hk] at h
theorem calm_inZ {i : Nat} {l0 C : Array Bool} (hc : calm md ops loud l0 C i = true) :
    (fun l : Array Bool => l.size = C.size ∧ (∀ k, l0.getD k true = true → l.getD k true = true) ∧ ∀ k, l.getD k false = true → C.getD k false = true) l0 ∧
    ∀ (l : Array Bool) (j : Nat), (l.size = C.size ∧ (∀ k, l0.getD k true = true → l.getD k true = true) ∧ ∀ k, l.getD k false = true → C.getD k false = true) → j ∈ Region.ready md ops l → j ≠ i →
      ((l.setIfInBounds j true).size = C.size ∧ (∀ k, l0.getD k true = true → (l.setIfInBounds j true).getD k true = true) ∧ ∀ k, (l.setIfInBounds j true).getD k false = true → C.getD k false = true) ∧ ∀ w w', (j ∈ loud ∨ R w w') → R w w' := by
  simp only [calm, Bool.and_eq_true] at hc
  obtain ⟨⟨⟨h1, h2⟩, h3⟩, h4⟩ := hc
  have h1 : Region.ready md ops C = [i] := by simpa using h1
  have h4 : C.size = l0.size := by simpa using h4
  refine ⟨⟨h4.symm, fun k h => h, fun k hk => ?_⟩, fun l j hl hj hji => ?_⟩
  · have hlt : k < l0.size := by
      rcases Nat.lt_or_ge k l0.size with hlt | hge
      · exact hlt
      · simp [Array.getElem?_eq_none hge] at hk
    have := List.all_eq_true.1 h2 k (List.mem_range.2 hlt)
    rw [hk] at this
    simpa using this
  · obtain ⟨hs, hm, hC⟩ := hl
    obtain ⟨hjun, oj, hoj, hall⟩ := mem_ready.1 hj
    have hjs : j < l.size := by
      rcases Nat.lt_or_ge j l.size with hlt | hge
      · exact hlt
      · simp [Array.getElem?_eq_none hge] at hjun
    have hCj : C.getD j false = true := by
      cases hcj : C.getD j false with
      | true => rfl
      | false =>
        exfalso
        have hcj2 : C.getD j true = false := by
          have : j < C.size := by omega
          simp [this] at hcj ⊢; exact hcj
        have : j ∈ Region.ready md ops C := mem_ready.2 ⟨hcj2, oj, hoj, fun e he hb => hC _ (hall e he hb)⟩
        rw [h1] at this
        exact hji (by simpa using this)
    refine ⟨⟨by simpa using hs, fun k hk => ?_, fun k hk => ?_⟩, fun w w' h => ?_⟩
    · by_cases hjk : j = k
      · subst hjk; simp [hjs]
      · rw [getD_set_ne true hjk]; exact hm k hk
    · by_cases hjk : j = k
      · subst hjk; exact hCj
      · rw [getD_set_ne false hjk] at hk; exact hC k hk
    · rcases h with h | h
      · exfalso
        have := List.all_eq_true.1 h3 j h
        rw [hCj] at this
        have h0 : l0.getD j false = true := by simpa using this
        have := hm j (getD_true_of_falseZ h0)
        rw [hjun] at this
        cases this
      · exact h
/-- Number i is taken first: it reads memory. -/
theorem wpAnyZ_take (hR : Steady R) (i : Nat) {oi : Oper} {rest : List Oper} {v : Value} {fuel : Nat} {listed : Array Bool} {a : Act} {w : World} (hi : ops.toList.drop i = oi :: rest)
    (hs : Region.noSelect ops = true) (hf : Region.free md ops listed i = true) (hr : (Region.ready md ops listed).contains i = true) (hc : calm md ops loud listed (unlistedCl md ops i ops.size listed) i = true)
    (hQ : ∀ c a w, Q (.panic c) (a.put oi.dst v) w → Q (.panic c) a w) (hw : Region.wanted oi (yielded ops a.tmps) = true)
    (hy : ∀ W, R w W → (execOp a.eval oi).run P W = .ok (.value v) W)
    (h : wpAnyZ P md ops Q loud R fuel (listed.setIfInBounds i true) (a.put oi.dst v) w) : wpAnyZ P md ops Q loud R (fuel + 1) listed a w :=
  wpAnyZ_first hR R hR _ (calm_inZ (R := R) hc).2 (op_of_drop hi) (Region.noSelect_spec hs) hQ fuel listed a w (calm_inZ (R := R) hc).1 (Region.free_spec (op_of_drop hi) hf) (by simpa using hr) (.inl ⟨hw, hy⟩) h
/-- Number i is taken first: it reads no memory. -/
theorem wpAnyZ_pure (hR : Steady R) (i : Nat) {oi : Oper} {rest : List Oper} {v : Value} {fuel : Nat} {listed : Array Bool} {a : Act} {w : World} (hi : ops.toList.drop i = oi :: rest)
    (hs : Region.noSelect ops = true) (hf : Region.free md ops listed i = true) (hr : (Region.ready md ops listed).contains i = true)
    (hQ : ∀ c a w, Q (.panic c) (a.put oi.dst v) w → Q (.panic c) a w) (hw : Region.wanted oi (yielded ops a.tmps) = true)
    (hy : ∀ W, (execOp a.eval oi).run P W = .ok (.value v) W)
    (h : wpAnyZ P md ops Q loud R fuel (listed.setIfInBounds i true) (a.put oi.dst v) w) : wpAnyZ P md ops Q loud R (fuel + 1) listed a w :=
  wpAnyZ_first hR Always Always.steady (fun _ => True) (fun _ _ _ _ _ => ⟨trivial, fun _ _ _ => trivial⟩) (op_of_drop hi) (Region.noSelect_spec hs) hQ fuel listed a w trivial (Region.free_spec (op_of_drop hi) hf) (by simpa using hr) (.inl ⟨hw, fun W _ => hy W⟩) h
theorem wpAnyZ_skip (hR : Steady R) (i : Nat) {oi : Oper} {rest : List Oper} {fuel : Nat} {listed : Array Bool} {a : Act} {w : World} (hi : ops.toList.drop i = oi :: rest)
    (hs : Region.noSelect ops = true) (hf : Region.free md ops listed i = true) (hr : (Region.ready md ops listed).contains i = true)
    (hQ : ∀ c a w, Q (.panic c) (a.put oi.dst undef) w → Q (.panic c) a w) (hw : Region.wanted oi (yielded ops a.tmps) = false)
    (h : wpAnyZ P md ops Q loud R fuel (listed.setIfInBounds i true) (a.put oi.dst undef) w) : wpAnyZ P md ops Q loud R (fuel + 1) listed a w :=
  wpAnyZ_first hR Always Always.steady (fun _ => True) (fun _ _ _ _ _ => ⟨trivial, fun _ _ _ => trivial⟩) (op_of_drop hi) (Region.noSelect_spec hs) hQ fuel listed a w trivial (Region.free_spec (op_of_drop hi) hf) (by simpa using hr) (.inr ⟨hw, rfl⟩) h
/-- Number i alone may come up; it is not loud. -/
theorem wpAnyZ_one (i : Nat) {o : Oper} {rest : List Oper} {fuel : Nat} {listed : Array Bool} {a : Act} {w : World} (hr : Region.ready md ops listed = [i]) (ho : ops.toList.drop i = o :: rest)
    (h : ∀ K : Act → World → Prop, Shut (∀ a' w', R w w' → wpAnyZ P md ops Q loud R fuel (listed.setIfInBounds i true) a' w' → K a' w') → if Region.wanted o (yielded ops a.tmps) = true then Oper.wp P o a w K Q else K (a.put o.dst undef) w) :
    wpAnyZ P md ops Q loud R (fuel + 1) listed a w := by
  refine ⟨fun h0 => (by rw [hr] at h0; cases h0), fun j hj => ?_⟩
  rw [hr] at hj
  obtain rfl : j = i := by simpa using hj
  exact wpOp_step (op_of_drop ho) fun K hK => h K fun a' w' hl hW => hK a' w' ⟨.inr hl, hW⟩
/-- Number i alone may come up; it is loud. -/
theorem wpAnyZ_loud (i : Nat) {o : Oper} {rest : List Oper} {fuel : Nat} {listed : Array Bool} {a : Act} {w : World} (hr : Region.ready md ops listed = [i]) (hl : loud.contains i = true) (ho : ops.toList.drop i = o :: rest)
    (h : ∀ K : Act → World → Prop, Shut (∀ a' w', wpAnyZ P md ops Q loud R fuel (listed.setIfInBounds i true) a' w' → K a' w') → if Region.wanted o (yielded ops a.tmps) = true then Oper.wp P o a w K Q else K (a.put o.dst undef) w) :
    wpAnyZ P md ops Q loud R (fuel + 1) listed a w := by
  refine ⟨fun h0 => (by rw [hr] at h0; cases h0), fun j hj => ?_⟩
  rw [hr] at hj
  obtain rfl : j = i := by simpa using hj
  exact wpOp_step (op_of_drop ho) fun K hK => h K fun a' w' hW => hK a' w' ⟨.inl (by simpa using hl), hW⟩
theorem wpAnyZ_done {listed : Array Bool} {a : Act} {w : World} (hr : Region.ready md ops listed = []) (h : Q .normal a w) :
    ∀ fuel, wpAnyZ P md ops Q loud R fuel listed a w
  | 0 => ⟨hr, h⟩
  | _ + 1 => ⟨fun _ => h, by rw [hr]; simp⟩
/-- The beginning. -/
theorem wp_region_z (loud : List Nat) {id : Nat} {a : Act} {w : World} (hm : P.follows .mixedOrders = true)
    (h : wpAnyZ P .any ops Q loud R ops.size (Array.replicate ops.size false) a w.drew) : (Code.region id ops true).wp P Q a w :=
  wp_region_any hm (wpAny_of_z _ _ _ _ h)
end

section
variable {P : Program} {ops : Array Oper} {Q : Exit → Act → World → Prop} {md : Region.Mode} {loud : List Nat} {R : World → World → Prop}
/-- Number i is taken first, where none is loud. -/
theorem wpAnyZ_take0 (hR : Steady R) (i : Nat) {oi : Oper} {rest : List Oper} {v : Value} {fuel : Nat} {listed : Array Bool} {a : Act} {w : World} (hi : ops.toList.drop i = oi :: rest)
    (hs : Region.noSelect ops = true) (hf : Region.free md ops listed i = true) (hr : (Region.ready md ops listed).contains i = true)
    (hQ : ∀ c a w, Q (.panic c) (a.put oi.dst v) w → Q (.panic c) a w) (hw : Region.wanted oi (yielded ops a.tmps) = true)
    (hy : ∀ W, R w W → (execOp a.eval oi).run P W = .ok (.value v) W)
    (h : wpAnyZ P md ops Q [] R fuel (listed.setIfInBounds i true) (a.put oi.dst v) w) : wpAnyZ P md ops Q [] R (fuel + 1) listed a w :=
  wpAnyZ_first hR R hR (fun _ => True) (fun _ _ _ _ _ => ⟨trivial, fun _ _ h => h.elim (fun h => by cases h) id⟩) (op_of_drop hi) (Region.noSelect_spec hs) hQ fuel listed a w trivial (Region.free_spec (op_of_drop hi) hf) (by simpa using hr) (.inl ⟨hw, hy⟩) h
/-- Two may come up. -/
theorem wpAnyZ_two (i j : Nat) {oi oj : Oper} {ri rj : List Oper} {fuel : Nat} {listed : Array Bool} {a : Act} {w : World} (hr : Region.ready md ops listed = [i, j]) (hoi : ops.toList.drop i = oi :: ri) (hoj : ops.toList.drop j = oj :: rj)
    (hi : ∀ K : Act → World → Prop, Shut (∀ a' w', (i ∈ loud ∨ R w w') → wpAnyZ P md ops Q loud R fuel (listed.setIfInBounds i true) a' w' → K a' w') → if Region.wanted oi (yielded ops a.tmps) = true then Oper.wp P oi a w K Q else K (a.put oi.dst undef) w)
    (hj : ∀ K : Act → World → Prop, Shut (∀ a' w', (j ∈ loud ∨ R w w') → wpAnyZ P md ops Q loud R fuel (listed.setIfInBounds j true) a' w' → K a' w') → if Region.wanted oj (yielded ops a.tmps) = true then Oper.wp P oj a w K Q else K (a.put oj.dst undef) w) :
    wpAnyZ P md ops Q loud R (fuel + 1) listed a w := by
  refine ⟨fun h0 => (by rw [hr] at h0; cases h0), fun k hk => ?_⟩
  rw [hr] at hk
  rcases List.mem_cons.1 hk with rfl | hk
  · exact wpOp_step (op_of_drop hoi) fun K hK => hi K fun a' w' hl hW => hK a' w' ⟨hl, hW⟩
  · obtain rfl : k = j := by simpa using hk
    exact wpOp_step (op_of_drop hoj) fun K hK => hj K fun a' w' hl hW => hK a' w' ⟨hl, hW⟩
/-- Three may come up. -/
theorem wpAnyZ_three (i j m : Nat) {oi oj om : Oper} {ri rj rm : List Oper} {fuel : Nat} {listed : Array Bool} {a : Act} {w : World} (hr : Region.ready md ops listed = [i, j, m]) (hoi : ops.toList.drop i = oi :: ri) (hoj : ops.toList.drop j = oj :: rj) (hom : ops.toList.drop m = om :: rm)
    (hi : ∀ K : Act → World → Prop, Shut (∀ a' w', (i ∈ loud ∨ R w w') → wpAnyZ P md ops Q loud R fuel (listed.setIfInBounds i true) a' w' → K a' w') → if Region.wanted oi (yielded ops a.tmps) = true then Oper.wp P oi a w K Q else K (a.put oi.dst undef) w)
    (hj : ∀ K : Act → World → Prop, Shut (∀ a' w', (j ∈ loud ∨ R w w') → wpAnyZ P md ops Q loud R fuel (listed.setIfInBounds j true) a' w' → K a' w') → if Region.wanted oj (yielded ops a.tmps) = true then Oper.wp P oj a w K Q else K (a.put oj.dst undef) w)
    (hm : ∀ K : Act → World → Prop, Shut (∀ a' w', (m ∈ loud ∨ R w w') → wpAnyZ P md ops Q loud R fuel (listed.setIfInBounds m true) a' w' → K a' w') → if Region.wanted om (yielded ops a.tmps) = true then Oper.wp P om a w K Q else K (a.put om.dst undef) w) :
    wpAnyZ P md ops Q loud R (fuel + 1) listed a w := by
  refine ⟨fun h0 => (by rw [hr] at h0; cases h0), fun k hk => ?_⟩
  rw [hr] at hk
  rcases List.mem_cons.1 hk with rfl | hk
  · exact wpOp_step (op_of_drop hoi) fun K hK => hi K fun a' w' hl hW => hK a' w' ⟨hl, hW⟩
  · rcases List.mem_cons.1 hk with rfl | hk
    · exact wpOp_step (op_of_drop hoj) fun K hK => hj K fun a' w' hl hW => hK a' w' ⟨hl, hW⟩
    · obtain rfl : k = m := by simpa using hk
      exact wpOp_step (op_of_drop hom) fun K hK => hm K fun a' w' hl hW => hK a' w' ⟨hl, hW⟩
end
/-- Where no panic comes. -/
def OnlyNormal (Q : Exit → Act → World → Prop) : Exit → Act → World → Prop
  | .normal, a, w => Q .normal a w
  | _, _, _ => False
theorem wp_only {P : Program} {Q : Exit → Act → World → Prop} {c : Code} {a : Act} {w : World} (h : c.wp P (OnlyNormal Q) a w) : c.wp P Q a w :=
  Code.wp_mono (fun e a w h => by cases e <;> first | exact h | cases h) h
/-- The blocks of X stand. -/
def Stands (X : Nat → Prop) (w W : World) : Prop := w.heap.size ≤ W.heap.size ∧ ∀ k o, X k → w.heap[k]? = some o → W.heap[k]? = some o
theorem Stands.refl (X : Nat → Prop) (w : World) : Stands X w w := ⟨Nat.le_refl _, fun _ _ _ h => h⟩
theorem Stands.trans {X : Nat → Prop} {a b c : World} (h : Stands X a b) (k : Stands X b c) : Stands X a c := ⟨Nat.le_trans h.1 k.1, fun i o hi ho => k.2 i o hi (h.2 i o hi ho)⟩
theorem Stands.steady (X : Nat → Prop) : Steady (Stands X) := ⟨Stands.refl X, Stands.trans⟩
theorem Stands.of_later {X : Nat → Prop} {w W : World} (h : Later w W) : Stands X w W := ⟨h.size, fun k o _ hk => (h.block k (theap_lt hk)).trans hk⟩
theorem Stands.alloc {X : Nat → Prop} {w W : World} (h : Stands X w W) (o : Obj) : Stands X w (W.alloc o) := h.trans (Stands.of_later ((Below.refl _ _).alloc (Nat.le_refl _) _))
theorem Stands.drewN {X : Nat → Prop} {w W : World} (h : Stands X w W) (n : Nat) : Stands X w (W.drewN n) := h
theorem Stands.drew {X : Nat → Prop} {w W : World} (h : Stands X w W) : Stands X w W.drew := h
theorem Stands.drewL {X : Nat → Prop} {w W : World} (h : Stands X w W) : Stands X w.drew W := h
theorem Stands.thenLater {X : Nat → Prop} {w V W : World} (h : Stands X w V) (k : Later V W) : Stands X w W := h.trans (Stands.of_later k)
theorem Stands.setCell {X : Nat → Prop} {w W : World} (h : Stands X w W) {g : Nat} (hg : ¬ X g) (j : Nat) (u : Value) : Stands X w (W.setCell ⟨g, j, none⟩ u) :=
  ⟨by have := h.1; simpa [World.setCell] using this, fun k o hk ho => (Below.heap_setCell _ _ _ _ (fun e => by
    have e : k = g := e
    subst e; exact hg hk)).trans (h.2 k o hk ho)⟩
theorem Hits.stands {F X : Nat → Prop} {w W : World} (h : Hits F w W) (hX : ∀ k, k < w.heap.size → F k → ¬ X k) : Stands X w W :=
  ⟨h.size, fun k o hk ho => (h.kept k (theap_lt ho) fun hF => hX k (theap_lt ho) hF hk).trans ho⟩
theorem Hits.cell {F : Nat → Prop} {w w' : World} (h : Hits F w w') {b o : Nat} {u : Value} (hc : w.cell? ⟨b, o, none⟩ = some u) (hn : ¬ F b) : w'.cell? ⟨b, o, none⟩ = some u := by
  have h2 := h.kept b (cell_lt hc) hn
  unfold World.cell? at hc ⊢
  rw [h2]; exact hc
theorem Stands.row {X : Nat → Prop} {w : World} {k : Nat} {o : Obj} (hk : w.heap[k]? = some o) (hX : X k) : ∀ W, Stands X w W → W.heap[k]? = some o := fun W h => h.2 k o hX hk
theorem Stands.cell {X : Nat → Prop} {w : World} {b o : Nat} {u : Value} (h : w.cell? ⟨b, o, none⟩ = some u) (hX : X b) : ∀ W, Stands X w W → W.cell? ⟨b, o, none⟩ = some u := fun W hW => by
  have hlt := cell_lt h
  obtain ⟨ob, hob⟩ : ∃ ob, w.heap[b]? = some ob := ⟨_, Array.getElem?_eq_getElem hlt⟩
  have h2 := hW.2 b ob hX hob
  unfold World.cell? at h ⊢
  rw [hob] at h; rw [h2]; exact h
theorem Later.al {a b : World} (h : Later a b) (o : Obj) : Later a (b.alloc o) := Later.trans h ((Below.refl _ _).alloc (Nat.le_refl _) _)
theorem Later.dr {a b : World} (h : Later a b) : Later a b.drew := ⟨h.os, h.tape, h.output, h.size, h.block⟩
theorem Later.drN {a b : World} (h : Later a b) (n : Nat) : Later a (b.drewN n) := ⟨h.os, h.tape, h.output, h.size, h.block⟩
/-- A row that stays where it was, or moves to a new block. -/
def NS (w : World) (v v' : Value) : Prop := v'.ownBlock = v.ownBlock ∨ ∃ g, v'.ownBlock = some g ∧ w.heap.size ≤ g
theorem NS.refl (w : World) (v : Value) : NS w v v := .inl rfl
theorem NS.of_at {w w0 : World} {v v' : Value} (h : v'.ownBlock = v.ownBlock ∨ v'.ownBlock = some w0.heap.size) (hs : w.heap.size ≤ w0.heap.size) : NS w v v' := by
  rcases h with h | h
  · exact .inl h
  · exact .inr ⟨_, h, hs⟩
theorem NS.trans {w w1 : World} {v v' v'' : Value} (h : NS w v v') (k : NS w1 v' v'') (hs : w.heap.size ≤ w1.heap.size) : NS w v v'' := by
  rcases k with k | ⟨g, k, hg⟩
  · rcases h with h | ⟨g, h, hg⟩
    · exact .inl (k.trans h)
    · exact .inr ⟨g, k.trans h, hg⟩
  · exact .inr ⟨g, k, Nat.le_trans hs hg⟩
theorem NS.ne {w : World} {v v' : Value} (h : NS w v v') {k : Nat} (hk : k < w.heap.size) (hv : v.ownBlock ≠ some k) : v'.ownBlock ≠ some k := by
  rcases h with h | ⟨g, h, hg⟩
  · rwa [h]
  · rw [h]; intro e; injection e with e; omega
end Go.Proofs.YtcmollfhlillfaaGreatDoor
