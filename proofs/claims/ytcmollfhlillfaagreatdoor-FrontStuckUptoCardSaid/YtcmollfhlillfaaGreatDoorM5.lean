/-
  Texts of this seat in one: Region, Loud, Split.
-/
import Derived.Test.YtcmollfhlillfaaGreatDoorM3
import Derived.Deep.RegionHeld3
/-
  A region that draws its order, where calls make memory: an operation that yields one value in every world that has grown out of the world at hand may be taken first; a call is taken where nothing else may come up.
-/
namespace Go.Proofs.YtcmollfhlillfaaGreatDoor
open Go.RowKit
/-- The worlds that have grown out of w: what stood stands. -/
def Later (w W : World) : Prop := Below w.heap.size w W
theorem Later.refl (w : World) : Later w w := Below.refl _ _
theorem Later.trans {a b c : World} (h : Later a b) (k : Later b c) : Later a c := Below.trans h (Below.mono k (Below.size h))
/-- Every world may come. -/
def Always (_ _ : World) : Prop := True
/-- A relation of worlds that stays, and adds up. -/
structure Steady (R : World → World → Prop) : Prop where
  refl : ∀ w, R w w
  trans : ∀ {a b c}, R a b → R b c → R a c
theorem Later.steady : Steady Later := ⟨Later.refl, Later.trans⟩
theorem Always.steady : Steady Always := ⟨fun _ => trivial, fun _ _ => trivial⟩
theorem later_cell {w : World} {b o : Nat} {u : Value} (h : w.cell? ⟨b, o, none⟩ = some u) : ∀ W, Later w W → W.cell? ⟨b, o, none⟩ = some u := fun _ hW => (hW.cell (cell_lt h)).trans h
theorem later_drew_cell {w : World} {b o : Nat} {u : Value} (h : w.cell? ⟨b, o, none⟩ = some u) : ∀ W, Later w.drew W → W.cell? ⟨b, o, none⟩ = some u := later_cell (w := w.drew) h
section
variable {P : Program} {ops : Array Oper} {Q : Exit → Act → World → Prop} {md : Region.Mode} {R : World → World → Prop}
/-- Whatever order is picked from here on, and each operation leaves what stood. -/
def wpAnyR (P : Program) (md : Region.Mode) (ops : Array Oper) (Q : Exit → Act → World → Prop) (R : World → World → Prop) : Nat → Array Bool → Act → World → Prop
  | 0, listed, a, w => Region.ready md ops listed = [] ∧ Q .normal a w
  | fuel + 1, listed, a, w =>
    (Region.ready md ops listed = [] → Q .normal a w) ∧
    ∀ i ∈ Region.ready md ops listed, wpOp P ops Q i (fun a' w' => R w w' ∧ wpAnyR P md ops Q R fuel (listed.setIfInBounds i true) a' w') a w
theorem wpAny_of_r : ∀ (fuel : Nat) (listed : Array Bool) (a : Act) (w : World), wpAnyR P md ops Q R fuel listed a w → wpAny P md ops Q fuel listed a w
  | 0, _, _, _, h => h
  | fuel + 1, _, _, _, h => ⟨h.1, fun i hi => wpOp_mono (fun a' w' h' => wpAny_of_r fuel _ a' w' h'.2) (h.2 i hi)⟩
theorem yieldsIf_later (hR : Steady R) {o : Oper} {v : Value} {a : Act} {w w' : World} (h : YieldsIf P ops (R w) o v a) (hl : R w w') : YieldsIf P ops (R w') o v a :=
  h.imp (fun ⟨hw, hv⟩ => ⟨hw, fun W hW => hv W (hR.trans hl hW)⟩) id
theorem wpAnyR_first (hR : Steady R) {i : Nat} {oi : Oper} {v : Value} (hi : ops[i]? = some oi) (hsel : ∀ (j : Nat) (o : Oper) cs b, ops[j]? = some o → o.op ≠ .select cs b)
    (hQ : ∀ c a w, Q (.panic c) (a.put oi.dst v) w → Q (.panic c) a w) :
    ∀ (fuel : Nat) (listed : Array Bool) (a : Act) (w : World),
      (∀ j oj, ops[j]? = some oj → j ≠ i → listed.getD j true = false → (∀ e ∈ oj.after, Region.binds md e = true → e.on ≠ i) → oi.apart ops oj = true) →
      i ∈ Region.ready md ops listed → YieldsIf P ops (R w) oi v a →
      wpAnyR P md ops Q R fuel (listed.setIfInBounds i true) (a.put oi.dst v) w → wpAnyR P md ops Q R (fuel + 1) listed a w := by
  intro fuel
  induction fuel with
  | zero =>
    intro listed a w _ hr hy H
    refine ⟨fun h => (by rw [h] at hr; cases hr), fun j hj => ?_⟩
    by_cases hji : j = i
    · subst hji; exact hy.wpOp hi (hR.refl w) ⟨hR.refl w, H⟩
    · have := ready_mono hj hji
      rw [H.1] at this
      cases this
  | succ fuel ih =>
    intro listed a w hfree hr hy H
    refine ⟨fun h => (by rw [h] at hr; cases hr), fun j hj => ?_⟩
    by_cases hji : j = i
    · subst hji; exact hy.wpOp hi (hR.refl w) ⟨hR.refl w, H⟩
    · have h1 := H.2 j (ready_mono hj hji)
      obtain ⟨hjun, oj, hoj, hall⟩ := mem_ready.1 hj
      have hnot : ∀ e ∈ oj.after, Region.binds md e = true → e.on ≠ i := fun e he hb heq => by
        have h1 := hall e he hb
        have h0 := (mem_ready.1 hr).1
        rw [heq] at h1
        rcases Nat.lt_or_ge i listed.size with h' | h'
        · simp [h'] at h0 h1; rw [h0] at h1; cases h1
        · simp [Array.getElem?_eq_none h'] at h1
      have h2 := wpOp_putIf hoj (hfree j oj hoj hji hjun hnot) (fun cs b => hsel i oi cs b hi) (fun cs b => hsel j oj cs b hoj) hQ hy h1
      have hfree' : ∀ k ok, ops[k]? = some ok → k ≠ i → (listed.setIfInBounds j true).getD k true = false →
          (∀ e ∈ ok.after, Region.binds md e = true → e.on ≠ i) → oi.apart ops ok = true := fun k ok hk hki hun hno => by
        refine hfree k ok hk hki ?_ hno
        by_cases hjk : j = k
        · subst hjk; exact hjun
        · rw [getD_set_ne true hjk] at hun; exact hun
      refine wpOp_mono (fun a' w' h3 => ⟨h3.2.1, ih (listed.setIfInBounds j true) a' w' hfree' (ready_mono hr (Ne.symm hji)) (yieldsIf_later hR h3.1 h3.2.1) ?_⟩) h2
      rw [Array.setIfInBounds_comm _ _ hji]
      exact h3.2.2
theorem op_of_drop {i : Nat} {o : Oper} {rest : List Oper} (h : ops.toList.drop i = o :: rest) : ops[i]? = some o := by
  have e : (ops.toList.drop i)[0]? = some o := by rw [h]; rfl
  rw [List.getElem?_drop, Nat.add_zero] at e
  rw [← Array.getElem?_toList]; exact e
/-- Number i is taken first: it is wanted, and yields v in every later world. -/
theorem wpAnyR_take (hR : Steady R) (i : Nat) {oi : Oper} {rest : List Oper} {v : Value} {fuel : Nat} {listed : Array Bool} {a : Act} {w : World} (hi : ops.toList.drop i = oi :: rest)
    (hs : Region.noSelect ops = true) (hf : Region.free md ops listed i = true) (hr : (Region.ready md ops listed).contains i = true)
    (hQ : ∀ c a w, Q (.panic c) (a.put oi.dst v) w → Q (.panic c) a w) (hw : Region.wanted oi (yielded ops a.tmps) = true)
    (hy : ∀ W, R w W → (execOp a.eval oi).run P W = .ok (.value v) W)
    (h : wpAnyR P md ops Q R fuel (listed.setIfInBounds i true) (a.put oi.dst v) w) : wpAnyR P md ops Q R (fuel + 1) listed a w :=
  wpAnyR_first hR (op_of_drop hi) (Region.noSelect_spec hs) hQ fuel listed a w (Region.free_spec (op_of_drop hi) hf) (by simpa using hr) (.inl ⟨hw, hy⟩) h
/-- Number i is passed over: its guard says no. -/
theorem wpAnyR_skip (hR : Steady R) (i : Nat) {oi : Oper} {rest : List Oper} {fuel : Nat} {listed : Array Bool} {a : Act} {w : World} (hi : ops.toList.drop i = oi :: rest)
    (hs : Region.noSelect ops = true) (hf : Region.free md ops listed i = true) (hr : (Region.ready md ops listed).contains i = true)
    (hQ : ∀ c a w, Q (.panic c) (a.put oi.dst undef) w → Q (.panic c) a w) (hw : Region.wanted oi (yielded ops a.tmps) = false)
    (h : wpAnyR P md ops Q R fuel (listed.setIfInBounds i true) (a.put oi.dst undef) w) : wpAnyR P md ops Q R (fuel + 1) listed a w :=
  wpAnyR_first hR (op_of_drop hi) (Region.noSelect_spec hs) hQ fuel listed a w (Region.free_spec (op_of_drop hi) hf) (by simpa using hr) (.inr ⟨hw, rfl⟩) h
/-- Number i alone may come up. -/
theorem wpAnyR_one (i : Nat) {o : Oper} {rest : List Oper} {fuel : Nat} {listed : Array Bool} {a : Act} {w : World} (hr : Region.ready md ops listed = [i]) (ho : ops.toList.drop i = o :: rest)
    (h : ∀ K : Act → World → Prop, Shut (∀ a' w', R w w' → wpAnyR P md ops Q R fuel (listed.setIfInBounds i true) a' w' → K a' w') → if Region.wanted o (yielded ops a.tmps) = true then Oper.wp P o a w K Q else K (a.put o.dst undef) w) :
    wpAnyR P md ops Q R (fuel + 1) listed a w := by
  refine ⟨fun h0 => (by rw [hr] at h0; cases h0), fun j hj => ?_⟩
  rw [hr] at hj
  obtain rfl : j = i := by simpa using hj
  exact wpOp_step (op_of_drop ho) fun K hK => h K fun a' w' hl hW => hK a' w' ⟨hl, hW⟩
theorem wpAnyR_done {listed : Array Bool} {a : Act} {w : World} (hr : Region.ready md ops listed = []) (h : Q .normal a w) :
    ∀ fuel, wpAnyR P md ops Q R fuel listed a w
  | 0 => ⟨hr, h⟩
  | _ + 1 => ⟨fun _ => h, by rw [hr]; simp⟩
/-- The beginning. -/
theorem wp_region_r {id : Nat} {a : Act} {w : World} (hm : P.follows .mixedOrders = true)
    (h : wpAnyR P .any ops Q R ops.size (Array.replicate ops.size false) a w.drew) : (Code.region id ops true).wp P Q a w :=
  wp_region_any hm (wpAny_of_r _ _ _ _ h)
end

/-! The two relations that are used: nothing that stood turns; whatever. -/
section
variable {P : Program} {ops : Array Oper} {Q : Exit → Act → World → Prop} {md : Region.Mode}
abbrev wpAnyK (P : Program) (md : Region.Mode) (ops : Array Oper) (Q : Exit → Act → World → Prop) := wpAnyR P md ops Q Later
abbrev wpAnyT (P : Program) (md : Region.Mode) (ops : Array Oper) (Q : Exit → Act → World → Prop) := wpAnyR P md ops Q Always
theorem wpAnyK_take (i : Nat) {oi : Oper} {rest : List Oper} {v : Value} {fuel : Nat} {listed : Array Bool} {a : Act} {w : World} (hi : ops.toList.drop i = oi :: rest)
    (hs : Region.noSelect ops = true) (hf : Region.free md ops listed i = true) (hr : (Region.ready md ops listed).contains i = true)
    (hQ : ∀ c a w, Q (.panic c) (a.put oi.dst v) w → Q (.panic c) a w) (hw : Region.wanted oi (yielded ops a.tmps) = true)
    (hy : ∀ W, Later w W → (execOp a.eval oi).run P W = .ok (.value v) W)
    (h : wpAnyR P md ops Q Later fuel (listed.setIfInBounds i true) (a.put oi.dst v) w) : wpAnyR P md ops Q Later (fuel + 1) listed a w := wpAnyR_take Later.steady i hi hs hf hr hQ hw hy h
theorem wpAnyK_skip (i : Nat) {oi : Oper} {rest : List Oper} {fuel : Nat} {listed : Array Bool} {a : Act} {w : World} (hi : ops.toList.drop i = oi :: rest)
    (hs : Region.noSelect ops = true) (hf : Region.free md ops listed i = true) (hr : (Region.ready md ops listed).contains i = true)
    (hQ : ∀ c a w, Q (.panic c) (a.put oi.dst undef) w → Q (.panic c) a w) (hw : Region.wanted oi (yielded ops a.tmps) = false)
    (h : wpAnyR P md ops Q Later fuel (listed.setIfInBounds i true) (a.put oi.dst undef) w) : wpAnyR P md ops Q Later (fuel + 1) listed a w := wpAnyR_skip Later.steady i hi hs hf hr hQ hw h
theorem wpAnyK_one (i : Nat) {o : Oper} {rest : List Oper} {fuel : Nat} {listed : Array Bool} {a : Act} {w : World} (hr : Region.ready md ops listed = [i]) (ho : ops.toList.drop i = o :: rest)
    (h : ∀ K : Act → World → Prop, Shut (∀ a' w', Later w w' → wpAnyR P md ops Q Later fuel (listed.setIfInBounds i true) a' w' → K a' w') → if Region.wanted o (yielded ops a.tmps) = true then Oper.wp P o a w K Q else K (a.put o.dst undef) w) :
    wpAnyR P md ops Q Later (fuel + 1) listed a w := wpAnyR_one i hr ho h
theorem wpAnyK_done {listed : Array Bool} {a : Act} {w : World} (hr : Region.ready md ops listed = []) (h : Q .normal a w) (fuel : Nat) : wpAnyR P md ops Q Later fuel listed a w := wpAnyR_done hr h fuel
theorem wp_region_k {id : Nat} {a : Act} {w : World} (hm : P.follows .mixedOrders = true)
    (h : wpAnyR P .any ops Q Later ops.size (Array.replicate ops.size false) a w.drew) : (Code.region id ops true).wp P Q a w := wp_region_r hm h
theorem wpAnyT_take (i : Nat) {oi : Oper} {rest : List Oper} {v : Value} {fuel : Nat} {listed : Array Bool} {a : Act} {w : World} (hi : ops.toList.drop i = oi :: rest)
    (hs : Region.noSelect ops = true) (hf : Region.free md ops listed i = true) (hr : (Region.ready md ops listed).contains i = true)
    (hQ : ∀ c a w, Q (.panic c) (a.put oi.dst v) w → Q (.panic c) a w) (hw : Region.wanted oi (yielded ops a.tmps) = true)
    (hy : ∀ W, Always w W → (execOp a.eval oi).run P W = .ok (.value v) W)
    (h : wpAnyR P md ops Q Always fuel (listed.setIfInBounds i true) (a.put oi.dst v) w) : wpAnyR P md ops Q Always (fuel + 1) listed a w := wpAnyR_take Always.steady i hi hs hf hr hQ hw hy h
theorem wpAnyT_skip (i : Nat) {oi : Oper} {rest : List Oper} {fuel : Nat} {listed : Array Bool} {a : Act} {w : World} (hi : ops.toList.drop i = oi :: rest)
    (hs : Region.noSelect ops = true) (hf : Region.free md ops listed i = true) (hr : (Region.ready md ops listed).contains i = true)
    (hQ : ∀ c a w, Q (.panic c) (a.put oi.dst undef) w → Q (.panic c) a w) (hw : Region.wanted oi (yielded ops a.tmps) = false)
    (h : wpAnyR P md ops Q Always fuel (listed.setIfInBounds i true) (a.put oi.dst undef) w) : wpAnyR P md ops Q Always (fuel + 1) listed a w := wpAnyR_skip Always.steady i hi hs hf hr hQ hw h
theorem wpAnyT_one (i : Nat) {o : Oper} {rest : List Oper} {fuel : Nat} {listed : Array Bool} {a : Act} {w : World} (hr : Region.ready md ops listed = [i]) (ho : ops.toList.drop i = o :: rest)
    (h : ∀ K : Act → World → Prop, Shut (∀ a' w', Always w w' → wpAnyR P md ops Q Always fuel (listed.setIfInBounds i true) a' w' → K a' w') → if Region.wanted o (yielded ops a.tmps) = true then Oper.wp P o a w K Q else K (a.put o.dst undef) w) :
    wpAnyR P md ops Q Always (fuel + 1) listed a w := wpAnyR_one i hr ho h
theorem wpAnyT_done {listed : Array Bool} {a : Act} {w : World} (hr : Region.ready md ops listed = []) (h : Q .normal a w) (fuel : Nat) : wpAnyR P md ops Q Always fuel listed a w := wpAnyR_done hr h fuel
theorem wp_region_t {id : Nat} {a : Act} {w : World} (hm : P.follows .mixedOrders = true)
    (h : wpAnyR P .any ops Q Always ops.size (Array.replicate ops.size false) a w.drew) : (Code.region id ops true).wp P Q a w := wp_region_r hm h
end
section
variable {P : Program} {ops : Array Oper} {Q : Exit → Act → World → Prop} {md : Region.Mode}
theorem wKt (i : Nat) {oi : Oper} {rest : List Oper} {v : Value} {fuel : Nat} {listed : Array Bool} {a : Act} {w : World} (hi : ops.toList.drop i = oi :: rest)
    (hy : ∀ W, Later w W → (execOp a.eval oi).run P W = .ok (.value v) W)
    (h : wpAnyR P md ops Q Later fuel (listed.setIfInBounds i true) (a.put oi.dst v) w)
    (hs : Region.noSelect ops = true := by kernel_rfl) (hf : Region.free md ops listed i = true := by kernel_rfl) (hr : (Region.ready md ops listed).contains i = true := by kernel_rfl)
    (hQ : ∀ c a w, Q (.panic c) (a.put oi.dst v) w → Q (.panic c) a w := by exact fun _ _ _ h => h) (hw : Region.wanted oi (yielded ops a.tmps) = true := by rfl) : wpAnyR P md ops Q Later (fuel + 1) listed a w := wpAnyK_take i hi hs hf hr hQ hw hy h
theorem wKs (i : Nat) {oi : Oper} {rest : List Oper} {fuel : Nat} {listed : Array Bool} {a : Act} {w : World} (hi : ops.toList.drop i = oi :: rest)
    (h : wpAnyR P md ops Q Later fuel (listed.setIfInBounds i true) (a.put oi.dst undef) w)
    (hs : Region.noSelect ops = true := by kernel_rfl) (hf : Region.free md ops listed i = true := by kernel_rfl) (hr : (Region.ready md ops listed).contains i = true := by kernel_rfl)
    (hQ : ∀ c a w, Q (.panic c) (a.put oi.dst undef) w → Q (.panic c) a w := by exact fun _ _ _ h => h) (hw : Region.wanted oi (yielded ops a.tmps) = false := by rfl) : wpAnyR P md ops Q Later (fuel + 1) listed a w := wpAnyK_skip i hi hs hf hr hQ hw h
end
end Go.Proofs.YtcmollfhlillfaaGreatDoor
/-
  A region that draws its order, with loud operations (they may turn what stood: append in place, store, a call): an operation that reads memory may be taken first if no loud one can come up ahead of it.
-/
namespace Go.Proofs.YtcmollfhlillfaaGreatDoor
open Go.RowKit
/-- All that can be listed while number i is not. -/
def unlistedCl (md : Region.Mode) (ops : Array Oper) (i : Nat) : Nat → Array Bool → Array Bool
  | 0, listed => listed
  | n + 1, listed => unlistedCl md ops i n ((Region.ready md ops listed).foldl (fun l j => if j == i then l else l.setIfInBounds j true) listed)
/-- Number i waits for no loud one: C is closed but for i, holds what is listed, and no loud one that is not. -/
def calm (md : Region.Mode) (ops : Array Oper) (loud : List Nat) (listed C : Array Bool) (i : Nat) : Bool :=
  (Region.ready md ops C == [i]) && (List.range listed.size).all (fun j => !(listed.getD j false) || C.getD j false) && loud.all (fun j => !(C.getD j false) || listed.getD j false) && (C.size == listed.size)
section
variable {P : Program} {ops : Array Oper} {Q : Exit → Act → World → Prop} {md : Region.Mode} {loud : List Nat}
/-- Whatever order is picked from here on, and each operation that is not loud leaves what stood. -/
def wpAnyL (P : Program) (md : Region.Mode) (ops : Array Oper) (Q : Exit → Act → World → Prop) (loud : List Nat) : Nat → Array Bool → Act → World → Prop
  | 0, listed, a, w => Region.ready md ops listed = [] ∧ Q .normal a w
  | fuel + 1, listed, a, w =>
    (Region.ready md ops listed = [] → Q .normal a w) ∧
    ∀ i ∈ Region.ready md ops listed, wpOp P ops Q i (fun a' w' => (i ∈ loud ∨ Later w w') ∧ wpAnyL P md ops Q loud fuel (listed.setIfInBounds i true) a' w') a w
theorem wpAny_of_l : ∀ (fuel : Nat) (listed : Array Bool) (a : Act) (w : World), wpAnyL P md ops Q loud fuel listed a w → wpAny P md ops Q fuel listed a w
  | 0, _, _, _, h => h
  | fuel + 1, _, _, _, h => ⟨h.1, fun i hi => wpOp_mono (fun a' w' h' => wpAny_of_l fuel _ a' w' h'.2) (h.2 i hi)⟩
/-- What may come up ahead of i, told by a set that stays: 'In' holds of the list at hand, is kept by each ready one but i, and such a one is not loud. -/
theorem wpAnyL_first {i : Nat} {oi : Oper} {v : Value} (S : World → World → Prop) (hS : Steady S) (In : Array Bool → Prop)
    (hIn : ∀ listed j, In listed → j ∈ Region.ready md ops listed → j ≠ i → In (listed.setIfInBounds j true) ∧ ∀ w w', (j ∈ loud ∨ Later w w') → S w w') (hi : ops[i]? = some oi) (hsel : ∀ (j : Nat) (o : Oper) cs b, ops[j]? = some o → o.op ≠ .select cs b)
    (hQ : ∀ c a w, Q (.panic c) (a.put oi.dst v) w → Q (.panic c) a w) :
    ∀ (fuel : Nat) (listed : Array Bool) (a : Act) (w : World), In listed →
      (∀ j oj, ops[j]? = some oj → j ≠ i → listed.getD j true = false → (∀ e ∈ oj.after, Region.binds md e = true → e.on ≠ i) → oi.apart ops oj = true) →
      i ∈ Region.ready md ops listed → YieldsIf P ops (S w) oi v a →
      wpAnyL P md ops Q loud fuel (listed.setIfInBounds i true) (a.put oi.dst v) w → wpAnyL P md ops Q loud (fuel + 1) listed a w := by
  intro fuel
  induction fuel with
  | zero =>
    intro listed a w _ _ hr hy H
    refine ⟨fun h => (by rw [h] at hr; cases hr), fun j hj => ?_⟩
    by_cases hji : j = i
    · subst hji; exact hy.wpOp hi (hS.refl w) ⟨.inr (Later.refl w), H⟩
    · have := ready_mono hj hji
      rw [H.1] at this
      cases this
  | succ fuel ih =>
    intro listed a w hin hfree hr hy H
    refine ⟨fun h => (by rw [h] at hr; cases hr), fun j hj => ?_⟩
    by_cases hji : j = i
    · subst hji; exact hy.wpOp hi (hS.refl w) ⟨.inr (Later.refl w), H⟩
    · have h1 := H.2 j (ready_mono hj hji)
      obtain ⟨hjun, oj, hoj, hall⟩ := mem_ready.1 hj
      have hnot : ∀ e ∈ oj.after, Region.binds md e = true → e.on ≠ i := fun e he hb heq => by
        have h1 := hall e he hb
        have h0 := (mem_ready.1 hr).1
        rw [heq] at h1
        rcases Nat.lt_or_ge i listed.size with h' | h'
        · simp [h'] at h0 h1; rw [h0] at h1; cases h1
        · simp [Array.getElem?_eq_none h'] at h1
      have h2 := wpOp_putIf hoj (hfree j oj hoj hji hjun hnot) (fun cs b => hsel i oi cs b hi) (fun cs b => hsel j oj cs b hoj) hQ hy h1
      have hfree' : ∀ k ok, ops[k]? = some ok → k ≠ i → (listed.setIfInBounds j true).getD k true = false →
          (∀ e ∈ ok.after, Region.binds md e = true → e.on ≠ i) → oi.apart ops ok = true := fun k ok hk hki hun hno => by
        refine hfree k ok hk hki ?_ hno
        by_cases hjk : j = k
        · subst hjk; exact hjun
        · rw [getD_set_ne true hjk] at hun; exact hun
      obtain ⟨hin', hst⟩ := hIn listed j hin hj hji
      refine wpOp_mono (fun a' w' h3 => ⟨h3.2.1, ih (listed.setIfInBounds j true) a' w' hin' hfree' (ready_mono hr (Ne.symm hji)) (yieldsIf_later hS h3.1 (hst _ _ h3.2.1)) ?_⟩) h2
      rw [Array.setIfInBounds_comm _ _ hji]
      exact h3.2.2
theorem getD_true_of_false {l : Array Bool} {k : Nat} (h : l.getD k false = true) : l.getD k true = true := by
  rcases Nat.lt_or_ge k l.size with hk | hk
  · simp [hk] at h ⊢; exact h
  · simp [Array.getElem?_eq_none hk] at h
theorem calm_in {i : Nat} {l0 C : Array Bool} (hc : calm md ops loud l0 C i = true) :
    (fun l : Array Bool => l.size = C.size ∧ (∀ k, l0.getD k true = true → l.getD k true = true) ∧ ∀ k, l.getD k false = true → C.getD k false = true) l0 ∧
    ∀ (l : Array Bool) (j : Nat), (l.size = C.size ∧ (∀ k, l0.getD k true = true → l.getD k true = true) ∧ ∀ k, l.getD k false = true → C.getD k false = true) → j ∈ Region.ready md ops l → j ≠ i →
      ((l.setIfInBounds j true).size = C.size ∧ (∀ k, l0.getD k true = true → (l.setIfInBounds j true).getD k true = true) ∧ ∀ k, (l.setIfInBounds j true).getD k false = true → C.getD k false = true) ∧ ∀ w w', (j ∈ loud ∨ Later w w') → Later w w' := by
  simp only [calm, Bool.and_eq_true] at hc
  obtain ⟨⟨⟨h1, h2⟩, h3⟩, h4⟩ := hc
  have h1 : Region.ready md ops C = [i] := by simpa using h1
  have h4 : C.size = l0.size := by simpa using h4
  refine ⟨⟨h4.symm, fun k h => h, fun k hk => ?_⟩, fun l j hl hj hji => ?_⟩
  · have hlt : k < l0.size := by
      rcases Nat.lt_or_ge k l0.size with hlt | hge
      · exact hlt
      · simp [Array.getElem?_eq_none hge] at hk
    have := List.all_eq_true.1 h2 k (List.mem_range.2 hlt)
    rw [hk] at this
    simpa using this
  · obtain ⟨hs, hm, hC⟩ := hl
    obtain ⟨hjun, oj, hoj, hall⟩ := mem_ready.1 hj
    have hjs : j < l.size := by
      rcases Nat.lt_or_ge j l.size with hlt | hge
      · exact hlt
      · simp [Array.getElem?_eq_none hge] at hjun
    have hCj : C.getD j false = true := by
      cases hcj : C.getD j false with
      | true => rfl
      | false =>
        exfalso
        have hcj2 : C.getD j true = false := by
          have : j < C.size := by omega
          simp [this] at hcj ⊢; exact hcj
        have : j ∈ Region.ready md ops C := mem_ready.2 ⟨hcj2, oj, hoj, fun e he hb => hC _ (hall e he hb)⟩
        rw [h1] at this
        exact hji (by simpa using this)
    refine ⟨⟨by simpa using hs, fun k hk => ?_, fun k hk => ?_⟩, fun w w' h => ?_⟩
    · by_cases hjk : j = k
      · subst hjk; simp [hjs]
      · rw [getD_set_ne true hjk]; exact hm k hk
    · by_cases hjk : j = k
      · subst hjk; exact hCj
      · rw [getD_set_ne false hjk] at hk; exact hC k hk
    · rcases h with h | h
      · exfalso
        have := List.all_eq_true.1 h3 j h
        rw [hCj] at this
        have h0 : l0.getD j false = true := by simpa using this
        have := hm j (getD_true_of_false h0)
        rw [hjun] at this
        cases this
      · exact h
/-- Number i is taken first: it reads memory. -/
theorem wpAnyL_take (i : Nat) {oi : Oper} {rest : List Oper} {v : Value} {fuel : Nat} {listed : Array Bool} {a : Act} {w : World} (hi : ops.toList.drop i = oi :: rest)
    (hs : Region.noSelect ops = true) (hf : Region.free md ops listed i = true) (hr : (Region.ready md ops listed).contains i = true) (hc : calm md ops loud listed (unlistedCl md ops i ops.size listed) i = true)
    (hQ : ∀ c a w, Q (.panic c) (a.put oi.dst v) w → Q (.panic c) a w) (hw : Region.wanted oi (yielded ops a.tmps) = true)
    (hy : ∀ W, Later w W → (execOp a.eval oi).run P W = .ok (.value v) W)
    (h : wpAnyL P md ops Q loud fuel (listed.setIfInBounds i true) (a.put oi.dst v) w) : wpAnyL P md ops Q loud (fuel + 1) listed a w :=
  wpAnyL_first Later Later.steady _ (calm_in hc).2 (op_of_drop hi) (Region.noSelect_spec hs) hQ fuel listed a w (calm_in hc).1 (Region.free_spec (op_of_drop hi) hf) (by simpa using hr) (.inl ⟨hw, hy⟩) h
/-- Number i is taken first: it reads no memory. -/
theorem wpAnyL_pure (i : Nat) {oi : Oper} {rest : List Oper} {v : Value} {fuel : Nat} {listed : Array Bool} {a : Act} {w : World} (hi : ops.toList.drop i = oi :: rest)
    (hs : Region.noSelect ops = true) (hf : Region.free md ops listed i = true) (hr : (Region.ready md ops listed).contains i = true)
    (hQ : ∀ c a w, Q (.panic c) (a.put oi.dst v) w → Q (.panic c) a w) (hw : Region.wanted oi (yielded ops a.tmps) = true)
    (hy : ∀ W, (execOp a.eval oi).run P W = .ok (.value v) W)
    (h : wpAnyL P md ops Q loud fuel (listed.setIfInBounds i true) (a.put oi.dst v) w) : wpAnyL P md ops Q loud (fuel + 1) listed a w :=
  wpAnyL_first Always Always.steady (fun _ => True) (fun _ _ _ _ _ => ⟨trivial, fun _ _ _ => trivial⟩) (op_of_drop hi) (Region.noSelect_spec hs) hQ fuel listed a w trivial (Region.free_spec (op_of_drop hi) hf) (by simpa using hr) (.inl ⟨hw, fun W _ => hy W⟩) h
theorem wpAnyL_skip (i : Nat) {oi : Oper} {rest : List Oper} {fuel : Nat} {listed : Array Bool} {a : Act} {w : World} (hi : ops.toList.drop i = oi :: rest)
    (hs : Region.noSelect ops = true) (hf : Region.free md ops listed i = true) (hr : (Region.ready md ops listed).contains i = true)
    (hQ : ∀ c a w, Q (.panic c) (a.put oi.dst undef) w → Q (.panic c) a w) (hw : Region.wanted oi (yielded ops a.tmps) = false)
    (h : wpAnyL P md ops Q loud fuel (listed.setIfInBounds i true) (a.put oi.dst undef) w) : wpAnyL P md ops Q loud (fuel + 1) listed a w :=
  wpAnyL_first Always Always.steady (fun _ => True) (fun _ _ _ _ _ => ⟨trivial, fun _ _ _ => trivial⟩) (op_of_drop hi) (Region.noSelect_spec hs) hQ fuel listed a w trivial (Region.free_spec (op_of_drop hi) hf) (by simpa using hr) (.inr ⟨hw, rfl⟩) h
/-- Number i alone may come up; it is not loud. -/
theorem wpAnyL_one (i : Nat) {o : Oper} {rest : List Oper} {fuel : Nat} {listed : Array Bool} {a : Act} {w : World} (hr : Region.ready md ops listed = [i]) (ho : ops.toList.drop i = o :: rest)
    (h : ∀ K : Act → World → Prop, Shut (∀ a' w', Later w w' → wpAnyL P md ops Q loud fuel (listed.setIfInBounds i true) a' w' → K a' w') → if Region.wanted o (yielded ops a.tmps) = true then Oper.wp P o a w K Q else K (a.put o.dst undef) w) :
    wpAnyL P md ops Q loud (fuel + 1) listed a w := by
  refine ⟨fun h0 => (by rw [hr] at h0; cases h0), fun j hj => ?_⟩
  rw [hr] at hj
  obtain rfl : j = i := by simpa using hj
  exact wpOp_step (op_of_drop ho) fun K hK => h K fun a' w' hl hW => hK a' w' ⟨.inr hl, hW⟩
/-- Number i alone may come up; it is loud. -/
theorem wpAnyL_loud (i : Nat) {o : Oper} {rest : List Oper} {fuel : Nat} {listed : Array Bool} {a : Act} {w : World} (hr : Region.ready md ops listed = [i]) (hl : loud.contains i = true) (ho : ops.toList.drop i = o :: rest)
    (h : ∀ K : Act → World → Prop, Shut (∀ a' w', wpAnyL P md ops Q loud fuel (listed.setIfInBounds i true) a' w' → K a' w') → if Region.wanted o (yielded ops a.tmps) = true then Oper.wp P o a w K Q else K (a.put o.dst undef) w) :
    wpAnyL P md ops Q loud (fuel + 1) listed a w := by
  refine ⟨fun h0 => (by rw [hr] at h0; cases h0), fun j hj => ?_⟩
  rw [hr] at hj
  obtain rfl : j = i := by simpa using hj
  exact wpOp_step (op_of_drop ho) fun K hK => h K fun a' w' hW => hK a' w' ⟨.inl (by simpa using hl), hW⟩
theorem wpAnyL_done {listed : Array Bool} {a : Act} {w : World} (hr : Region.ready md ops listed = []) (h : Q .normal a w) :
    ∀ fuel, wpAnyL P md ops Q loud fuel listed a w
  | 0 => ⟨hr, h⟩
  | _ + 1 => ⟨fun _ => h, by rw [hr]; simp⟩
/-- The beginning. -/
theorem wp_region_l (loud : List Nat) {id : Nat} {a : Act} {w : World} (hm : P.follows .mixedOrders = true)
    (h : wpAnyL P .any ops Q loud ops.size (Array.replicate ops.size false) a w.drew) : (Code.region id ops true).wp P Q a w :=
  wp_region_any hm (wpAny_of_l _ _ _ _ h)
end
end Go.Proofs.YtcmollfhlillfaaGreatDoor
/-
  A region in which two operations may come up in either order, both ways followed; a cut behind it.
-/
namespace Go.Proofs.YtcmollfhlillfaaGreatDoor
open Go.RowKit
section
variable {P : Program} {ops : Array Oper} {Q : Exit → Act → World → Prop} {md : Region.Mode} {loud : List Nat}
/-- Number i is taken first, where none is loud. -/
theorem wpAnyL_take0 (i : Nat) {oi : Oper} {rest : List Oper} {v : Value} {fuel : Nat} {listed : Array Bool} {a : Act} {w : World} (hi : ops.toList.drop i = oi :: rest)
    (hs : Region.noSelect ops = true) (hf : Region.free md ops listed i = true) (hr : (Region.ready md ops listed).contains i = true)
    (hQ : ∀ c a w, Q (.panic c) (a.put oi.dst v) w → Q (.panic c) a w) (hw : Region.wanted oi (yielded ops a.tmps) = true)
    (hy : ∀ W, Later w W → (execOp a.eval oi).run P W = .ok (.value v) W)
    (h : wpAnyL P md ops Q [] fuel (listed.setIfInBounds i true) (a.put oi.dst v) w) : wpAnyL P md ops Q [] (fuel + 1) listed a w :=
  wpAnyL_first Later Later.steady (fun _ => True) (fun _ _ _ _ _ => ⟨trivial, fun _ _ h => h.elim (fun h => by cases h) id⟩) (op_of_drop hi) (Region.noSelect_spec hs) hQ fuel listed a w trivial (Region.free_spec (op_of_drop hi) hf) (by simpa using hr) (.inl ⟨hw, hy⟩) h
/-- Two may come up; none is loud. -/
theorem wpAnyL_two (i j : Nat) {oi oj : Oper} {ri rj : List Oper} {fuel : Nat} {listed : Array Bool} {a : Act} {w : World} (hr : Region.ready md ops listed = [i, j]) (hoi : ops.toList.drop i = oi :: ri) (hoj : ops.toList.drop j = oj :: rj)
    (hi : ∀ K : Act → World → Prop, Shut (∀ a' w', Later w w' → wpAnyL P md ops Q loud fuel (listed.setIfInBounds i true) a' w' → K a' w') → if Region.wanted oi (yielded ops a.tmps) = true then Oper.wp P oi a w K Q else K (a.put oi.dst undef) w)
    (hj : ∀ K : Act → World → Prop, Shut (∀ a' w', Later w w' → wpAnyL P md ops Q loud fuel (listed.setIfInBounds j true) a' w' → K a' w') → if Region.wanted oj (yielded ops a.tmps) = true then Oper.wp P oj a w K Q else K (a.put oj.dst undef) w) :
    wpAnyL P md ops Q loud (fuel + 1) listed a w := by
  refine ⟨fun h0 => (by rw [hr] at h0; cases h0), fun k hk => ?_⟩
  rw [hr] at hk
  rcases List.mem_cons.1 hk with rfl | hk
  · exact wpOp_step (op_of_drop hoi) fun K hK => hi K fun a' w' hl hW => hK a' w' ⟨.inr hl, hW⟩
  · obtain rfl : k = j := by simpa using hk
    exact wpOp_step (op_of_drop hoj) fun K hK => hj K fun a' w' hl hW => hK a' w' ⟨.inr hl, hW⟩
/-- Two may come up; loud ones too. -/
theorem wpAnyL_both (i j : Nat) {oi oj : Oper} {ri rj : List Oper} {fuel : Nat} {listed : Array Bool} {a : Act} {w : World} (hr : Region.ready md ops listed = [i, j]) (hoi : ops.toList.drop i = oi :: ri) (hoj : ops.toList.drop j = oj :: rj)
    (hi : ∀ K : Act → World → Prop, Shut (∀ a' w', (i ∈ loud ∨ Later w w') → wpAnyL P md ops Q loud fuel (listed.setIfInBounds i true) a' w' → K a' w') → if Region.wanted oi (yielded ops a.tmps) = true then Oper.wp P oi a w K Q else K (a.put oi.dst undef) w)
    (hj : ∀ K : Act → World → Prop, Shut (∀ a' w', (j ∈ loud ∨ Later w w') → wpAnyL P md ops Q loud fuel (listed.setIfInBounds j true) a' w' → K a' w') → if Region.wanted oj (yielded ops a.tmps) = true then Oper.wp P oj a w K Q else K (a.put oj.dst undef) w) :
    wpAnyL P md ops Q loud (fuel + 1) listed a w := by
  refine ⟨fun h0 => (by rw [hr] at h0; cases h0), fun k hk => ?_⟩
  rw [hr] at hk
  rcases List.mem_cons.1 hk with rfl | hk
  · exact wpOp_step (op_of_drop hoi) fun K hK => hi K fun a' w' hl hW => hK a' w' ⟨hl, hW⟩
  · obtain rfl : k = j := by simpa using hk
    exact wpOp_step (op_of_drop hoj) fun K hK => hj K fun a' w' hl hW => hK a' w' ⟨hl, hW⟩
/-- A cut: a region that ends as usual, in one of some frames. -/
def CutPost (F : Nat → World → Prop) (T : Nat → Act) : Exit → Act → World → Prop
  | .normal, a, W => ∃ b, a = T b ∧ F b W
  | _, _, _ => False
theorem cut_leaf {F : Nat → World → Prop} {T : Nat → Act} {a : Act} {W : World} (b : Nat) (h1 : a = T b) (h2 : F b W) : CutPost F T .normal a W := ⟨b, h1, h2⟩
theorem wp_cut {c : Code} {a : Act} {w : World} (F : Nat → World → Prop) (T : Nat → Act) (h1 : c.wp P (CutPost F T) a w) (h2 : ∀ b W, F b W → Q .normal (T b) W) : c.wp P Q a w :=
  Code.wp_mono (fun e a' W h => by cases e with | normal => obtain ⟨b, rfl, hF⟩ := h; exact h2 b W hF | _ => exact h.elim) h1
end
end Go.Proofs.YtcmollfhlillfaaGreatDoor
