/-
  A region that draws its order, where calls make memory: an operation that yields one value in every world that has grown out of the world at hand may be taken first; a call is taken where nothing else may come up.
-/
import Derived.Test.YtcmollfhlillfaaGreatDoorMem
import Derived.Deep.RegionHeld3
namespace Go.Proofs.YtcmollfhlillfaaGreatDoor
open Go.RowKit
/-- The worlds that have grown out of w: what stood stands. -/
def Later (w W : World) : Prop := Below w.heap.size w W
theorem Later.refl (w : World) : Later w w := Below.refl _ _
theorem Later.trans {a b c : World} (h : Later a b) (k : Later b c) : Later a c := Below.trans h (Below.mono k (Below.size h))
/-- Every world may come. -/
def Always (_ _ : World) : Prop := True
/-- A relation of worlds that stays, and adds up. -/
structure Steady (R : World → World → Prop) : Prop where
  refl : ∀ w, R w w
  trans : ∀ {a b c}, R a b → R b c → R a c
theorem Later.steady : Steady Later := ⟨Later.refl, Later.trans⟩
theorem Always.steady : Steady Always := ⟨fun _ => trivial, fun _ _ => trivial⟩
theorem later_cell {w : World} {b o : Nat} {u : Value} (h : w.cell? ⟨b, o, none⟩ = some u) : ∀ W, Later w W → W.cell? ⟨b, o, none⟩ = some u := fun _ hW => (hW.cell (cell_lt h)).trans h
theorem later_drew_cell {w : World} {b o : Nat} {u : Value} (h : w.cell? ⟨b, o, none⟩ = some u) : ∀ W, Later w.drew W → W.cell? ⟨b, o, none⟩ = some u := later_cell (w := w.drew) h
section
variable {P : Program} {ops : Array Oper} {Q : Exit → Act → World → Prop} {md : Region.Mode} {R : World → World → Prop}
/-- Whatever order is picked from here on, and each operation leaves what stood. -/
def wpAnyR (P : Program) (md : Region.Mode) (ops : Array Oper) (Q : Exit → Act → World → Prop) (R : World → World → Prop) : Nat → Array Bool → Act → World → Prop
  | 0, listed, a, w => Region.ready md ops listed = [] ∧ Q .normal a w
  | fuel + 1, listed, a, w =>
    (Region.ready md ops listed = [] → Q .normal a w) ∧
    ∀ i ∈ Region.ready md ops listed, wpOp P ops Q i (fun a' w' => R w w' ∧ wpAnyR P md ops Q R fuel (listed.setIfInBounds i true) a' w') a w
theorem wpAny_of_r : ∀ (fuel : Nat) (listed : Array Bool) (a : Act) (w : World), wpAnyR P md ops Q R fuel listed a w → wpAny P md ops Q fuel listed a w
  | 0, _, _, _, h => h
  | fuel + 1, _, _, _, h => ⟨h.1, fun i hi => wpOp_mono (fun a' w' h' => wpAny_of_r fuel _ a' w' h'.2) (h.2 i hi)⟩
theorem yieldsIf_later (hR : Steady R) {o : Oper} {v : Value} {a : Act} {w w' : World} (h : YieldsIf P ops (R w) o v a) (hl : R w w') : YieldsIf P ops (R w') o v a :=
  h.imp (fun ⟨hw, hv⟩ => ⟨hw, fun W hW => hv W (hR.trans hl hW)⟩) id
theorem wpAnyR_first (hR : Steady R) {i : Nat} {oi : Oper} {v : Value} (hi : ops[i]? = some oi) (hsel : ∀ (j : Nat) (o : Oper) cs b, ops[j]? = some o → o.op ≠ .select cs b)
    (hQ : ∀ c a w, Q (.panic c) (a.put oi.dst v) w → Q (.panic c) a w) :
    ∀ (fuel : Nat) (listed : Array Bool) (a : Act) (w : World),
      (∀ j oj, ops[j]? = some oj → j ≠ i → listed.getD j true = false → (∀ e ∈ oj.after, Region.binds md e = true → e.on ≠ i) → oi.apart ops oj = true) →
      i ∈ Region.ready md ops listed → YieldsIf P ops (R w) oi v a →
      wpAnyR P md ops Q R fuel (listed.setIfInBounds i true) (a.put oi.dst v) w → wpAnyR P md ops Q R (fuel + 1) listed a w := by
  intro fuel
  induction fuel with
  | zero =>
    intro listed a w _ hr hy H
    refine ⟨fun h => (by rw [h] at hr; cases hr), fun j hj => ?_⟩
    by_cases hji : j = i
    · subst hji; exact hy.wpOp hi (hR.refl w) ⟨hR.refl w, H⟩
    · have := ready_mono hj hji
      rw [H.1] at this
      cases this
  | succ fuel ih =>
    intro listed a w hfree hr hy H
    refine ⟨fun h => (by rw [h] at hr; cases hr), fun j hj => ?_⟩
    by_cases hji : j = i
    · subst hji; exact hy.wpOp hi (hR.refl w) ⟨hR.refl w, H⟩
    · have h1 := H.2 j (ready_mono hj hji)
      obtain ⟨hjun, oj, hoj, hall⟩ := mem_ready.1 hj
      have hnot : ∀ e ∈ oj.after, Region.binds md e = true → e.on ≠ i := fun e he hb heq => by
        have h1 := hall e he hb
        have h0 := (mem_ready.1 hr).1
        rw [heq] at h1
        rcases Nat.lt_or_ge i listed.size with h' | h'
        · simp [h'] at h0 h1; rw [h0] at h1; cases h1
        · simp [Array.getElem?_eq_none h'] at h1
      have h2 := wpOp_putIf hoj (hfree j oj hoj hji hjun hnot) (fun cs b => hsel i oi cs b hi) (fun cs b => hsel j oj cs b hoj) hQ hy h1
      have hfree' : ∀ k ok, ops[k]? = some ok → k ≠ i → (listed.setIfInBounds j true).getD k true = false →
          (∀ e ∈ ok.after, Region.binds md e = true → e.on ≠ i) → oi.apart ops ok = true := fun k ok hk hki hun hno => by
        refine hfree k ok hk hki ?_ hno
        by_cases hjk : j = k
        · subst hjk; exact hjun
        · rw [getD_set_ne true hjk] at hun; exact hun
      refine wpOp_mono (fun a' w' h3 => ⟨h3.2.1, ih (listed.setIfInBounds j true) a' w' hfree' (ready_mono hr (Ne.symm hji)) (yieldsIf_later hR h3.1 h3.2.1) ?_⟩) h2
      rw [Array.setIfInBounds_comm _ _ hji]
      exact h3.2.2
theorem op_of_drop {i : Nat} {o : Oper} {rest : List Oper} (h : ops.toList.drop i = o :: rest) : ops[i]? = some o := by
  have e : (ops.toList.drop i)[0]? = some o := by rw [h]; rfl
  rw [List.getElem?_drop, Nat.add_zero] at e
  rw [← Array.getElem?_toList]; exact e
/-- Number i is taken first: it is wanted, and yields v in every later world. -/
theorem wpAnyR_take (hR : Steady R) (i : Nat) {oi : Oper} {rest : List Oper} {v : Value} {fuel : Nat} {listed : Array Bool} {a : Act} {w : World} (hi : ops.toList.drop i = oi :: rest)
    (hs : Region.noSelect ops = true) (hf : Region.free md ops listed i = true) (hr : (Region.ready md ops listed).contains i = true)
    (hQ : ∀ c a w, Q (.panic c) (a.put oi.dst v) w → Q (.panic c) a w) (hw : Region.wanted oi (yielded ops a.tmps) = true)
    (hy : ∀ W, R w W → (execOp a.eval oi).run P W = .ok (.value v) W)
    (h : wpAnyR P md ops Q R fuel (listed.setIfInBounds i true) (a.put oi.dst v) w) : wpAnyR P md ops Q R (fuel + 1) listed a w :=
  wpAnyR_first hR (op_of_drop hi) (Region.noSelect_spec hs) hQ fuel listed a w (Region.free_spec (op_of_drop hi) hf) (by simpa using hr) (.inl ⟨hw, hy⟩) h
/-- Number i is passed over: its guard says no. -/
theorem wpAnyR_skip (hR : Steady R) (i : Nat) {oi : Oper} {rest : List Oper} {fuel : Nat} {listed : Array Bool} {a : Act} {w : World} (hi : ops.toList.drop i = oi :: rest)
    (hs : Region.noSelect ops = true) (hf : Region.free md ops listed i = true) (hr : (Region.ready md ops listed).contains i = true)
    (hQ : ∀ c a w, Q (.panic c) (a.put oi.dst undef) w → Q (.panic c) a w) (hw : Region.wanted oi (yielded ops a.tmps) = false)
    (h : wpAnyR P md ops Q R fuel (listed.setIfInBounds i true) (a.put oi.dst undef) w) : wpAnyR P md ops Q R (fuel + 1) listed a w :=
  wpAnyR_first hR (op_of_drop hi) (Region.noSelect_spec hs) hQ fuel listed a w (Region.free_spec (op_of_drop hi) hf) (by simpa using hr) (.inr ⟨hw, rfl⟩) h
/-- Number i alone may come up. -/
theorem wpAnyR_one (i : Nat) {o : Oper} {rest : List Oper} {fuel : Nat} {listed : Array Bool} {a : Act} {w : World} (hr : Region.ready md ops listed = [i]) (ho : ops.toList.drop i = o :: rest)
    (h : ∀ K : Act → World → Prop, Shut (∀ a' w', R w w' → wpAnyR P md ops Q R fuel (listed.setIfInBounds i true) a' w' → K a' w') → if Region.wanted o (yielded ops a.tmps) = true then Oper.wp P o a w K Q else K (a.put o.dst undef) w) :
    wpAnyR P md ops Q R (fuel + 1) listed a w := by
  refine ⟨fun h0 => (by rw [hr] at h0; cases h0), fun j hj => ?_⟩
  rw [hr] at hj
  obtain rfl : j = i := by simpa using hj
  exact wpOp_step (op_of_drop ho) fun K hK => h K fun a' w' hl hW => hK a' w' ⟨hl, hW⟩
theorem wpAnyR_done {listed : Array Bool} {a : Act} {w : World} (hr : Region.ready md ops listed = []) (h : Q .normal a w) :
    ∀ fuel, wpAnyR P md ops Q R fuel listed a w
  | 0 => ⟨hr, h⟩
  | _ + 1 => ⟨fun _ => h, by rw [hr]; simp⟩
/-- The beginning. -/
theorem wp_region_r {id : Nat} {a : Act} {w : World} (hm : P.follows .mixedOrders = true)
    (h : wpAnyR P .any ops Q R ops.size (Array.replicate ops.size false) a w.drew) : (Code.region id ops true).wp P Q a w :=
  wp_region_any hm (wpAny_of_r _ _ _ _ h)
end

/-! The two relations that are used: nothing that stood turns; whatever. -/
section
variable {P : Program} {ops : Array Oper} {Q : Exit → Act → World → Prop} {md : Region.Mode}
abbrev wpAnyK (P : Program) (md : Region.Mode) (ops : Array Oper) (Q : Exit → Act → World → Prop) := wpAnyR P md ops Q Later
abbrev wpAnyT (P : Program) (md : Region.Mode) (ops : Array Oper) (Q : Exit → Act → World → Prop) := wpAnyR P md ops Q Always
theorem wpAnyK_take (i : Nat) {oi : Oper} {rest : List Oper} {v : Value} {fuel : Nat} {listed : Array Bool} {a : Act} {w : World} (hi : ops.toList.drop i = oi :: rest)
    (hs : Region.noSelect ops = true) (hf : Region.free md ops listed i = true) (hr : (Region.ready md ops listed).contains i = true)
    (hQ : ∀ c a w, Q (.panic c) (a.put oi.dst v) w → Q (.panic c) a w) (hw : Region.wanted oi (yielded ops a.tmps) = true)
    (hy : ∀ W, Later w W → (execOp a.eval oi).run P W = .ok (.value v) W)
    (h : wpAnyR P md ops Q Later fuel (listed.setIfInBounds i true) (a.put oi.dst v) w) : wpAnyR P md ops Q Later (fuel + 1) listed a w := wpAnyR_take Later.steady i hi hs hf hr hQ hw hy h
theorem wpAnyK_skip (i : Nat) {oi : Oper} {rest : List Oper} {fuel : Nat} {listed : Array Bool} {a : Act} {w : World} (hi : ops.toList.drop i = oi :: rest)
    (hs : Region.noSelect ops = true) (hf : Region.free md ops listed i = true) (hr : (Region.ready md ops listed).contains i = true)
    (hQ : ∀ c a w, Q (.panic c) (a.put oi.dst undef) w → Q (.panic c) a w) (hw : Region.wanted oi (yielded ops a.tmps) = false)
    (h : wpAnyR P md ops Q Later fuel (listed.setIfInBounds i true) (a.put oi.dst undef) w) : wpAnyR P md ops Q Later (fuel + 1) listed a w := wpAnyR_skip Later.steady i hi hs hf hr hQ hw h
theorem wpAnyK_one (i : Nat) {o : Oper} {rest : List Oper} {fuel : Nat} {listed : Array Bool} {a : Act} {w : World} (hr : Region.ready md ops listed = [i]) (ho : ops.toList.drop i = o :: rest)
    (h : ∀ K : Act → World → Prop, Shut (∀ a' w', Later w w' → wpAnyR P md ops Q Later fuel (listed.setIfInBounds i true) a' w' → K a' w') → if Region.wanted o (yielded ops a.tmps) = true then Oper.wp P o a w K Q else K (a.put o.dst undef) w) :
    wpAnyR P md ops Q Later (fuel + 1) listed a w := wpAnyR_one i hr ho h
theorem wpAnyK_done {listed : Array Bool} {a : Act} {w : World} (hr : Region.ready md ops listed = []) (h : Q .normal a w) (fuel : Nat) : wpAnyR P md ops Q Later fuel listed a w := wpAnyR_done hr h fuel
theorem wp_region_k {id : Nat} {a : Act} {w : World} (hm : P.follows .mixedOrders = true)
    (h : wpAnyR P .any ops Q Later ops.size (Array.replicate ops.size false) a w.drew) : (Code.region id ops true).wp P Q a w := wp_region_r hm h
theorem wpAnyT_take (i : Nat) {oi : Oper} {rest : List Oper} {v : Value} {fuel : Nat} {listed : Array Bool} {a : Act} {w : World} (hi : ops.toList.drop i = oi :: rest)
    (hs : Region.noSelect ops = true) (hf : Region.free md ops listed i = true) (hr : (Region.ready md ops listed).contains i = true)
    (hQ : ∀ c a w, Q (.panic c) (a.put oi.dst v) w → Q (.panic c) a w) (hw : Region.wanted oi (yielded ops a.tmps) = true)
    (hy : ∀ W, Always w W → (execOp a.eval oi).run P W = .ok (.value v) W)
    (h : wpAnyR P md ops Q Always fuel (listed.setIfInBounds i true) (a.put oi.dst v) w) : wpAnyR P md ops Q Always (fuel + 1) listed a w := wpAnyR_take Always.steady i hi hs hf hr hQ hw hy h
theorem wpAnyT_skip (i : Nat) {oi : Oper} {rest : List Oper} {fuel : Nat} {listed : Array Bool} {a : Act} {w : World} (hi : ops.toList.drop i = oi :: rest)
    (hs : Region.noSelect ops = true) (hf : Region.free md ops listed i = true) (hr : (Region.ready md ops listed).contains i = true)
    (hQ : ∀ c a w, Q (.panic c) (a.put oi.dst undef) w → Q (.panic c) a w) (hw : Region.wanted oi (yielded ops a.tmps) = false)
    (h : wpAnyR P md ops Q Always fuel (listed.setIfInBounds i true) (a.put oi.dst undef) w) : wpAnyR P md ops Q Always (fuel + 1) listed a w := wpAnyR_skip Always.steady i hi hs hf hr hQ hw h
theorem wpAnyT_one (i : Nat) {o : Oper} {rest : List Oper} {fuel : Nat} {listed : Array Bool} {a : Act} {w : World} (hr : Region.ready md ops listed = [i]) (ho : ops.toList.drop i = o :: rest)
    (h : ∀ K : Act → World → Prop, Shut (∀ a' w', Always w w' → wpAnyR P md ops Q Always fuel (listed.setIfInBounds i true) a' w' → K a' w') → if Region.wanted o (yielded ops a.tmps) = true then Oper.wp P o a w K Q else K (a.put o.dst undef) w) :
    wpAnyR P md ops Q Always (fuel + 1) listed a w := wpAnyR_one i hr ho h
theorem wpAnyT_done {listed : Array Bool} {a : Act} {w : World} (hr : Region.ready md ops listed = []) (h : Q .normal a w) (fuel : Nat) : wpAnyR P md ops Q Always fuel listed a w := wpAnyR_done hr h fuel
theorem wp_region_t {id : Nat} {a : Act} {w : World} (hm : P.follows .mixedOrders = true)
    (h : wpAnyR P .any ops Q Always ops.size (Array.replicate ops.size false) a w.drew) : (Code.region id ops true).wp P Q a w := wp_region_r hm h
end
end Go.Proofs.YtcmollfhlillfaaGreatDoor
