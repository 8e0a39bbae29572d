/-
  Texts of this seat in one: MapV.
-/
import Derived.Test.YtcmollfhlillfaaGreatDoorProg
import Derived.Test.YtcmollfhlillfaaGreatDoorM10
import Derived.IntWalk
import Derived.Maps.OwnOps
import Derived.Maps.OwnSet
/-
  Maps whose keys are numbers and whose elements are told as they lie: a list of pairs, each key once.
-/
namespace Go.Proofs.YtcmollfhlillfaaGreatDoor
open Go.RowKit Go.Maps
set_option linter.unusedVariables false
set_option linter.unusedSimpArgs false
theorem klawI : Keyed Tryz.prog 3 := int_keyed Tryz.underlying3
def I64 (a : Int) : Prop := (Lit.int .i64 a).wf = true
theorem i64_iff {a : Int} : I64 a ↔ -9223372036854775808 ≤ a ∧ a ≤ 9223372036854775807 := by
  unfold I64; simp [Lit.wf, IntKind.min, IntKind.max, IntKind.signed, IntKind.bits]
theorem ikeyI {b : Int} (h : I64 b) : keyOf Tryz.prog 3 (.int .i64 b) = some (.int .i64 b) := keyOf_int_mk Tryz.underlying3 h
theorem ikey_lit {b : Int} : WideAt.IsKeyLit (.int .i64 b) := by simp [WideAt.IsKeyLit]
theorem ilit_ne {a b : Int} (h : a ≠ b) : (Lit.int .i64 a) ≠ .int .i64 b := fun e => h (by injection e)
/-- A value as it lies. -/
def rawR (v : Value) : Option (DataW Value × List MemPlace) := some (.held v, [])
abbrev MP := List (Int × Value)
def getM (M : MP) (k : Int) : Option Value := (M.find? (fun x => x.1 == k)).map (·.2)
def putM (M : MP) (k : Int) (v : Value) : MP := M.filter (fun x => !(x.1 == k)) ++ [(k, v)]
theorem getM_mem {M : MP} {k : Int} {v : Value} (h : getM M k = some v) : (k, v) ∈ M := by
  unfold getM at h
  cases hf : M.find? (fun x => x.1 == k) with
  | none => rw [hf] at h; cases h
  | some y =>
    rw [hf] at h
    have h1 := List.find?_some hf
    have h2 := List.mem_of_find?_eq_some hf
    have e : y.1 = k := by simpa using h1
    have e2 : y.2 = v := by simpa using h
    rw [← e, ← e2]; exact h2
theorem getM_none {M : MP} {k : Int} (h : getM M k = none) : ∀ x ∈ M, x.1 ≠ k := by
  intro x hx e
  unfold getM at h
  have h1 : M.find? (fun x => x.1 == k) = none := by simpa using h
  have h2 := List.find?_eq_none.1 h1 x hx
  simp [e] at h2
theorem getM_put_same (M : MP) (k : Int) (v : Value) : getM (putM M k v) k = some v := by
  unfold getM putM
  rw [List.find?_append, List.find?_eq_none.2 (by intro x hx; have := (List.mem_filter.1 hx).2; simpa using this)]
  simp
theorem getM_put_other (M : MP) {k k' : Int} (v : Value) (h : k' ≠ k) : getM (putM M k v) k' = getM M k' := by
  unfold getM putM
  rw [List.find?_append]
  have e1 : (M.filter (fun x => !(x.1 == k))).find? (fun x => x.1 == k') = M.find? (fun x => x.1 == k') := by
    rw [List.find?_filter]
    congr 1
    funext x
    by_cases hx : x.1 = k'
    · simp [hx, h]
    · simp [hx]
  rw [e1]
  have hk : ¬ k = k' := fun e => h e.symm
  have e2 : List.find? (fun x : Int × Value => x.1 == k') [(k, v)] = none := by simp [hk]
  rw [e2]; simp
structure MapV (D : DataW Value) (M : MP) : Prop where
  tidy : Tidy D
  yes : ∀ k v, getM M k = some v → has D (.int .i64 k) = true ∧ ∀ z, D.atKey (.int .i64 k) z = .held v
  no : ∀ k, has D k = true → ∃ j v, k = .int .i64 j ∧ getM M j = some v
  size : Maps.size D = M.length
  once : (M.map (·.1)).Nodup
theorem MapV.empty : MapV (.map []) [] := ⟨tidy_empty, fun k v h => (by cases h), fun k h => (by cases h), rfl, List.nodup_nil⟩
theorem MapV.has_not {D : DataW Value} {M : MP} (h : MapV D M) {k : Int} (hk : getM M k = none) : has D (.int .i64 k) = false := by
  cases hc : has D (.int .i64 k) with
  | false => rfl
  | true =>
    obtain ⟨j, v, e, hj⟩ := h.no _ hc
    injection e with _ e
    subst e
    rw [hk] at hj; cases hj
theorem filter_one {M : MP} (h : (M.map (·.1)).Nodup) {k : Int} {v : Value} (hk : getM M k = some v) : (M.filter (fun x => !(x.1 == k))).length + 1 = M.length := by
  induction M with
  | nil => cases hk
  | cons x M ih =>
    rw [List.map_cons, List.nodup_cons] at h
    by_cases e : x.1 = k
    · have e2 : M.filter (fun x => !(x.1 == k)) = M := by
        rw [List.filter_eq_self]
        intro y hy
        have : y.1 ≠ k := fun e3 => h.1 (by rw [e, ← e3]; exact List.mem_map_of_mem hy)
        simpa using this
      rw [List.filter_cons_of_neg (by simp [e]), e2, List.length_cons]
    · have hk2 : getM M k = some v := by
        unfold getM at hk ⊢
        rwa [List.find?_cons_of_neg (by simpa using e)] at hk
      rw [List.filter_cons_of_pos (by simpa using e), List.length_cons, List.length_cons, ih h.2 hk2]
theorem filter_none {M : MP} {k : Int} (hk : getM M k = none) : M.filter (fun x => !(x.1 == k)) = M := by
  rw [List.filter_eq_self]
  intro y hy
  have := getM_none hk y hy
  simpa using this
theorem putM_len_new {M : MP} {k : Int} (v : Value) (hk : getM M k = none) : (putM M k v).length = M.length + 1 := by
  unfold putM; rw [filter_none hk]; simp
theorem putM_len_le (M : MP) (k : Int) (v : Value) : (putM M k v).length ≤ M.length + 1 := by
  unfold putM; rw [List.length_append]; have := List.length_filter_le (fun x : Int × Value => !(x.1 == k)) M; simp; omega
theorem MapV.put {D : DataW Value} {M : MP} (h : MapV D M) (k : Int) (v : Value) : MapV (D.put (.int .i64 k) (.held v)) (putM M k v) := by
  refine ⟨h.tidy.put ikey_lit _, fun j u hj => ?_, fun j hj => ?_, ?_, ?_⟩
  · by_cases e : j = k
    · subst e
      rw [getM_put_same] at hj
      injection hj with hj
      subst hj
      exact ⟨has_put_same h.tidy.isMap ikey_lit _, fun z => atKey_put_same h.tidy.isMap ikey_lit _ z⟩
    · rw [getM_put_other _ _ e] at hj
      have h1 := h.yes j u hj
      exact ⟨(has_put_other (ilit_ne e) _).trans h1.1, fun z => (atKey_put_other (ilit_ne e) _ z).trans (h1.2 z)⟩
  · by_cases e : j = .int .i64 k
    · exact ⟨k, v, e, getM_put_same M k v⟩
    · rw [has_put_other e] at hj
      obtain ⟨i, u, rfl, hu⟩ := h.no j hj
      exact ⟨i, u, rfl, by rw [getM_put_other _ _ (fun e2 => e (by rw [e2]))]; exact hu⟩
  · rw [size_put h.tidy]
    cases hg : getM M k with
    | none =>
      rw [h.has_not hg, putM_len_new v hg, h.size]; rfl
    | some u =>
      rw [(h.yes k u hg).1, if_pos rfl, h.size]
      unfold putM
      rw [List.length_append, ← filter_one h.once hg]; rfl
  · unfold putM
    rw [List.map_append, List.nodup_append]
    refine ⟨(List.Sublist.map _ List.filter_sublist).nodup h.once, by simp, ?_⟩
    intro a ha b hb
    obtain ⟨x, hx, rfl⟩ := List.mem_map.1 ha
    have h1 := (List.mem_filter.1 hx).2
    simp only [List.map_cons, List.map_nil, List.mem_singleton] at hb
    subst hb
    simpa using h1
/-- A block that is this map. -/
def MapM (w : World) (b : Nat) (M : MP) : Prop := ∃ D : DataW Value, w.ownsMap Tryz.prog 3 rawR b M.length D ∧ MapV D M
theorem MapM.made (w : World) : MapM (w.alloc (.map #[] 0)) w.heap.size [] := ⟨_, World.ownsMap_made w Tryz.prog 3 rawR, MapV.empty⟩
theorem MapM.lt {w : World} {b : Nat} {M : MP} (h : MapM w b M) : b < w.heap.size := by obtain ⟨D, h, _⟩ := h; exact h.lt
theorem MapM.hits {F : Nat → Prop} {w w' : World} {b : Nat} {M : MP} (h : MapM w b M) (hh : Hits F w w') (hb : ¬ F b) : MapM w' b M := by
  obtain ⟨D, ⟨es, clock, h1, h2, h3, h4⟩, h5⟩ := h
  exact ⟨D, ⟨es, clock, hh.row h1 hb, h2, h3, h4⟩, h5⟩
theorem MapM.later {w w' : World} {b : Nat} {M : MP} (h : MapM w b M) (hl : Later w w') : MapM w' b M := h.hits (Hits.later (F := fun _ => False) hl) id
theorem MapM.map {w : World} {b : Nat} {M : MP} (h : MapM w b M) : ∃ es clock, w.heap[b]? = some (.map es clock) := by
  obtain ⟨D, ⟨es, clock, h1, _⟩, _⟩ := h
  exact ⟨es, clock, h1⟩
theorem MapM.len {w : World} {b : Nat} {M : MP} (h : MapM w b M) {t e : TypeId} (ht : Tryz.prog.underlying t = some (.map 3 e)) (ty : TypeId) : (Builtin.len_ #[t] ty #[.map (some b)]).run Tryz.prog w = .ok (.int .i64 (M.length : Nat)) w := by
  obtain ⟨D, h1, h2⟩ := h
  rw [h1.len ht ty, h2.size]
set_option maxRecDepth 100000 in
theorem MapM.look_ok {w : World} {b : Nat} {M : MP} (h : MapM w b M) {t e : TypeId} (ht : Tryz.prog.underlying t = some (.map 3 e)) {z : Value} (hz : (zeroValue e).run Tryz.prog w = .ok z w) {k : Int} (hk : I64 k) :
    (Instr.lookup t (.map (some b)) (.int .i64 k) true).run Tryz.prog w = .ok (.tuple #[(getM M k).getD z, .bool (getM M k).isSome]) w := by
  obtain ⟨D, h1, h2⟩ := h
  obtain ⟨v, ps, hrun, hv⟩ := h1.look_ok klawI ht hz (zd := .held z) (zp := []) rfl (ikeyI hk)
  rw [hrun]
  unfold rawR at hv
  injection hv with hv
  injection hv with hv _
  cases hg : getM M k with
  | none =>
    have h3 := h2.has_not hg
    rw [atKey_of_not_has h3] at hv
    injection hv with hv
    rw [h3, hv]; rfl
  | some u =>
    have h3 := h2.yes k u hg
    rw [h3.2] at hv
    injection hv with hv
    rw [h3.1, hv]; rfl
set_option maxRecDepth 100000 in
theorem MapM.look {w : World} {b : Nat} {M : MP} (h : MapM w b M) {t e : TypeId} (ht : Tryz.prog.underlying t = some (.map 3 e)) {z : Value} (hz : (zeroValue e).run Tryz.prog w = .ok z w) {k : Int} (hk : I64 k) :
    (Instr.lookup t (.map (some b)) (.int .i64 k) false).run Tryz.prog w = .ok ((getM M k).getD z) w := by
  obtain ⟨D, h1, h2⟩ := h
  obtain ⟨v, ps, hrun, hv⟩ := h1.lookup klawI ht hz (zd := .held z) (zp := []) rfl (ikeyI hk)
  rw [hrun]
  unfold rawR at hv
  injection hv with hv
  injection hv with hv _
  cases hg : getM M k with
  | none =>
    have h3 := h2.has_not hg
    rw [atKey_of_not_has h3] at hv
    injection hv with hv
    rw [hv]; rfl
  | some u =>
    have h3 := h2.yes k u hg
    rw [h3.2] at hv
    injection hv with hv
    rw [hv]; rfl
theorem MapM.store {w : World} {b : Nat} {M : MP} (h : MapM w b M) {t e : TypeId} (ht : Tryz.prog.underlying t = some (.map 3 e)) {k : Int} (hk : I64 k) (v : Value) (hM : M.length < 4611686018427387904) :
    ∃ w', (Instr.mapUpdate t (.map (some b)) (.int .i64 k) v).run Tryz.prog w = .ok () w' ∧ MapM w' b (putM M k v) ∧ Hits (· = b) w w' := by
  obtain ⟨D, h1, h2⟩ := h
  obtain ⟨w', hrun, h3, h4⟩ := h1.update klawI ht (by unfold maxLen; omega) (ikeyI hk) (d := .held v) (ps := []) rfl
  refine ⟨w', hrun, ⟨_, ?_, h2.put k v⟩, ?_⟩
  · have h5 := (h2.put k v).size
    obtain ⟨es, clock, g1, g2, g3, g4⟩ := h3
    refine ⟨es, clock, g1, g2, ?_, g4⟩
    rw [← h5, g4]
    have : Maps.size (DataW.map ((es.toList.map (WideElems.rg Tryz.prog 3 rawR)).foldr DataW.insert [])) = es.size := by simp [Maps.size, length_sorted]
    rw [this]; exact Nat.le_refl _
  · exact (Hits.refl _ w).grown h4 fun g hg _ => (Option.some.inj hg).symm
theorem wpList_mapUpdateM {w : World} {ops : Array Oper} {rest : List Oper} {o : Oper} {a : Act} {Q : Exit → Act → World → Prop} (hg : o.guard = none) (m x v : Operand) (t : TypeId) (hop : o.op = Op.mapUpdate t m x v)
    {b : Nat} {M : MP} {e : TypeId} (h : MapM w b M) (ht : Tryz.prog.underlying t = some (.map 3 e)) (hm : a.eval m = .map (some b)) {k : Int} (hk : I64 k) (hx : a.eval x = .int .i64 k) {val : Value} (hv : a.eval v = val) (hM : M.length < 4611686018427387904)
    (hK : ∀ w', MapM w' b (putM M k val) → Hits (· = b) w w' → wpList Tryz.prog ops Q rest (a.put o.dst undef) w') : wpList Tryz.prog ops Q (o :: rest) a w := by
  refine wpList_plain hg fun K' hK' => ?_
  obtain ⟨w', hrun, r1, r2⟩ := h.store ht hk val hM
  unfold Oper.wp
  simp [execOp, hop, hm, hx, hv, hrun, Result.andThen]
  exact hK' _ _ (hK w' r1 r2)
end Go.Proofs.YtcmollfhlillfaaGreatDoor
