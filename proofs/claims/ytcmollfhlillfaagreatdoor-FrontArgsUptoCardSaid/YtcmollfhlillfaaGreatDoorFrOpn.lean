/-
  front: states, numbers, texts, messages that come in; a world for the witness.
-/
import Derived.Test.YtcmollfhlillfaaGreatDoorFrame
import Derived.Test.YtcmollfhlillfaaGreatDoorShape
import Derived.Test.YtcmollfhlillfaaGreatDoorShape2
import Derived.Test.YtcmollfhlillfaaGreatDoorFrAt
import Derived.Test.YtcmollfhlillfaaGreatDoorCards
import Derived.Deep.DeepHandedRow
import Derived.Deep.DeepWitnessRowRef
import Derived.Lib.LaidIn
namespace Go.Proofs.YtcmollfhlillfaaGreatDoor
open Go.ChangeShapes Go.WideShapes Go.ChangeAt Go.RowKit
set_option linter.unusedVariables false
set_option linter.unusedSimpArgs false
set_option maxRecDepth 20000
section
variable {H : Type} {enc : TypeId × Value → H} {W : World} {b base : Nat} {held : Bool} {r : Reach}
theorem fwf_i64 {n : Int} (h : (Lit.int .i64 n).wf = true) : I64 n := by
  simpa [Lit.wf, IntKind.min, IntKind.max, IntKind.signed, IntKind.bits, I64] using h
theorem fopens_ints : Opens enc Tryz.prog 35 (SliceSh 1 (IntSh .i64)) (sumM fun _ => 0) :=
  opens_slice (size := 1) Tryz.underlying35 (by kernel_rfl) (by omega) (opens_int Tryz.underlying3)
theorem fopens_strs : Opens enc Tryz.prog 38 (SliceSh 1 StringSh) (sumM fun a => a.size) :=
  opens_slice (size := 1) Tryz.underlying38 (by kernel_rfl) (by omega) (opens_string Tryz.underlying9)
theorem flat_ints (L : List Int) : L.flatMap (fun n => [Value.int .i64 n]) = ints L := by
  unfold ints; induction L with
  | nil => rfl
  | cons a L ih => rw [List.flatMap_cons, ih]; rfl
theorem flat_strs (L : List ByteArray) : L.flatMap (fun n => [Value.string n]) = strs L := by
  unfold strs; induction L with
  | nil => rfl
  | cons a L ih => rw [List.flatMap_cons, ih]; rfl
theorem ints_sh {v : Value} {L : List Int} (h : SliceSh 1 (IntSh .i64) W [v] L) : ∃ A c, v = .slice A L.length c ∧ (A = none → L.length = 0) ∧ Rd W 1 A L.length (ints L) := by
  obtain ⟨A, c, e, _, _, hA, hr⟩ := rd_of_sh (size := 1) (enc := fun n => [Value.int .i64 n]) (fun _ => rfl) (by omega) (fun cs x hx => hx.1) h
  rw [flat_ints] at hr
  exact ⟨A, c, e, hA, hr⟩
theorem strs_sh {v : Value} {L : List ByteArray} (h : SliceSh 1 StringSh W [v] L) : ∃ A c, v = .slice A L.length c ∧ (A = none → L.length = 0) ∧ Rd W 1 A L.length (strs L) := by
  obtain ⟨A, c, e, _, _, hA, hr⟩ := rd_of_sh (size := 1) (enc := fun n => [Value.string n]) (fun _ => rfl) (by omega) (fun cs x hx => hx.1) h
  rw [flat_strs] at hr
  exact ⟨A, c, e, hA, hr⟩
theorem fopen_ints {v : Value} {d : DataW H} {p : List MemPlace} (hv : Value.okWide Tryz.prog W r base 35 v) (h : DataW.Trod enc Tryz.prog W b (fun _ => true) held 35 v d p) (hb : Rows.uptoBulk d ≤ 1048576) :
    ∃ A c L, v = .slice A L.length c ∧ L.length ≤ 1048576 ∧ (A = none → L.length = 0) ∧ Rd W 1 A L.length (ints L) := by
  obtain ⟨L, hL, hbl⟩ := open_sh fopens_ints Tryz.underlying35 hv h
  have hlen := sumM_length (fun _ : Int => 0) L
  obtain ⟨A, c, e, hA, hr⟩ := ints_sh hL
  exact ⟨A, c, L, e, by omega, hA, hr⟩
theorem fopen_strs {v : Value} {d : DataW H} {p : List MemPlace} (hv : Value.okWide Tryz.prog W r base 38 v) (h : DataW.Trod enc Tryz.prog W b (fun _ => true) held 38 v d p) (hb : Rows.uptoBulk d ≤ 1048576) :
    ∃ A c L, v = .slice A L.length c ∧ L.length ≤ 1048576 ∧ (A = none → L.length = 0) ∧ Rd W 1 A L.length (strs L) := by
  obtain ⟨L, hL, hbl⟩ := open_sh fopens_strs Tryz.underlying38 hv h
  have hlen := sumM_length (fun a : ByteArray => a.size) L
  obtain ⟨A, c, e, hA, hr⟩ := strs_sh hL
  exact ⟨A, c, L, e, by omega, hA, hr⟩
set_option maxRecDepth 20000 in
theorem fopen_state {v : Value} {d : DataW H} {p : List MemPlace} (hv : Value.okWide Tryz.prog W r base 37 v) (h : DataW.Trod enc Tryz.prog W b (fun _ => true) held 37 v d p) (hb : Rows.uptoBulk d ≤ 1048576) :
    ∃ g e0 q A c L, v = .agg #[.int .i64 g, .int .i64 e0, .int .i64 q, .slice A (List.length L) c] ∧ L.length ≤ 1048576 ∧ (A = none → L.length = 0) ∧ Rd W 1 A L.length (ints L) := by
  obtain ⟨cs, rfl, _⟩ := okWide_struct Tryz.underlying37 hv
  obtain ⟨fuel, hf⟩ := h
  obtain ⟨hl, ys, hyl, hx, n, hf⟩ := opens_parts Tryz.underlying37 hf
  simp only [Value.cells] at hl hf
  rw [show Tryz.prog.cellsOf 37 = 4 by kernel_rfl] at hl
  obtain ⟨l, hcl⟩ : ∃ l, l = cs.toList := ⟨_, rfl⟩
  have ecs : cs = l.toArray := by rw [hcl]
  subst ecs
  simp only [List.toList_toArray] at hl hf
  match l, hl, ys, hyl with
  | [u0, u1, u2, u3], _, [y0, y1, y2, y3], _ =>
    have g0 := hf 0 _ rfl
    have g1 := hf 1 _ rfl
    have g2 := hf 2 _ rfl
    have g3 := hf 3 _ rfl
    have e1 : Tryz.prog.cellsOf 3 = 1 := by kernel_rfl
    have e2 : Tryz.prog.cellsOf 35 = 1 := by kernel_rfl
    simp [e1, e2] at g0 g1 g2 g3
    obtain ⟨k0, h0, _, _⟩ := DataW.trod_int Tryz.underlying3 g0
    obtain ⟨k1, h1, _, _⟩ := DataW.trod_int Tryz.underlying3 g1
    obtain ⟨k2, h2, _, _⟩ := DataW.trod_int Tryz.underlying3 g2
    obtain ⟨L, hL, hbl⟩ := fopens_ints _ _ _ _ _ _ g3
    injection h0 with h0; injection h1 with h1; injection h2 with h2
    subst h0 h1 h2
    have hlen := sumM_length (fun _ : Int => 0) L
    obtain ⟨A, c, rfl, hA, hr⟩ := ints_sh hL
    rw [show d = _ from hx] at hb
    simp only [List.map_cons, List.map_nil, Rows.uptoBulk, Rows.uptoBulkAll] at hb
    exact ⟨k0, k1, k2, A, c, L, rfl, by omega, hA, hr⟩
set_option maxRecDepth 20000 in
theorem fopen_msg {v : Value} {d : DataW H} {p : List MemPlace} (hv : Value.okWide Tryz.prog W r base 53 v) (h : DataW.Trod enc Tryz.prog W b (fun _ => true) held 53 v d p) :
    ∃ m0 m1 m2 m3 m4 m5 m6 m7, v = .agg #[m0, m1, m2, m3, m4, m5, m6, m7] := by
  obtain ⟨cs, rfl, _⟩ := okWide_struct Tryz.underlying53 hv
  obtain ⟨fuel, hf⟩ := h
  obtain ⟨hl, _⟩ := opens_parts Tryz.underlying53 hf
  simp only [Value.cells] at hl
  rw [show Tryz.prog.cellsOf 53 = 8 by kernel_rfl] at hl
  obtain ⟨l, hcl⟩ : ∃ l, l = cs.toList := ⟨_, rfl⟩
  have ecs : cs = l.toArray := by rw [hcl]
  subst ecs
  simp only [List.toList_toArray] at hl
  match l, hl with
  | [u0, u1, u2, u3, u4, u5, u6, u7], _ => exact ⟨u0, u1, u2, u3, u4, u5, u6, u7, rfl⟩
end
/-- A world in which the front's variable holds what the program lays. -/
noncomputable def frontWorld (os : Os) : World :=
  let w0 := World.holding Tryz.prog os ⟨#[], #[], []⟩
  { w0 with heap := w0.heap.modify 0 fun
    | .cells _ t frozen => .cells #[.int .i64 (-1), .int .i64 0] t frozen
    | o => o }
abbrev frontLaid : List (String × DataW Unit) := Rows.frontArgsUptoRow.laid
set_option maxRecDepth 1000000 in
theorem front_laidIn (os : Os) (args : Array Value) : LaidIn Tryz.prog ((frontWorld os).forCall (fun _ _ => 0) ⟨#[], args, []⟩).memory frontLaid [0] :=
  LaidIn.of_run [0] 8 (by kernel_rfl) (by kernel_rfl) (by kernel_rfl) (by kernel_rfl)
theorem front_laidMet (os : Os) (args : Array Value) : laidMet Tryz.prog frontLaid ((frontWorld os).forCall (fun _ _ => 0) ⟨#[], args, []⟩).memory := (front_laidIn os args).met
end Go.Proofs.YtcmollfhlillfaaGreatDoor
