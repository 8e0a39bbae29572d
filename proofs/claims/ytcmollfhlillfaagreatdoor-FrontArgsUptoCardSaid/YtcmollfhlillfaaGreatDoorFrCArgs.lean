/-
  FrontArgs: which fronts may be; no front answers nothing. For arguments of a bulk of at most 1048576; the listed variable holds what the program's text lays.
-/
import Derived.Test.YtcmollfhlillfaaGreatDoorFrArgs
import Derived.Test.YtcmollfhlillfaaGreatDoorFrOpn
import Derived.Test.YtcmollfhlillfaaGreatDoorTie
import Derived.SevenTiedAt
namespace Go.Proofs.YtcmollfhlillfaaGreatDoor
open Go.ChangeShapes Go.WideShapes Go.ChangeAt Go.RowKit
open Go.ChangeMaps (open_string shut_string)
set_option linter.unusedVariables false
set_option maxRecDepth 20000 in
theorem frontArgs_contract {H : Type} (enc : TypeId × Value → H) {W : World} {base : Nat} {args : Array Value} {ds : List (DataW H)} {p : List MemPlace}
    (hval : ∀ (j : Nat) t v, Tryz.f5.params[j]? = some t → args[j]? = some v → Value.okWide Tryz.prog W .any base t v)
    (hA : DataW.TrodAll enc Tryz.prog W 0 (fun _ => true) true Tryz.f5.params.toList args.toList ds p) (hk : Rows.uptoSmall H (ds ++ []) = true) (hE : True) :
    Calls Tryz.prog 5 args W fun e W' => e = .returned (.bool true) ∧ Below W.heap.size W W' := by
  have hb := bulk_bound hk
  rw [Tryz.params5] at hA hval
  obtain ⟨v0, vs0, d0, ds0, p0, q0, hargs, rfl, rfl, h0, r0⟩ := trodAll_cons hA
  obtain ⟨v1, vs1, d1, ds1, p1, q1, rfl, rfl, rfl, h1, r1⟩ := trodAll_cons r0
  obtain ⟨v2, vs2, d2, ds2, p2, q2, rfl, rfl, rfl, h2, r2⟩ := trodAll_cons r1
  obtain ⟨v3, vs3, d3, ds3, p3, q3, rfl, rfl, rfl, h3, r3⟩ := trodAll_cons r2
  obtain ⟨v4, vs4, d4, ds4, p4, q4, rfl, rfl, rfl, h4, r4⟩ := trodAll_cons r3
  obtain ⟨v5, vs5, d5, ds5, p5, q5, rfl, rfl, rfl, h5, r5⟩ := trodAll_cons r4
  obtain ⟨rfl, rfl, rfl⟩ := trodAll_nil r5
  obtain rfl : args = #[v0, v1, v2, v3, v4, v5] := by cases args; simp_all
  simp only [Rows.uptoBulkAll] at hb
  obtain ⟨n, rfl, rfl, rfl, _⟩ := open_int Tryz.underlying3 (hval 0 3 v0 rfl rfl) h0
  obtain ⟨g, e0, q, Ac, cc, C, rfl, hC, hC0, rC⟩ := fopen_state (hval 1 37 v1 rfl rfl) h1 (by omega)
  obtain ⟨n2, rfl, rfl, rfl, _⟩ := open_int Tryz.underlying3 (hval 2 3 v2 rfl rfl) h2
  obtain ⟨Ar, cr, R, rfl, hR, hR0, rR⟩ := fopen_ints (hval 3 35 v3 rfl rfl) h3 (by omega)
  obtain ⟨Ab, cb, B, rfl, hB, hB0, rB⟩ := fopen_strs (hval 4 38 v4 rfl rfl) h4 (by omega)
  obtain ⟨m0, m1, m2, m3, m4, m5, m6, m7, rfl⟩ := fopen_msg (hval 5 53 v5 rfl rfl) h5
  exact (args_any ⟨rC, rR, rB, by omega, by omega, by omega, hC0, hR0, hB0⟩ n g e0 q n2 m0 m1 m2 m3 m4 m5 m6 m7).mono fun e W' h => ⟨h.1, h.2⟩
theorem frontArgs_reads (os : Os) {H : Type} (enc : TypeId × Value → H) : ∃ places, DataW.whole enc Tryz.prog ((frontWorld os).forCall (fun _ _ => 0) ⟨#[], #[.int .i64 0, .agg #[.int .i64 0, .int .i64 0, .int .i64 0, .slice none 0 0], .int .i64 0, .slice none 0 0, .slice none 0 0, .agg #[.int .i64 0, .int .i64 0, .int .i64 0, .int .i64 0, .int .i64 0, .int .i64 0, .int .i64 0, .slice none 0 0]], []⟩).memory Tryz.f5.params.toList (Rows.OpenSpec.upto Rows.frontArgsSpec).bare.plain.vars false (#[.int .i64 0, .agg #[.int .i64 0, .int .i64 0, .int .i64 0, .slice none 0 0], .int .i64 0, .slice none 0 0, .slice none 0 0, .agg #[.int .i64 0, .int .i64 0, .int .i64 0, .int .i64 0, .int .i64 0, .int .i64 0, .int .i64 0, .slice none 0 0]] : Array Value).toList 8 = some ([.lit (.int .i64 0), .agg [.lit (.int .i64 0), .lit (.int .i64 0), .lit (.int .i64 0), .nil], .lit (.int .i64 0), .nil, .nil, .agg [.lit (.int .i64 0), .lit (.int .i64 0), .lit (.int .i64 0), .lit (.int .i64 0), .lit (.int .i64 0), .lit (.int .i64 0), .lit (.int .i64 0), .nil]], [], places) :=
  ⟨[], by kernel_rfl⟩
set_option maxRecDepth 1000000 in
theorem frontArgs_lifted (os : Os) (started : os.Started) (H : Type) (enc : TypeId × Value → H) (F : Stop.Interp) :
    ReturnsInHanded {} Tryz.checked os 5 .any ((Rows.OpenSpec.upto Rows.frontArgsSpec).preRow enc Tryz.prog Tryz.f5 Rows.frontArgsUptoRow.domain false Rows.frontArgsUptoRow.laid) (((Rows.OpenSpec.upto Rows.frontArgsSpec).at F).post enc Tryz.prog Tryz.f5 false true false false) := by
  obtain ⟨places, hx⟩ := frontArgs_reads os enc
  refine returnsInHanded_of_row (C := Tryz.checked) (s := Rows.OpenSpec.upto Rows.frontArgsSpec) own started (by kernel_rfl) Tryz.func5
    (witness_row_atRef (enc := enc) (C := Tryz.checked) false (frontWorld os) #[.int .i64 0, .agg #[.int .i64 0, .int .i64 0, .int .i64 0, .slice none 0 0], .int .i64 0, .slice none 0 0, .slice none 0 0, .agg #[.int .i64 0, .int .i64 0, .int .i64 0, .int .i64 0, .int .i64 0, .int .i64 0, .int .i64 0, .slice none 0 0]] rfl (by kernel_rfl) (by kernel_rfl) (by kernel_rfl)
      (OpenSpec.preRow_of_cond 8 hx (by kernel_rfl) (fun k hk => by cases hk; kernel_rfl) (by kernel_rfl) (front_laidMet os _))) ?_
  intro W base args ds gs before hval hW _ hk _ hL hS _
  have hW' := hW
  obtain ⟨p, q, hA0, hV, rfl, hfz, hnd⟩ := hW
  obtain ⟨rfl, rfl⟩ := trodVars_none hV
  have hA : DataW.TrodAll enc Tryz.prog W 0 (fun _ => true) true Tryz.f5.params.toList args.toList ds p := hA0
  refine (frontArgs_contract enc hval hA (hk _ rfl) (trivial)).mono fun e W' ⟨he, hb⟩ => ?_
  subst he
  have hds : ds.length = 6 := by
    rw [Tryz.params5] at hA
    obtain ⟨v0, vs0, d0, ds0, p0, q0, _, rfl, rfl, _, r0⟩ := trodAll_cons hA
    obtain ⟨v1, vs1, d1, ds1, p1, q1, _, rfl, rfl, _, r1⟩ := trodAll_cons r0
    obtain ⟨v2, vs2, d2, ds2, p2, q2, _, rfl, rfl, _, r2⟩ := trodAll_cons r1
    obtain ⟨v3, vs3, d3, ds3, p3, q3, _, rfl, rfl, _, r3⟩ := trodAll_cons r2
    obtain ⟨v4, vs4, d4, ds4, p4, q4, _, rfl, rfl, _, r4⟩ := trodAll_cons r3
    obtain ⟨v5, vs5, d5, ds5, p5, q5, _, rfl, rfl, _, r5⟩ := trodAll_cons r4
    obtain ⟨_, rfl, rfl⟩ := trodAll_nil r5
    rfl
  have hsh : ∃ d0 d1 d2 d3 d4 d5 : DataW H, ds = [d0, d1, d2, d3, d4, d5] := by
    match ds, hds with
    | [d0, d1, d2, d3, d4, d5], _ => exact ⟨d0, d1, d2, d3, d4, d5, rfl⟩
  obtain ⟨d0, d1, d2, d3, d4, d5, rfl⟩ := hsh
  exact ⟨_, rfl, post_law (s := Rows.frontArgsSpec) laidOut (by kernel_rfl) Tryz.underlying4 rfl (by kernel_rfl) hW' rfl rfl rfl hb⟩
set_option maxRecDepth 100000 in
theorem frontArgs_over : Rows.FrontArgsUptoSaid :=
  OpenClaim.holds_of_cond 5 Tryz.f5 rfl rfl rfl rfl rfl rfl rfl ⟨rfl, rfl, rfl, rfl, rfl⟩ rfl rfl rfl rfl rfl (by kernel_rfl) Tryz.func5 (by kernel_rfl)
    (of_decide_eq_true (by kernel_rfl)) (by unfold Func.isWrapper; first | (rw [if_pos (by decide +kernel)]; kernel_rfl) | (rw [if_neg (by decide +kernel)]; exact ⟨rfl, rfl⟩))
    (fun os started H enc _ F => by rw [OpenClaim.pre_eq_preRow]; exact frontArgs_lifted os started H enc F)
theorem frontArgs_plain (f : FuncId) (fn : Func) (hf : Tryz.pinned.checked.prog.funcNamed "roundhouse/roundhouselaw19.FrontArgs" = some f) (hfn : Tryz.pinned.checked.prog.funcs[f]? = some fn) :
    false = Tryz.pinned.checked.prog.looks [] ∧ ∀ (j : Nat) t, fn.params[j]? = some t → Tryz.pinned.checked.prog.wantsStandIn t = false := by
  obtain rfl : f = 5 := Option.some.inj ((show Tryz.prog.funcNamed "roundhouse/roundhouselaw19.FrontArgs" = some 5 by kernel_rfl).symm.trans hf) |>.symm
  obtain rfl : fn = Tryz.f5 := (Option.some.inj (Tryz.func5.symm.trans hfn)).symm
  refine ⟨by kernel_rfl, fun j t ht => ?_⟩
  rw [Tryz.params5] at ht
  have hm : t ∈ [3, 37, 3, 35, 38, 53] := by simpa using Array.mem_of_getElem? ht
  have key : [3, 37, 3, 35, 38, 53].all (fun t => Tryz.prog.wantsStandIn t == false) = true := by kernel_rfl
  exact eq_of_beq (List.all_eq_true.1 key t hm)
/-- The statement's card. -/
theorem frontArgs_card : Rows.FrontArgsUptoCardSaid :=
  Claim7.holds_tied_plain_at .later [] _ _ _ _ frontArgs_over (fun _ h => by cases h) (by kernel_rfl) (fun _ h => by cases h) frontArgsUpto_row_tie rfl ⟨rfl, rfl⟩ (by kernel_rfl) rfl frontArgs_plain (by kernel_rfl)
end Go.Proofs.YtcmollfhlillfaaGreatDoor
