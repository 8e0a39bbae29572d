/-
  FrontStuck: while it waits in vain each moment counts; what it waits for ends that. For arguments of a bulk of at most 1048576; the listed variable holds what the program's text lays.
-/
import Derived.Test.YtcmollfhlillfaaGreatDoorM48
import Derived.Test.YtcmollfhlillfaaGreatDoorM20
import Derived.Test.YtcmollfhlillfaaGreatDoorTie
import Derived.Test.YtcmollfhlillfaaGreatDoorCards
import Derived.SevenTiedAt
import Derived.Deep.DeepHandedRow
import Derived.Deep.DeepWitnessRowRef
import Derived.Lib.LaidIn
import Derived.Lib.LaidU8
namespace Go.Proofs.YtcmollfhlillfaaGreatDoor
open Go.ChangeShapes Go.WideShapes Go.ChangeAt Go.RowKit
open Go.ChangeMaps (open_string shut_string)
set_option linter.unusedVariables false
/-- A world in which the front's variable holds what the program lays. -/
noncomputable def frontWorld (os : Os) : World :=
  let w0 := World.holding Tryz.prog os ⟨#[], #[], []⟩
  { w0 with heap := w0.heap.modify 0 fun
    | .cells _ t frozen => .cells #[.int .i64 (-1), .int .i64 0] t frozen
    | o => o }
abbrev frontLaid : List (String × DataW Unit) := Rows.frontStuckUptoRow.laid
set_option maxRecDepth 1000000 in
theorem front_laidIn (os : Os) (args : Array Value) : LaidIn Tryz.prog ((frontWorld os).forCall (fun _ _ => 0) ⟨#[], args, []⟩).memory frontLaid [0] :=
  LaidIn.of_run [0] 8 (by kernel_rfl) (by kernel_rfl) (by kernel_rfl) (by kernel_rfl)
theorem front_laidMet (os : Os) (args : Array Value) : laidMet Tryz.prog frontLaid ((frontWorld os).forCall (fun _ _ => 0) ⟨#[], args, []⟩).memory := (front_laidIn os args).met
set_option maxRecDepth 100000 in
theorem own_of {W : World} (hL : laidMetH Tryz.prog frontLaid W) : OwnG W := by
  have hL' : laidMet Tryz.prog frontLaid W := hL
  obtain ⟨g, t, cs, fuel, p, h1, h2, h3, h4⟩ := Lib.laidMet.reads hL' (n := "roundhouse/front.own") (d := .agg [.lit (.int .i64 (-1)), .lit (.int .i64 0)]) (List.mem_singleton.2 rfl)
  have hg : g = 0 := Option.some.inj (h1.symm.trans (by kernel_rfl))
  subst hg
  have ht : t = 87 := Option.some.inj (h2.symm.trans (by kernel_rfl))
  subst ht
  have hcs := Lib.ints_of_struct (zs := [-1, 0]) Tryz.underlying87 (k := .i64) (fun i f hf => by
    match i, hf with
    | 0, hf => injection hf with hf; subst hf; exact ⟨Tryz.underlying3, rfl, by kernel_rfl⟩
    | 1, hf => injection hf with hf; subst hf; exact ⟨Tryz.underlying3, rfl, by kernel_rfl⟩
    | i + 2, hf => simp at hf) (by kernel_rfl) h4
  have e0 := World.var?_cell (P := Tryz.prog) h1 h3 0
  have e1 := World.var?_cell (P := Tryz.prog) h1 h3 1
  have hc : cs = #[.int .i64 (-1), .int .i64 0] := by
    apply Array.toList_inj.1
    exact hcs
  subst hc
  exact ⟨by simpa using e0, by simpa using e1⟩
set_option maxRecDepth 20000 in
theorem frontStuck_contract {H : Type} (enc : TypeId × Value → H) {W : World} {base : Nat} {args : Array Value} {ds : List (DataW H)} {p : List MemPlace}
    (hval : ∀ (j : Nat) t v, Tryz.f6.params[j]? = some t → args[j]? = some v → Value.okWide Tryz.prog W .any base t v)
    (hA : DataW.TrodAll enc Tryz.prog W 0 (fun _ => true) true Tryz.f6.params.toList args.toList ds p) (hk : Rows.uptoSmall H (ds ++ []) = true) (hE : OwnG W) :
    Calls Tryz.prog 6 args W fun e W' => e = .returned (.bool true) ∧ Below W.heap.size W W' := by
  rw [Tryz.params6] at hA hval
  obtain ⟨v0, vs0, d0, ds0, p0, q0, hargs, rfl, rfl, h0, r0⟩ := trodAll_cons hA
  obtain ⟨rfl, rfl, rfl⟩ := trodAll_nil r0
  obtain rfl : args = #[v0] := by cases args; simp_all
  obtain ⟨n, rfl, rfl, rfl, hn⟩ := open_int Tryz.underlying5 (hval 0 5 v0 rfl rfl) h0
  have b1 : 0 ≤ n ∧ n ≤ 255 := by simpa [Lit.wf, IntKind.min, IntKind.max, IntKind.signed, IntKind.bits] using hn
  exact (stuck_law hE n b1.1 (by omega)).mono fun e W' h => ⟨h.1, h.2⟩
theorem frontStuck_reads (os : Os) {H : Type} (enc : TypeId × Value → H) : ∃ places, DataW.whole enc Tryz.prog ((frontWorld os).forCall (fun _ _ => 0) ⟨#[], #[.int .u8 0], []⟩).memory Tryz.f6.params.toList (Rows.OpenSpec.upto Rows.frontStuckSpec).bare.plain.vars false (#[.int .u8 0] : Array Value).toList 8 = some ([.lit (.int .u8 0)], [], places) :=
  ⟨[], by kernel_rfl⟩
set_option maxRecDepth 1000000 in
theorem frontStuck_lifted (os : Os) (started : os.Started) (H : Type) (enc : TypeId × Value → H) (F : Stop.Interp) :
    ReturnsInHanded {} Tryz.checked os 6 .any ((Rows.OpenSpec.upto Rows.frontStuckSpec).preRow enc Tryz.prog Tryz.f6 Rows.frontStuckUptoRow.domain false Rows.frontStuckUptoRow.laid) (((Rows.OpenSpec.upto Rows.frontStuckSpec).at F).post enc Tryz.prog Tryz.f6 false true false false) := by
  obtain ⟨places, hx⟩ := frontStuck_reads os enc
  refine returnsInHanded_of_row (C := Tryz.checked) (s := Rows.OpenSpec.upto Rows.frontStuckSpec) own started (by kernel_rfl) Tryz.func6
    (witness_row_atRef (enc := enc) (C := Tryz.checked) false (frontWorld os) #[.int .u8 0] rfl (by kernel_rfl) (by kernel_rfl) (by kernel_rfl)
      (OpenSpec.preRow_of_cond 8 hx (by kernel_rfl) (fun k hk => by cases hk; kernel_rfl) (by kernel_rfl) (front_laidMet os _))) ?_
  intro W base args ds gs before hval hW _ hk _ hL hS _
  have hW' := hW
  obtain ⟨p, q, hA0, hV, rfl, hfz, hnd⟩ := hW
  obtain ⟨rfl, rfl⟩ := trodVars_none hV
  have hA : DataW.TrodAll enc Tryz.prog W 0 (fun _ => true) true Tryz.f6.params.toList args.toList ds p := hA0
  refine (frontStuck_contract enc hval hA (hk _ rfl) (own_of hL)).mono fun e W' ⟨he, hb⟩ => ?_
  subst he
  have hds : ds.length = 1 := by
    rw [Tryz.params6] at hA
    obtain ⟨v0, vs0, d0, ds0, p0, q0, _, rfl, rfl, _, r0⟩ := trodAll_cons hA
    obtain ⟨_, rfl, rfl⟩ := trodAll_nil r0
    rfl
  have hsh : ∃ d0 : DataW H, ds = [d0] := by
    match ds, hds with
    | [d0], _ => exact ⟨d0, rfl⟩
  obtain ⟨d0, rfl⟩ := hsh
  exact ⟨_, rfl, post_law (s := Rows.frontStuckSpec) laidOut (by kernel_rfl) Tryz.underlying4 rfl (by kernel_rfl) hW' rfl rfl rfl hb⟩
set_option maxRecDepth 100000 in
theorem frontStuck_over : Rows.FrontStuckUptoSaid :=
  OpenClaim.holds_of_cond 6 Tryz.f6 rfl rfl rfl rfl rfl rfl rfl ⟨rfl, rfl, rfl, rfl, rfl⟩ rfl rfl rfl rfl rfl (by kernel_rfl) Tryz.func6 (by kernel_rfl)
    (of_decide_eq_true (by kernel_rfl)) (by unfold Func.isWrapper; first | (rw [if_pos (by decide +kernel)]; kernel_rfl) | (rw [if_neg (by decide +kernel)]; exact ⟨rfl, rfl⟩))
    (fun os started H enc _ F => by rw [OpenClaim.pre_eq_preRow]; exact frontStuck_lifted os started H enc F)
theorem frontStuck_plain (f : FuncId) (fn : Func) (hf : Tryz.pinned.checked.prog.funcNamed "roundhouse/roundhouselaw19.FrontStuck" = some f) (hfn : Tryz.pinned.checked.prog.funcs[f]? = some fn) :
    false = Tryz.pinned.checked.prog.looks [] ∧ ∀ (j : Nat) t, fn.params[j]? = some t → Tryz.pinned.checked.prog.wantsStandIn t = false := by
  obtain rfl : f = 6 := Option.some.inj ((show Tryz.prog.funcNamed "roundhouse/roundhouselaw19.FrontStuck" = some 6 by kernel_rfl).symm.trans hf) |>.symm
  obtain rfl : fn = Tryz.f6 := (Option.some.inj (Tryz.func6.symm.trans hfn)).symm
  refine ⟨by kernel_rfl, fun j t ht => ?_⟩
  rw [Tryz.params6] at ht
  have hm : t ∈ [5] := by simpa using Array.mem_of_getElem? ht
  have key : [5].all (fun t => Tryz.prog.wantsStandIn t == false) = true := by kernel_rfl
  exact eq_of_beq (List.all_eq_true.1 key t hm)
/-- The statement's card. -/
theorem frontStuck_card : Rows.FrontStuckUptoCardSaid :=
  Claim7.holds_tied_plain_at .later [] _ _ _ _ frontStuck_over (fun _ h => by cases h) (by kernel_rfl) (fun _ h => by cases h) frontStuckUpto_row_tie rfl ⟨rfl, rfl⟩ (by kernel_rfl) rfl frontStuck_plain (by kernel_rfl)
end Go.Proofs.YtcmollfhlillfaaGreatDoor
