/-
  TaleTexts: a text is a script just if it is the text of what it is told to be. For texts of at most 1048576 bytes; the listed library tables hold what the program's text lays.
-/
import Derived.Test.YtapiglfbkncahaaDoorTTexts
import Derived.Test.YtapiglfbkncahaaDoorTWorld
import Derived.Test.YtapiglfbkncahaaDoorFrame
import Derived.Test.YtapiglfbkncahaaDoorTie
import Derived.Test.YtapiglfbkncahaaDoorCards
import Derived.SevenTiedAt
namespace Go.Proofs.YtapiglfbkncahaaDoor
open Go.ChangeShapes Go.WideShapes Go.ChangeAt Go.RowKit
open Go.ChangeMaps (open_string shut_string)
set_option linter.unusedVariables false
set_option maxRecDepth 20000 in
theorem taleTexts_contract {H : Type} (enc : TypeId × Value → H) {W : World} {base : Nat} {args : Array Value} {ds : List (DataW H)} {p : List MemPlace}
    (hval : ∀ (j : Nat) t v, Tryd.f6.params[j]? = some t → args[j]? = some v → Value.okWide Tryd.prog W .any base t v)
    (hA : DataW.TrodAll enc Tryd.prog W 0 (fun _ => true) true Tryd.f6.params.toList args.toList ds p) (hk : Rows.uptoSmall H (ds ++ []) = true) (hE : Env W.heap.size W) :
    Calls Tryd.prog 6 args W fun e W' => e = .returned (.bool true) ∧ Below W.heap.size W W' := by
  have hb := bulk_bound hk
  rw [Tryd.params6] at hA hval
  obtain ⟨v0, vs0, d0, ds0, p0, q0, hargs, rfl, rfl, h0, r0⟩ := trodAll_cons hA
  obtain ⟨rfl, rfl, rfl⟩ := trodAll_nil r0
  obtain rfl : args = #[v0] := by cases args; simp_all
  obtain ⟨s, rfl, rfl, rfl, _⟩ := open_string Tryd.underlying9 (hval 0 9 v0 rfl rfl) h0
  simp only [Rows.uptoBulkAll, Rows.uptoBulk] at hb
  exact texts_any hE s.data.toList (by omega)
theorem taleTexts_reads (os : Os) {H : Type} (enc : TypeId × Value → H) : ∃ places, DataW.whole enc Tryd.prog ((taleWorld os).forCall (fun _ _ => 0) ⟨#[], #[.string ByteArray.empty], []⟩).memory Tryd.f6.params.toList (Rows.OpenSpec.upto Rows.taleTextsSpec).bare.plain.vars false (#[.string ByteArray.empty] : Array Value).toList 8 = some ([.lit (.string [])], [], places) :=
  ⟨[], by kernel_rfl⟩
set_option maxRecDepth 1000000 in
theorem taleTexts_lifted (os : Os) (started : os.Started) (H : Type) (enc : TypeId × Value → H) (F : Stop.Interp) :
    ReturnsInHanded {} Tryd.checked os 6 .any ((Rows.OpenSpec.upto Rows.taleTextsSpec).preRow enc Tryd.prog Tryd.f6 Rows.taleTextsUptoRow.domain false Rows.taleTextsUptoRow.laid) (((Rows.OpenSpec.upto Rows.taleTextsSpec).at F).post enc Tryd.prog Tryd.f6 false true false false) := by
  obtain ⟨places, hx⟩ := taleTexts_reads os enc
  refine returnsInHanded_of_row (C := Tryd.checked) (s := Rows.OpenSpec.upto Rows.taleTextsSpec) own started (by kernel_rfl) Tryd.func6
    (witness_row_atRef (enc := enc) (C := Tryd.checked) false (taleWorld os) #[.string ByteArray.empty] rfl (by kernel_rfl) (by kernel_rfl) (by kernel_rfl)
      (OpenSpec.preRow_of_cond 8 hx (by kernel_rfl) (fun k hk => by cases hk; kernel_rfl) (by kernel_rfl) (tale_laidMet os _))) ?_
  intro W base args ds gs before hval hW _ hk _ hL hS _
  have hW' := hW
  obtain ⟨p, q, hA0, hV, rfl, hfz, hnd⟩ := hW
  obtain ⟨rfl, rfl⟩ := trodVars_none hV
  have hA : DataW.TrodAll enc Tryd.prog W 0 (fun _ => true) true Tryd.f6.params.toList args.toList ds p := hA0
  refine (taleTexts_contract enc hval hA (hk _ rfl) (env_of hS hL)).mono fun e W' ⟨he, hb⟩ => ?_
  subst he
  have hds : ds.length = 1 := by
    rw [Tryd.params6] at hA
    obtain ⟨v0, vs0, d0, ds0, p0, q0, _, rfl, rfl, _, r0⟩ := trodAll_cons hA
    obtain ⟨_, rfl, rfl⟩ := trodAll_nil r0
    rfl
  have hsh : ∃ d0 : DataW H, ds = [d0] := by
    match ds, hds with
    | [d0], _ => exact ⟨d0, rfl⟩
  obtain ⟨d0, rfl⟩ := hsh
  exact ⟨_, rfl, post_law (s := Rows.taleTextsSpec) laidOut (by kernel_rfl) Tryd.underlying4 rfl (by kernel_rfl) hW' rfl rfl rfl hb⟩
set_option maxRecDepth 100000 in
theorem taleTexts_over : Rows.TaleTextsUptoSaid :=
  OpenClaim.holds_of_cond 6 Tryd.f6 rfl rfl rfl rfl rfl rfl rfl ⟨rfl, rfl, rfl, rfl, rfl⟩ rfl rfl rfl rfl rfl (by kernel_rfl) Tryd.func6 (by kernel_rfl)
    (of_decide_eq_true (by kernel_rfl)) (by unfold Func.isWrapper; first | (rw [if_pos (by decide +kernel)]; kernel_rfl) | (rw [if_neg (by decide +kernel)]; exact ⟨rfl, rfl⟩))
    (fun os started H enc _ F => by rw [OpenClaim.pre_eq_preRow]; exact taleTexts_lifted os started H enc F)
theorem taleTexts_plain (f : FuncId) (fn : Func) (hf : Tryd.pinned.checked.prog.funcNamed "roundhouse/roundhouselaw24.TaleTexts" = some f) (hfn : Tryd.pinned.checked.prog.funcs[f]? = some fn) :
    true = Tryd.pinned.checked.prog.looks [] ∧ ∀ (j : Nat) t, fn.params[j]? = some t → Tryd.pinned.checked.prog.wantsStandIn t = false := by
  obtain rfl : f = 6 := Option.some.inj ((show Tryd.prog.funcNamed "roundhouse/roundhouselaw24.TaleTexts" = some 6 by kernel_rfl).symm.trans hf) |>.symm
  obtain rfl : fn = Tryd.f6 := (Option.some.inj (Tryd.func6.symm.trans hfn)).symm
  refine ⟨by kernel_rfl, fun j t ht => ?_⟩
  rw [Tryd.params6] at ht
  have hm : t ∈ [9] := by simpa using Array.mem_of_getElem? ht
  have key : [9].all (fun t => Tryd.prog.wantsStandIn t == false) = true := by kernel_rfl
  exact eq_of_beq (List.all_eq_true.1 key t hm)
/-- The statement's card. -/
theorem taleTexts_card : Rows.TaleTextsUptoCardSaid :=
  Claim7.holds_tied_plain_at .later [] _ _ _ _ taleTexts_over (fun _ h => by cases h) (by kernel_rfl) (fun _ h => by cases h) taleTextsUpto_row_tie rfl ⟨rfl, rfl⟩ (by kernel_rfl) rfl taleTexts_plain (by kernel_rfl)
end Go.Proofs.YtapiglfbkncahaaDoor
