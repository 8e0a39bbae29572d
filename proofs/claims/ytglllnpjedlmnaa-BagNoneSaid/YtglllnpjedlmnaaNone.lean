/-
  BagNone: no bag answers that it is none. For any numbers and any text.
  Conditions: none but the row's own.
-/
import Derived.Test.YtglllnpjedlmnaaBagAwake
import Derived.Test.YtglllnpjedlmnaaFrame
namespace Go.Proofs.Ytglllnpjedlmnaa
open Go.ChangeShapes Go.WideShapes Go.ChangeAt Go.RowKit
set_option linter.unusedVariables false
set_option maxHeartbeats 1000000 in
theorem bagNone_walk (n t : Int) (v : Value) (w : World) :
    Calls Try.prog 7 #[.int .i64 n, v, .int .u8 t] w fun e w' => e = .returned (.bool true) ∧ Below w.heap.size w w' := by
  go_enter Try.func7, Try.ntmps7
  go_wp2_with (first
    | (go_at_call 13; refine (look_nil _ _).mono ?_; rintro e w' ⟨rfl, rfl⟩)
    | (go_at_call 14; refine (take_nil _ _).mono ?_; rintro e w' ⟨rfl, rfl⟩)
    | (go_at_call 9; refine (awake_any _).mono ?_; rintro e w1 ⟨rfl, hb⟩; have HB := Lib.hid hb; clear hb)
    | (go_at_call 10; refine (send_nil _ _ _).mono ?_; rintro e w' ⟨rfl, rfl⟩)
    | (go_at_call 11; refine (twin_nil _ _).mono ?_; rintro e w' ⟨rfl, rfl⟩)
    | (go_at_call 12; refine (spoil_nil _ _ _ _).mono ?_; rintro e w' ⟨rfl, rfl⟩)
    | (go_at_call 15; refine (len_nil _).mono ?_; rintro e w' ⟨rfl, rfl⟩))
  go_ret
  exact ⟨rfl, HB.out⟩
theorem bagNone_contract (H : Type) (enc : TypeId × Value → H) (W : World) (base : Nat) (args : Array Value) (ds : List (DataW H)) (before : List MemPlace)
    (hval : ∀ (j : Nat) t v, Try.f7.params[j]? = some t → args[j]? = some v → Value.okWide Try.prog W .any base t v)
    (hA : DataW.TrodAll enc Try.prog W 0 (fun _ => true) true Try.f7.params.toList args.toList ds before)
    (hsz : (DataW.weightsEach Try.prog (Try.f7.params.toList ++ Rows.bagNoneSpec.plain.varTypes Try.prog) (ds ++ [])).all (· ≤ reachBytes) = true) :
    Calls Try.prog 7 args W fun e W' => e = .returned (.bool true) ∧ Below W.heap.size W W' := by
  rw [Try.params7] at hA hval hsz
  obtain ⟨v0, vs0, d0, ds0, p0, q0, hargs, rfl, rfl, h0, r0⟩ := trodAll_cons hA
  obtain ⟨v1, vs1, d1, ds1, p1, q1, rfl, rfl, rfl, h1, r1⟩ := trodAll_cons r0
  obtain ⟨v2, vs2, d2, ds2, p2, q2, rfl, rfl, rfl, h2, r2⟩ := trodAll_cons r1
  obtain ⟨rfl, rfl, rfl⟩ := trodAll_nil r2
  obtain rfl : args = #[v0, v1, v2] := by cases args; simp_all
  obtain ⟨a0, rfl, rfl, rfl, w0⟩ := open_int Try.underlying3 (hval 0 3 v0 rfl rfl) h0
  obtain ⟨a2, rfl, rfl, rfl, w2⟩ := open_int Try.underlying5 (hval 2 5 v2 rfl rfl) h2
  exact bagNone_walk a0 a2 v1 W
set_option maxRecDepth 100000 in
theorem bagNone_lifted (os : Os) (started : os.Started) (H : Type) (enc : TypeId × Value → H) :
    ReturnsInHanded {} Try.checked os 7 .any (Rows.bagNoneSpec.pre6 enc Try.prog Try.f7 Rows.bagNoneRow.domain false) (Rows.bagNoneSpec.post enc Try.prog Try.f7 false true false false) := by
  refine returnsInHanded_of_change_sized (C := Try.checked) own started (by kernel_rfl) Try.func7
    (ChangeSpec.witness6 (enc := enc) (C := Try.checked) false ⟨#[], #[.int .i64 0, .slice none 0 0, .int .u8 0], []⟩ 8 (by kernel_rfl) (by kernel_rfl) (by kernel_rfl) (by kernel_rfl)) ?_
  intro W base args ds gs before hval hW _ hsz _
  have hW' := hW
  obtain ⟨p, q, hA0, hV, rfl, hfz, hnd⟩ := hW
  obtain ⟨rfl, rfl⟩ := trodVars_none hV
  have hA : DataW.TrodAll enc Try.prog W 0 (fun _ => true) true Try.f7.params.toList args.toList ds p := hA0
  refine (bagNone_contract H enc W base args ds p hval hA hsz).mono fun e W' ⟨he, hb⟩ => ?_
  subst he
  have hds : ds.length = 3 := by
    rw [Try.params7] at hA
    obtain ⟨v0, vs0, d0, ds0, p0, q0, _, rfl, rfl, _, r0⟩ := trodAll_cons hA
    obtain ⟨v1, vs1, d1, ds1, p1, q1, _, rfl, rfl, _, r1⟩ := trodAll_cons r0
    obtain ⟨v2, vs2, d2, ds2, p2, q2, _, rfl, rfl, _, r2⟩ := trodAll_cons r1
    obtain ⟨_, rfl, rfl⟩ := trodAll_nil r2
    rfl
  have hsh : ∃ d0 d1 d2 : DataW H, ds = [d0, d1, d2] := by
    match ds, hds with
    | [d0, d1, d2], _ => exact ⟨d0, d1, d2, rfl⟩
  obtain ⟨d0, d1, d2, rfl⟩ := hsh
  exact ⟨_, rfl, post_law (s := Rows.bagNoneSpec) laidOut (by kernel_rfl) Try.underlying4 rfl (by kernel_rfl) hW' rfl rfl rfl hb⟩
theorem bagNone_over : Rows.bagNoneRow.holds Try.pinned (OpenSpec.ofChange Rows.bagNoneSpec) :=
  OpenClaim.holds_of_wide 7 Try.f7 rfl rfl rfl rfl rfl rfl rfl ⟨rfl, rfl, rfl, rfl, rfl⟩ rfl rfl rfl rfl rfl (by kernel_rfl) Try.func7 (by kernel_rfl)
    (of_decide_eq_true (by kernel_rfl)) (by unfold Func.isWrapper; first | (rw [if_pos (by decide +kernel)]; kernel_rfl) | (rw [if_neg (by decide +kernel)]; exact ⟨rfl, rfl⟩))
    (fun os started H enc _ => bagNone_lifted os started H enc)
/-- The statement. -/
theorem bagNone_holds : Rows.BagNoneSaid := bagNone_over
end Go.Proofs.Ytglllnpjedlmnaa
