/-
  MarksNone: for any number, span and transactions no Marks answer that there are none, and it writes nothing that was there.
  Conditions: none but the row's own.
-/
import Derived.Test.YtidlkomgondkiaaMAw
import Derived.Test.YtidlkomgondkiaaSpanOpen
import Derived.Test.YtidlkomgondkiaaFrame
namespace Go.Proofs.Ytidlkomgondkiaa
open Go.ChangeShapes Go.WideShapes Go.ChangeAt Go.RowKit
set_option linter.unusedVariables false
set_option linter.unusedSimpArgs false
set_option maxHeartbeats 1000000 in
theorem marksNone_walk (n : Int) (s : Spn) (A : Option Addr) (len c : Nat) (w : World) :
    Calls Try.prog 7 #[.int .i64 n, .agg #[.string s.1, .string s.2], .slice A len c] w fun e w' => e = .returned (.bool true) ∧ Below w.heap.size w w' := by
  have HX := hide_ (heap_alloc_new w (.cells #[.string s.1, .string s.2] 24))
  have HB0 := hide_ (later_alloc w (.cells #[.string s.1, .string s.2] 24))
  go_enter Try.func7, Try.ntmps7
  go_wp2_with fail
  refine (judge_none n _ _).mono ?_; rintro e w1 ⟨rfl, hb1⟩
  have hx1 := (hb1.block _ (by simp)).trans HX.out
  have x0 := cell_of_row _ _ 0 _ _ (0, 0) hx1
  have x1 := cell_of_row _ _ 1 _ _ (0, 0) hx1
  have HB1 := hide_ (HB0.out.trans hb1)
  clear hb1 hx1
  go_wp2_with fail
  refine (last_none s _).mono ?_; rintro e w2 ⟨rfl, hb2⟩
  have HB2 := hide_ (HB1.out.trans hb2)
  clear hb2 x0 x1
  go_wp2_with fail
  refine (awake_yes _).mono ?_; rintro e w3 ⟨rfl, hb3⟩
  have HB3 := hide_ (HB2.out.trans hb3)
  clear hb3
  go_wp2_with fail
  refine (forget_none n _).mono ?_; rintro e w4 ⟨rfl, hb4⟩
  have HB4 := hide_ (HB3.out.trans hb4)
  clear hb4
  go_wp2_with fail
  refine (size_none _).mono ?_; rintro e w5 ⟨rfl, hb5⟩
  have HB5 := hide_ (HB4.out.trans hb5)
  clear hb5
  go_wp2_with fail
  go_ret
  exact ⟨rfl, HB5.out⟩
set_option maxRecDepth 20000 in
theorem marksNone_contract (H : Type) (enc : TypeId × Value → H) (W : World) (base : Nat) (args : Array Value) (ds : List (DataW H)) (before : List MemPlace)
    (hval : ∀ (j : Nat) t v, Try.f7.params[j]? = some t → args[j]? = some v → Value.okWide Try.prog W .any base t v)
    (hA : DataW.TrodAll enc Try.prog W 0 (fun _ => true) true Try.f7.params.toList args.toList ds before)
    (_hsz : (DataW.weightsEach Try.prog (Try.f7.params.toList ++ Rows.marksNoneSpec.plain.varTypes Try.prog) (ds ++ [])).all (· ≤ reachBytes) = true) :
    Calls Try.prog 7 args W fun e W' => e = .returned (.bool true) ∧ Below W.heap.size W W' := by
  rw [Try.params7] at hA hval
  obtain ⟨v0, vs0, d0, ds0, p0, q0, hargs, rfl, rfl, h0, r0⟩ := trodAll_cons hA
  obtain ⟨v1, vs1, d1, ds1, p1, q1, rfl, rfl, rfl, h1, r1⟩ := trodAll_cons r0
  obtain ⟨v2, vs2, d2, ds2, p2, q2, rfl, rfl, rfl, h2, r2⟩ := trodAll_cons r1
  obtain ⟨rfl, rfl, rfl⟩ := trodAll_nil r2
  obtain rfl : args = #[v0, v1, v2] := by cases args; simp_all
  obtain ⟨n, rfl, rfl, rfl, w0⟩ := open_int Try.underlying3 (hval 0 3 v0 rfl rfl) h0
  obtain ⟨s, rfl, _, _⟩ := open_span (hval 1 24 v1 rfl rfl) h1
  obtain ⟨A, len, c, rfl⟩ := okWide_slice Try.underlying40 (hval 2 40 v2 rfl rfl)
  exact marksNone_walk n s _ len c W

set_option maxRecDepth 100000 in
theorem marksNone_lifted (os : Os) (started : os.Started) (H : Type) (enc : TypeId × Value → H) :
    ReturnsInHanded {} Try.checked os 7 .any (Rows.marksNoneSpec.pre6 enc Try.prog Try.f7 Rows.marksNoneRow.domain false) (Rows.marksNoneSpec.post enc Try.prog Try.f7 false true false false) := by
  refine returnsInHanded_of_change_sized (C := Try.checked) own started (by kernel_rfl) Try.func7
    (ChangeSpec.witness6 (enc := enc) (C := Try.checked) false ⟨#[], #[.int .i64 0, .agg #[.string ByteArray.empty, .string ByteArray.empty], .slice none 0 0], []⟩ 8 (by kernel_rfl) (by kernel_rfl) (by kernel_rfl) (by kernel_rfl)) ?_
  intro W base args ds gs before hval hW _ hsz _
  have hW' := hW
  obtain ⟨p, q, hA0, hV, rfl, hfz, hnd⟩ := hW
  obtain ⟨rfl, rfl⟩ := trodVars_none hV
  have hA : DataW.TrodAll enc Try.prog W 0 (fun _ => true) true Try.f7.params.toList args.toList ds p := hA0
  refine (marksNone_contract H enc W base args ds p hval hA hsz).mono fun e W' ⟨he, hb⟩ => ?_
  subst he
  have hds : ds.length = 3 := by
    rw [Try.params7] at hA
    obtain ⟨v0, vs0, d0, ds0, p0, q0, _, rfl, rfl, _, r0⟩ := trodAll_cons hA
    obtain ⟨v1, vs1, d1, ds1, p1, q1, _, rfl, rfl, _, r1⟩ := trodAll_cons r0
    obtain ⟨v2, vs2, d2, ds2, p2, q2, _, rfl, rfl, _, r2⟩ := trodAll_cons r1
    obtain ⟨_, rfl, rfl⟩ := trodAll_nil r2
    rfl
  have hsh : ∃ d0 d1 d2 : DataW H, ds = [d0, d1, d2] := by
    match ds, hds with
    | [d0, d1, d2], _ => exact ⟨d0, d1, d2, rfl⟩
  obtain ⟨d0, d1, d2, rfl⟩ := hsh
  exact ⟨_, rfl, post_law (s := Rows.marksNoneSpec) laidOut (by kernel_rfl) Try.underlying4 rfl (by kernel_rfl) hW' rfl rfl rfl hb⟩
theorem marksNone_over : Rows.marksNoneRow.holds Try.pinned (OpenSpec.ofChange Rows.marksNoneSpec) :=
  OpenClaim.holds_of_wide 7 Try.f7 rfl rfl rfl rfl rfl rfl rfl ⟨rfl, rfl, rfl, rfl, rfl⟩ rfl rfl rfl rfl rfl (by kernel_rfl) Try.func7 (by kernel_rfl)
    (of_decide_eq_true (by kernel_rfl)) (by unfold Func.isWrapper; first | (rw [if_pos (by decide +kernel)]; kernel_rfl) | (rw [if_neg (by decide +kernel)]; exact ⟨rfl, rfl⟩))
    (fun os started H enc _ => marksNone_lifted os started H enc)
/-- The statement. -/
theorem marksNone_holds : Rows.MarksNoneSaid := marksNone_over
end Go.Proofs.Ytidlkomgondkiaa
