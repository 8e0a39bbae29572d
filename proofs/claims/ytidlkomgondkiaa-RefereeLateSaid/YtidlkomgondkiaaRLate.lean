/-
  RefereeLate: for any version and span who read more than the window ahead of the last batch is late, who did not is not; it writes nothing that was there.
  Conditions: none but the row's own.
-/
import Derived.Test.YtidlkomgondkiaaRAw
import Derived.Test.YtidlkomgondkiaaSpanOpen
import Derived.Test.YtidlkomgondkiaaFrame
namespace Go.Proofs.Ytidlkomgondkiaa
open Go.ChangeShapes Go.WideShapes Go.ChangeAt Go.RowKit
set_option linter.unusedVariables false
set_option linter.unusedSimpArgs false
theorem rlate_plain {D D2 : List Int} {M M2 : List Mk} {m m2 r : Int} {s : Spn} (h1 : JudgeAll 1000 0 [] 0 [] D M m) (h2 : JudgeAll 1001 900 (M.filter (newer 900)) m [(r, [s], [])] D2 M2 m2) (hr : 0 ≤ r) : D2 = [if r < 900 then 3 else 1] := by
  obtain ⟨rfl, rfl, rfl⟩ := judgeAll_nil h1
  obtain ⟨j, rfl, a⟩ := judgeAll_one h2
  have hj : j = judgeV ([].filter (newer 900)) 900 r [s] := a.1
  rw [hj]
  unfold judgeV
  rw [if_neg (by simp)]
  split
  · rfl
  · rw [if_neg]
    simp only [List.any_cons, List.any_nil, Bool.or_false, List.filter_nil]
    show ¬ decide (r < 0) = true
    simp; omega
set_option maxRecDepth 100000 in
set_option maxHeartbeats 8000000 in
theorem refereeLate_walk (r : Int) (s : Spn) (hr : 0 ≤ r ∧ r ≤ 65535) (w : World) :
    Calls Try.prog 12 #[.int .u16 r, .agg #[.string s.1, .string s.2]] w fun e w' => e = .returned (.bool true) ∧ Below w.heap.size w w' := by
  have hr1 := hr.1; have hr2 := hr.2
  have hx := heap_alloc_new w (.cells #[.string s.1, .string s.2] 24)
  have hb0 := later_alloc w (.cells #[.string s.1, .string s.2] 24)
  obtain ⟨W0, hW0⟩ : ∃ W0, W0 = w.alloc (.cells #[.string s.1, .string s.2] 24) := ⟨_, rfl⟩
  have HW := hide_ hW0.symm
  rw [← hW0] at hx hb0
  have HX := hide_ hx; have HB0 := hide_ hb0
  clear hx hb0 hW0 hr
  go_enter Try.func12, Try.ntmps12
  go_wp2_with (rw [HW.out])
  refine (rnew_any _).mono ?_; rintro e w1 ⟨rfl, hrf, hb1⟩
  have HR1 := hide_ hrf; have HB1 := hide_ (HB0.out.trans hb1)
  have hx1 := later_row hb1 HX.out
  have x0 := cell_of_row _ _ 0 _ _ (0, 0) hx1
  have x1 := cell_of_row _ _ 1 _ _ (0, 0) hx1
  clear hrf hb1 hx1
  go_wp2_with fail
  obtain ⟨r0, r1, hl⟩ := alloc2_at w1 (.cells #[.string s.1, .string s.2] 24) (.cells #[.int .i64 r, .slice (some ⟨w1.heap.size, 0, none⟩) 1 1, .slice none 0 0] 32)
  obtain ⟨W2, hW2⟩ : ∃ W2, W2 = ((w1.alloc (.cells #[.string s.1, .string s.2] 24)).alloc (.cells #[.int .i64 r, .slice (some ⟨w1.heap.size, 0, none⟩) 1 1, .slice none 0 0] 32)) := ⟨_, rfl⟩
  rw [← hW2] at r0 r1 hl ⊢
  have HS2 := hide_ r0
  have HT2 := hide_ r1; have HL2 := hide_ (HB1.out.trans hl); have HR2 := hide_ (later_row hl HR1.out)
  clear hW2 r0 r1 hl x0 x1
  refine (rawake_yes _).mono ?_; rintro e w3 ⟨rfl, hb3⟩
  have HB3 := hide_ (HL2.out.trans hb3); have HR3 := hide_ (later_row hb3 HR2.out)
  have t0 := later_row hb3 HT2.out
  have HT3 := hide_ t0
  have p0 := cell_of_row _ _ 0 _ _ (0, 0) t0
  have p1 := cell_of_row _ _ 1 _ _ (0, 0) t0
  have p2 := cell_of_row _ _ 2 _ _ (0, 0) t0
  have HS3 := hide_ (later_row hb3 HS2.out)
  have htx := hide_ (rtxn_any (c := 1) (c' := 0) (r := r) (rd_block (n := 1) (size := 2) HS3.out rfl) (R := [s]) (C := []) rfl (Rd.nil w3 3 none) rfl (by omega) (by omega))
  clear hb3 t0
  go_wp2_with fail
  refine htx.out.mono ?_; rintro e w4 ⟨rfl, hb4⟩
  have HB4 := hide_ (HB3.out.trans hb4); have HR4 := hide_ (later_row hb4 HR3.out); have HT4 := hide_ (later_row hb4 HT3.out)
  have HS4 := hide_ (later_row hb4 HS3.out)
  by_cases hs1 : soundT (r, [s], []) = true
  · rw [hs1]
    have HS1 := hide_ hs1
    clear hb4 p0 p1 p2 htx hs1
    go_wp2_with fail
    refine (begin_any 1 0 HR4.out).mono ?_; rintro e w5 h
    obtain ⟨rfl, hrs, hg⟩ := begin_new h (heap_lt0 HR4.out) (by omega) (by omega)
    have HRS5 := hide_ hrs
    have HB5 := hide_ (later_of_grown HB4.out hg (Nat.le_trans HB0.out.size (Nat.le_refl _)))
    have hblk : ∀ {k : Nat} {o : Obj}, W0.heap.size < k → w4.heap[k]? = some o → w5.heap[k]? = some o := fun hk h => (hg.block _ (heap_lt0 h) (fun e => by have := Option.some.inj e; omega)).trans h
    have hw1 : W0.heap.size < w1.heap.size := heap_lt0 HR1.out
    have HT5 := hide_ (hblk (by omega) HT4.out)
    have HS5 := hide_ (hblk hw1 HS4.out)
    clear h hrs hg hblk
    go_wp2_with fail
    refine (rjudge_any (ct := 0) (nt := 0) (At := none) (T := []) 0 1000 HRS5.out (TxRow.nil _ _) (by omega) (by simp) (by simp) (by omega)).mono ?_; rintro e w6 h
    obtain ⟨D, M, m, x, L', f', hJ, rfl, ho, hrs, hT, hL', hf', hlen⟩ := rj_good h HRS5.out rfl (by omega) ⟨by simp, by decide⟩
    have hlen' : L'.length ≤ 192 := by simpa using hlen
    rw [if_neg (by omega)] at hL' hf'
    have hf'' : f' = 900 := by omega
    subst hf''
    have hL'' : L' = M.filter (newer 900) := hL'
    subst hL''
    have HJ := hide_ hJ
    have HRS6 := hide_ hrs
    have HB6 := hide_ (later_turns HB5.out hT HB0.out.size)
    have HT6 := hide_ (hT.row HT5.out (by unfold isRef isMarks; decide))
    have hx6 := HT6.out
    have p0 := cell_of_row _ _ 0 _ _ (0, 0) hx6
    have p1 := cell_of_row _ _ 1 _ _ (0, 0) hx6
    have p2 := cell_of_row _ _ 2 _ _ (0, 0) hx6
    have HS6 := hide_ (hT.row HS5.out (by unfold isRef isMarks; decide))
    clear h hJ ho hrs hT hlen hL' hf' hx6
    go_wp2_with fail
    have hal := later_alloc w6 (.cells #[.int .i64 r, .slice (some ⟨w1.heap.size, 0, none⟩) 1 1, .slice none 0 0] 32)
    have hrow := txRow_one (heap_alloc_new w6 (.cells #[.int .i64 r, .slice (some ⟨w1.heap.size, 0, none⟩) 1 1, .slice none 0 0] 32)) (R := [s]) (C := []) rfl rfl (by omega) (by omega) (rd_block (n := 1) (size := 2) (later_row hal HS6.out) rfl) (Rd.nil _ _ _)
    refine (rjudge_any (ct := 1) 1000 1001 (HRS6.out.below hal) hrow (by omega) (by omega) (by rw [(judgeAll_nil HJ.out).1]; simp) (by omega)).mono ?_; rintro e w7 h
    obtain ⟨D2, M2, m2, x2, L2, f2, hJ2, rfl, ho2, hrs2, hT2, -, -, -⟩ := rj_good h (HRS6.out.below hal) rfl (by omega) ⟨by simp, by rw [List.all_cons, HS1.out]; rfl⟩
    obtain rfl := rlate_plain HJ.out hJ2 hr1
    have HB7 := hide_ (later_turns (HB6.out.trans hal) hT2 HB0.out.size)
    obtain ⟨A2, c2, rfl⟩ := own_form ho2
    obtain ⟨bv, ov, rfl, hcv⟩ := ints_cells ho2 rfl (by simp)
    by_cases hrf : r < 900
    · have v0 : w7.cell? ⟨bv, ov, none⟩ = some (.int .i64 3) := hcv 0 3 (by simp [hrf])
      clear h hJ2 ho2 hrs2 hT2 hal hrow hcv p0 p1 p2
      go_wp2_with fail
      go_ret
      exact ⟨rfl, HB7.out⟩
    · have v0 : w7.cell? ⟨bv, ov, none⟩ = some (.int .i64 1) := hcv 0 1 (by simp [hrf])
      clear h hJ2 ho2 hrs2 hT2 hal hrow hcv p0 p1 p2
      go_wp2_with fail
      go_ret
      exact ⟨ret_val (congrArg Value.bool (show (!decide (r < 900)) = true by simp; omega)), HB7.out⟩
  · have hs1' : soundT (r, [s], []) = false := by simpa using hs1
    rw [hs1']
    clear hb4 p0 p1 p2 htx hs1 hs1'
    go_wp2_with fail
    refine (rawake_yes _).mono ?_; rintro e w5 ⟨rfl, hb5⟩
    have HB5 := hide_ (HB4.out.trans hb5)
    clear hb5
    go_wp2_with fail
    go_ret
    exact ⟨rfl, HB5.out⟩
set_option maxRecDepth 20000 in
theorem refereeLate_contract (H : Type) (enc : TypeId × Value → H) (W : World) (base : Nat) (args : Array Value) (ds : List (DataW H)) (before : List MemPlace)
    (hval : ∀ (j : Nat) t v, Try.f12.params[j]? = some t → args[j]? = some v → Value.okWide Try.prog W .any base t v)
    (hA : DataW.TrodAll enc Try.prog W 0 (fun _ => true) true Try.f12.params.toList args.toList ds before)
    (_hsz : (DataW.weightsEach Try.prog (Try.f12.params.toList ++ Rows.refereeLateSpec.plain.varTypes Try.prog) (ds ++ [])).all (· ≤ reachBytes) = true) :
    Calls Try.prog 12 args W fun e W' => e = .returned (.bool true) ∧ Below W.heap.size W W' := by
  rw [Try.params12] at hA hval
  obtain ⟨v0, vs0, d0, ds0, p0, q0, hargs, rfl, rfl, h0, r0⟩ := trodAll_cons hA
  obtain ⟨v1, vs1, d1, ds1, p1, q1, rfl, rfl, rfl, h1, r1⟩ := trodAll_cons r0
  obtain ⟨rfl, rfl, rfl⟩ := trodAll_nil r1
  obtain rfl : args = #[v0, v1] := by cases args; simp_all
  obtain ⟨r, rfl, rfl, rfl, w0⟩ := open_int Try.underlying22 (hval 0 22 v0 rfl rfl) h0
  obtain ⟨s, rfl, _, _⟩ := open_span (hval 1 24 v1 rfl rfl) h1
  have hr : 0 ≤ r ∧ r ≤ 65535 := by simpa [Lit.wf, IntKind.min, IntKind.max, IntKind.signed, IntKind.bits] using w0
  exact refereeLate_walk r s hr W

set_option maxRecDepth 100000 in
theorem refereeLate_lifted (os : Os) (started : os.Started) (H : Type) (enc : TypeId × Value → H) :
    ReturnsInHanded {} Try.checked os 12 .any (Rows.refereeLateSpec.pre6 enc Try.prog Try.f12 Rows.refereeLateRow.domain false) (Rows.refereeLateSpec.post enc Try.prog Try.f12 false true false false) := by
  refine returnsInHanded_of_change_sized (C := Try.checked) own started (by kernel_rfl) Try.func12
    (ChangeSpec.witness6 (enc := enc) (C := Try.checked) false ⟨#[], #[.int .u16 0, .agg #[.string ByteArray.empty, .string ByteArray.empty]], []⟩ 8 (by kernel_rfl) (by kernel_rfl) (by kernel_rfl) (by kernel_rfl)) ?_
  intro W base args ds gs before hval hW _ hsz _
  have hW' := hW
  obtain ⟨p, q, hA0, hV, rfl, hfz, hnd⟩ := hW
  obtain ⟨rfl, rfl⟩ := trodVars_none hV
  have hA : DataW.TrodAll enc Try.prog W 0 (fun _ => true) true Try.f12.params.toList args.toList ds p := hA0
  refine (refereeLate_contract H enc W base args ds p hval hA hsz).mono fun e W' ⟨he, hb⟩ => ?_
  subst he
  have hds : ds.length = 2 := by
    rw [Try.params12] at hA
    obtain ⟨v0, vs0, d0, ds0, p0, q0, _, rfl, rfl, _, r0⟩ := trodAll_cons hA
    obtain ⟨v1, vs1, d1, ds1, p1, q1, _, rfl, rfl, _, r1⟩ := trodAll_cons r0
    obtain ⟨_, rfl, rfl⟩ := trodAll_nil r1
    rfl
  have hsh : ∃ d0 d1 : DataW H, ds = [d0, d1] := by
    match ds, hds with
    | [d0, d1], _ => exact ⟨d0, d1, rfl⟩
  obtain ⟨d0, d1, rfl⟩ := hsh
  exact ⟨_, rfl, post_law (s := Rows.refereeLateSpec) laidOut (by kernel_rfl) Try.underlying4 rfl (by kernel_rfl) hW' rfl rfl rfl hb⟩
theorem refereeLate_over : Rows.refereeLateRow.holds Try.pinned (OpenSpec.ofChange Rows.refereeLateSpec) :=
  OpenClaim.holds_of_wide 12 Try.f12 rfl rfl rfl rfl rfl rfl rfl ⟨rfl, rfl, rfl, rfl, rfl⟩ rfl rfl rfl rfl rfl (by kernel_rfl) Try.func12 (by kernel_rfl)
    (of_decide_eq_true (by kernel_rfl)) (by unfold Func.isWrapper; first | (rw [if_pos (by decide +kernel)]; kernel_rfl) | (rw [if_neg (by decide +kernel)]; exact ⟨rfl, rfl⟩))
    (fun os started H enc _ => refereeLate_lifted os started H enc)
/-- The statement. -/
theorem refereeLate_holds : Rows.RefereeLateSaid := refereeLate_over
end Go.Proofs.Ytidlkomgondkiaa
