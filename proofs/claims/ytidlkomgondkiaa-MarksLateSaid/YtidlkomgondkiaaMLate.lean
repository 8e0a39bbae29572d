/-
  MarksLate: for any floor, version, span and change who read ahead of the floor is late, who read nothing is fine; it writes nothing that was there.
  Conditions: none but the row's own.
-/
import Derived.Test.YtidlkomgondkiaaMOpen
import Derived.Test.YtidlkomgondkiaaSpanOpen
import Derived.Test.YtidlkomgondkiaaFrame
import Derived.Lib.SmallJoins
namespace Go.Proofs.Ytidlkomgondkiaa
open Go.ChangeShapes Go.WideShapes Go.ChangeAt Go.RowKit
set_option linter.unusedVariables false
set_option linter.unusedSimpArgs false
theorem late_plain {f r : Int} {s : Spn} {c : Chg} {V : List Int} {M : List Mk} {m : Int} (h : JudgeAll (f + 1) f [] 0 [(r, [s], []), (r, [], [c])] V M m) (hr : 0 ≤ r) : V = [if r < f then 3 else 1, 1] := by
  obtain ⟨j, k, N, n, rfl, a, b⟩ := judgeAll_two h
  obtain ⟨rfl, -⟩ := fine_of b (judgeV_nil _ _ _)
  have hj : j = judgeV [] f r [s] := a.1
  rw [hj]
  unfold judgeV
  rw [if_neg (by simp)]
  split
  · rfl
  · rw [if_neg]
    simp only [List.any_cons, List.any_nil, Bool.or_false]
    show ¬ decide (r < 0) = true
    simp; omega
set_option maxRecDepth 100000 in
set_option maxHeartbeats 8000000 in
theorem marksLate_walk (f r : Int) (s : Spn) (c : Chg) (hf : 0 ≤ f ∧ f ≤ 65535) (hr : 0 ≤ r ∧ r ≤ 65535) (w : World) :
    Calls Try.prog 3 #[.int .u16 f, .int .u16 r, .agg #[.string s.1, .string s.2], .agg #[.int .i64 c.1, .string c.2.1, .string c.2.2]] w fun e w' => e = .returned (.bool true) ∧ Below w.heap.size w w' := by
  have hf1 := hf.1; have hf2 := hf.2; have hr1 := hr.1; have hr2 := hr.2
  have HF := hide_ hf; have HRR := hide_ hr
  clear hf hr
  go_enter Try.func3, Try.ntmps3
  go_wp2_with fail
  have hb0 : Later w ((w.alloc (.cells #[.string s.1, .string s.2] 24)).alloc (.cells #[.int .i64 c.1, .string c.2.1, .string c.2.2] 26)) := (later_alloc _ _).trans (later_alloc _ _)
  have hx6 := row_al (heap_alloc_new w (.cells #[.string s.1, .string s.2] 24)) (.cells #[.int .i64 c.1, .string c.2.1, .string c.2.2] 26)
  have hx7 := row_new2 w (.cells #[.string s.1, .string s.2] 24) (.cells #[.int .i64 c.1, .string c.2.1, .string c.2.2] 26)
  obtain ⟨W0, hW0⟩ : ∃ W0, W0 = ((w.alloc (.cells #[.string s.1, .string s.2] 24)).alloc (.cells #[.int .i64 c.1, .string c.2.1, .string c.2.2] 26)) := ⟨_, rfl⟩
  rw [← hW0] at hb0 hx6 hx7 ⊢
  have HB0 := hide_ hb0; have HX6 := hide_ hx6; have HX7 := hide_ hx7
  clear hb0 hx6 hx7 hW0
  refine (new_any _ _).mono ?_; rintro e w1 ⟨rfl, hm, hb1⟩
  rw [Int.max_eq_left hf1] at hm
  have HMK := hide_ (mk_new hm)
  have HMA := hide_ hm
  have HB1 := hide_ hb1
  have hx6 := (hb1.block _ (heap_lt0 HX6.out)).trans HX6.out
  have hx7 := (hb1.block _ (heap_lt0 HX7.out)).trans HX7.out
  have x0 := cell_of_row _ _ 0 _ _ (0, 0) hx6
  have x1 := cell_of_row _ _ 1 _ _ (0, 0) hx6
  have y0 := mcell_stay2 (cell_of_row _ _ 0 _ _ (0, 0) hx7)
  have y1 := mcell_stay2 (cell_of_row _ _ 1 _ _ (0, 0) hx7)
  have y2 := mcell_stay2 (cell_of_row _ _ 2 _ _ (0, 0) hx7)
  clear hm hb1 hx6 hx7
  go_wp2_with fail
  obtain ⟨r0, r1, r2, r3, hl2⟩ := alloc4_at w1 (.cells #[.string s.1, .string s.2] 24) (.cells #[.int .i64 r, .slice (some ⟨w1.heap.size, 0, none⟩) 1 1, .slice none 0 0] 32) (.cells #[.int .i64 c.1, .string c.2.1, .string c.2.2] 26) (.cells #[.int .i64 r, .slice none 0 0, .slice (some ⟨w1.heap.size + 1 + 1, 0, none⟩) 1 1] 32)
  obtain ⟨W2, hW2⟩ : ∃ W2, W2 = ((((w1.alloc (.cells #[.string s.1, .string s.2] 24)).alloc (.cells #[.int .i64 r, .slice (some ⟨w1.heap.size, 0, none⟩) 1 1, .slice none 0 0] 32)).alloc (.cells #[.int .i64 c.1, .string c.2.1, .string c.2.2] 26)).alloc (.cells #[.int .i64 r, .slice none 0 0, .slice (some ⟨w1.heap.size + 1 + 1, 0, none⟩) 1 1] 32)) := ⟨_, rfl⟩
  rw [← hW2] at r0 r1 r2 r3 hl2 ⊢
  have HS2 := hide_ (rd_block (n := 1) (size := 2) r0 rfl); have HC2 := hide_ (rd_block (n := 1) (size := 3) r2 rfl)
  have HT2 := hide_ r1; have HU2 := hide_ r3; have HL2 := hide_ hl2
  clear hW2 r0 r1 r2 r3 hl2 x0 x1 y0 y1 y2
  refine (awake_yes _).mono ?_; rintro e w3 ⟨rfl, hb3⟩
  have t0 := later_row hb3 HT2.out
  have u0 := later_row hb3 HU2.out
  have p0 := cell_of_row _ _ 0 _ _ (0, 0) t0
  have p1 := cell_of_row _ _ 1 _ _ (0, 0) t0
  have p2 := cell_of_row _ _ 2 _ _ (0, 0) t0
  have HB3 := hide_ hb3
  have htx := hide_ (rtxn_any (c := 1) (c' := 0) (r := r) (HS2.out.below hb3) (R := [s]) (C := []) rfl (Rd.nil w3 3 none) rfl (by omega) (by omega))
  have HT3 := hide_ t0; have HU3 := hide_ u0
  clear hb3 t0 u0
  go_wp2_with fail
  refine htx.out.mono ?_; rintro e w4 ⟨rfl, hb4⟩
  have HB4 := hide_ hb4
  have t0 := later_row hb4 HT3.out
  have u0 := later_row hb4 HU3.out
  have HT4 := hide_ t0; have HU4 := hide_ u0
  by_cases hs1 : soundT (r, [s], []) = true
  · rw [hs1]
    have q0 := cell_of_row _ _ 0 _ _ (0, 0) u0
    have q1 := cell_of_row _ _ 1 _ _ (0, 0) u0
    have q2 := cell_of_row _ _ 2 _ _ (0, 0) u0
    have hty := hide_ (rtxn_any (c := 0) (c' := 1) (r := r) (Rd.nil w4 2 none) (R := []) (C := [c]) rfl ((HC2.out.below HB3.out).below hb4) rfl (by omega) (by omega))
    have HS1 := hide_ hs1
    clear hb4 t0 u0 p0 p1 p2 htx hs1
    go_wp2_with fail
    refine hty.out.mono ?_; rintro e w5 ⟨rfl, hb5⟩
    have HB5 := hide_ hb5
    have t0 := later_row hb5 HT4.out
    have u0 := later_row hb5 HU4.out
    have HT5 := hide_ t0; have HU5 := hide_ u0
    by_cases hs2 : soundT (r, [], [c]) = true
    · rw [hs2]
      have q0 := cell_of_row _ _ 0 _ _ (0, 0) u0
      have q1 := cell_of_row _ _ 1 _ _ (0, 0) u0
      have q2 := cell_of_row _ _ 2 _ _ (0, 0) u0
      have p0 := cell_of_row _ _ 0 _ _ (0, 0) t0
      have p1 := cell_of_row _ _ 1 _ _ (0, 0) t0
      have p2 := cell_of_row _ _ 2 _ _ (0, 0) t0
      have HSB := hide_ hs2
      clear hb5 t0 u0 hty hs2
      go_wp2_with fail
      have hl5 := ((HB3.out.trans HB4.out).trans HB5.out)
      have hal := later_alloc w5 (.cells #[.int .i64 r, .slice (some ⟨w1.heap.size, 0, none⟩) 1 1, .slice none 0 0, .int .i64 r, .slice none 0 0, .slice (some ⟨w1.heap.size + 1 + 1, 0, none⟩) 1 1] 32)
      have hl6 := hl5.trans hal
      have hrow := txRow_two (heap_alloc_new w5 (.cells #[.int .i64 r, .slice (some ⟨w1.heap.size, 0, none⟩) 1 1, .slice none 0 0, .int .i64 r, .slice none 0 0, .slice (some ⟨w1.heap.size + 1 + 1, 0, none⟩) 1 1] 32)) (R := [s]) (C := []) (R' := []) (C' := [c]) rfl rfl (by omega) (by omega) (HS2.out.below hl6) (Rd.nil _ _ _) rfl rfl (by omega) (by omega) (Rd.nil _ _ _) (HC2.out.below hl6)
      have hl7 : Later w1 (w5.alloc (.cells #[.int .i64 r, .slice (some ⟨w1.heap.size, 0, none⟩) 1 1, .slice none 0 0, .int .i64 r, .slice none 0 0, .slice (some ⟨w1.heap.size + 1 + 1, 0, none⟩) 1 1] 32)) := HL2.out.trans hl6
      have hst := hrow.stayM (later_row hl7 HMA.out)
      have HLW := hide_ (HB0.out.trans (HB1.out.trans hl7))
      have HBS := hide_ HB0.out.size
      clear p0 p1 p2 q0 q1 q2
      refine (judges_any (ct := 2) (f + 1) (HMK.out.below hl7) (by simp) ⟨trivial, by omega, fun k hk => (by cases hk)⟩ hf1 hst (by omega)).mono ?_; rintro e w7 hj
      rcases hj with ⟨h, _⟩ | ⟨_, h, _⟩ | ⟨_, _, _, Av, nv, cv, V, M, m, rfl, hJ, hV, hVo, hMK, hG⟩
      · exact absurd h (by rw [Int.max_eq_left hf1]; omega)
      · exact absurd ⟨by simp, by rw [List.all_cons, List.all_cons, HS1.out, HSB.out]; rfl⟩ h
      obtain rfl := late_plain hJ hr1
      obtain rfl : 2 = nv := hV
      have HG7 := hide_ (later_of_grown HLW.out hG HBS.out)
      obtain ⟨bv, ov, rfl, hcv⟩ := ints_cells hVo rfl (by omega)
      have v1 := hcv 1 1 rfl
      by_cases hrf : r < f
      · have v0 : w7.cell? ⟨bv, ov, none⟩ = some (.int .i64 3) := hcv 0 3 (by simp [hrf])
        clear hJ hVo hMK hG hst hl7 hrow hl6 hal hl5 hcv
        go_wp2_with fail
        go_ret
        exact ⟨rfl, HG7.out⟩
      · have v0 : w7.cell? ⟨bv, ov, none⟩ = some (.int .i64 1) := hcv 0 1 (by simp [hrf])
        clear hJ hVo hMK hG hst hl7 hrow hl6 hal hl5 hcv
        go_wp2_with fail
        go_ret
        exact ⟨ret_val (congrArg Value.bool (show (!decide (r < f)) = true by simp; omega)), HG7.out⟩
    · have hs2' : soundT (r, [], [c]) = false := by simpa using hs2
      rw [hs2']
      clear hb5 t0 u0 hty hs2 hs2' q0 q1 q2
      go_wp2_with fail
      refine (awake_yes _).mono ?_; rintro e w6 ⟨rfl, hb6⟩
      have HB6 := hide_ hb6
      clear hb6
      go_wp2_with fail
      go_ret
      exact ⟨rfl, HB0.out.trans (HB1.out.trans (HL2.out.trans (HB3.out.trans (HB4.out.trans (HB5.out.trans HB6.out)))))⟩
  · have hs1' : soundT (r, [s], []) = false := by simpa using hs1
    rw [hs1']
    clear hb4 t0 u0 p0 p1 p2 htx hs1 hs1'
    go_wp2_with fail
    refine (awake_yes _).mono ?_; rintro e w5 ⟨rfl, hb5⟩
    have HB5 := hide_ hb5
    clear hb5
    go_wp2_with fail
    go_ret
    exact ⟨rfl, HB0.out.trans (HB1.out.trans (HL2.out.trans (HB3.out.trans (HB4.out.trans HB5.out))))⟩
set_option maxRecDepth 20000 in
theorem marksLate_contract (H : Type) (enc : TypeId × Value → H) (W : World) (base : Nat) (args : Array Value) (ds : List (DataW H)) (before : List MemPlace)
    (hval : ∀ (j : Nat) t v, Try.f3.params[j]? = some t → args[j]? = some v → Value.okWide Try.prog W .any base t v)
    (hA : DataW.TrodAll enc Try.prog W 0 (fun _ => true) true Try.f3.params.toList args.toList ds before)
    (_hsz : (DataW.weightsEach Try.prog (Try.f3.params.toList ++ Rows.marksLateSpec.plain.varTypes Try.prog) (ds ++ [])).all (· ≤ reachBytes) = true) :
    Calls Try.prog 3 args W fun e W' => e = .returned (.bool true) ∧ Below W.heap.size W W' := by
  rw [Try.params3] at hA hval
  obtain ⟨v0, vs0, d0, ds0, p0, q0, hargs, rfl, rfl, h0, r0⟩ := trodAll_cons hA
  obtain ⟨v1, vs1, d1, ds1, p1, q1, rfl, rfl, rfl, h1, r1⟩ := trodAll_cons r0
  obtain ⟨v2, vs2, d2, ds2, p2, q2, rfl, rfl, rfl, h2, r2⟩ := trodAll_cons r1
  obtain ⟨v3, vs3, d3, ds3, p3, q3, rfl, rfl, rfl, h3, r3⟩ := trodAll_cons r2
  obtain ⟨rfl, rfl, rfl⟩ := trodAll_nil r3
  obtain rfl : args = #[v0, v1, v2, v3] := by cases args; simp_all
  obtain ⟨f, rfl, rfl, rfl, w0⟩ := open_int Try.underlying22 (hval 0 22 v0 rfl rfl) h0
  obtain ⟨r, rfl, rfl, rfl, w1⟩ := open_int Try.underlying22 (hval 1 22 v1 rfl rfl) h1
  obtain ⟨s, rfl, _, _⟩ := open_span (hval 2 24 v2 rfl rfl) h2
  obtain ⟨c, rfl, _, _⟩ := mopen_change (hval 3 26 v3 rfl rfl) h3
  have hf : 0 ≤ f ∧ f ≤ 65535 := by simpa [Lit.wf, IntKind.min, IntKind.max, IntKind.signed, IntKind.bits] using w0
  have hr : 0 ≤ r ∧ r ≤ 65535 := by simpa [Lit.wf, IntKind.min, IntKind.max, IntKind.signed, IntKind.bits] using w1
  exact marksLate_walk f r s c hf hr W

set_option maxRecDepth 100000 in
theorem marksLate_lifted (os : Os) (started : os.Started) (H : Type) (enc : TypeId × Value → H) :
    ReturnsInHanded {} Try.checked os 3 .any (Rows.marksLateSpec.pre6 enc Try.prog Try.f3 Rows.marksLateRow.domain false) (Rows.marksLateSpec.post enc Try.prog Try.f3 false true false false) := by
  refine returnsInHanded_of_change_sized (C := Try.checked) own started (by kernel_rfl) Try.func3
    (ChangeSpec.witness6 (enc := enc) (C := Try.checked) false ⟨#[], #[.int .u16 0, .int .u16 0, .agg #[.string ByteArray.empty, .string ByteArray.empty], .agg #[.int .i64 0, .string ByteArray.empty, .string ByteArray.empty]], []⟩ 8 (by kernel_rfl) (by kernel_rfl) (by kernel_rfl) (by kernel_rfl)) ?_
  intro W base args ds gs before hval hW _ hsz _
  have hW' := hW
  obtain ⟨p, q, hA0, hV, rfl, hfz, hnd⟩ := hW
  obtain ⟨rfl, rfl⟩ := trodVars_none hV
  have hA : DataW.TrodAll enc Try.prog W 0 (fun _ => true) true Try.f3.params.toList args.toList ds p := hA0
  refine (marksLate_contract H enc W base args ds p hval hA hsz).mono fun e W' ⟨he, hb⟩ => ?_
  subst he
  have hds : ds.length = 4 := by
    rw [Try.params3] at hA
    obtain ⟨v0, vs0, d0, ds0, p0, q0, _, rfl, rfl, _, r0⟩ := trodAll_cons hA
    obtain ⟨v1, vs1, d1, ds1, p1, q1, _, rfl, rfl, _, r1⟩ := trodAll_cons r0
    obtain ⟨v2, vs2, d2, ds2, p2, q2, _, rfl, rfl, _, r2⟩ := trodAll_cons r1
    obtain ⟨v3, vs3, d3, ds3, p3, q3, _, rfl, rfl, _, r3⟩ := trodAll_cons r2
    obtain ⟨_, rfl, rfl⟩ := trodAll_nil r3
    rfl
  have hsh : ∃ d0 d1 d2 d3 : DataW H, ds = [d0, d1, d2, d3] := by
    match ds, hds with
    | [d0, d1, d2, d3], _ => exact ⟨d0, d1, d2, d3, rfl⟩
  obtain ⟨d0, d1, d2, d3, rfl⟩ := hsh
  exact ⟨_, rfl, post_law (s := Rows.marksLateSpec) laidOut (by kernel_rfl) Try.underlying4 rfl (by kernel_rfl) hW' rfl rfl rfl hb⟩
theorem marksLate_over : Rows.marksLateRow.holds Try.pinned (OpenSpec.ofChange Rows.marksLateSpec) :=
  OpenClaim.holds_of_wide 3 Try.f3 rfl rfl rfl rfl rfl rfl rfl ⟨rfl, rfl, rfl, rfl, rfl⟩ rfl rfl rfl rfl rfl (by kernel_rfl) Try.func3 (by kernel_rfl)
    (of_decide_eq_true (by kernel_rfl)) (by unfold Func.isWrapper; first | (rw [if_pos (by decide +kernel)]; kernel_rfl) | (rw [if_neg (by decide +kernel)]; exact ⟨rfl, rfl⟩))
    (fun os started H enc _ => marksLate_lifted os started H enc)
/-- The statement. -/
theorem marksLate_holds : Rows.MarksLateSaid := marksLate_over
end Go.Proofs.Ytidlkomgondkiaa
