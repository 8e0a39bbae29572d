/-
  ChangeSame: for any pairs and changes, of bulk at most 1048576, the fewest changes do the same to the pairs, and the fewest of these are these; it writes nothing that was there.
  Conditions: none but the row's own.
-/
import Derived.Test.YtblljpdlmllceaaKLeastSum
namespace Go.Proofs.Ytblljpdlmllceaa
open Go.ChangeShapes Go.WideShapes Go.ChangeAt Go.RowKit
set_option linter.unusedVariables false
set_option linter.unusedSimpArgs false
set_option maxRecDepth 100000 in
set_option maxHeartbeats 4000000 in
theorem changeSame_walk (A Aa : Option Addr) (n c p ca : Nat) (L : List Pr) (C0 : List Chg) (w : World) (hr : Rd w 2 A n (prow L)) (hl : L.length = n) (hA : A = none → n = 0) (hra : Rd w 3 Aa p (crow C0)) (hla : C0.length = p) (hAa : Aa = none → p = 0) (hpc : p ≤ ca) (hn : n + p ≤ 1048576) :
    Calls Try.prog 10 #[.slice A n c, .slice Aa p ca] w fun e w' => e = .returned (.bool true) ∧ Below w.heap.size w w' := by
  have HR := hide_ hr; have HL := hide_ hl; have HA := hide_ hA
  have hn2 : (n : Int) ≤ 1048576 := by omega
  have hcut : ∀ m, m ≤ 60 → m ≤ p → ∃ M, Hid (CutAt Aa m M w) ∧ m ≤ 60 := fun m hm hmn => ⟨C0.take m, hide_ ⟨(rd_take3 hra hla hmn).1, (rd_take3 hra hla hmn).2, fun h => by have := hAa h; omega⟩, hm⟩
  by_cases h60 : p ≤ 60
  case' pos =>
    obtain ⟨C, HC, hm60⟩ := hcut p h60 (Nat.le_refl _)
    have q1 : ¬ (60 : Int) < (p : Int) := by omega
    have hls := hide_ (fun (w1 : World) (hb : Later w w1) => least_sum (c := ca) (HC.out.1.below hb) HC.out.2.1 (by omega))
    have hap := hide_ (fun (w1 : World) (hb : Later w w1) => apply_sum (c := c) (c' := ca) (HR.out.below hb) HL.out HA.out (HC.out.1.below hb) HC.out.2.1 (by omega))
    have hpp : p * p + p ≤ 3660 := by have := Nat.mul_le_mul hm60 hm60; omega
  case' neg =>
    obtain ⟨C, HC, hm60⟩ := hcut 60 (Nat.le_refl _) (by omega)
    have q1 : (60 : Int) < (p : Int) := by omega
    have q2 : (60 : Int) ≤ (ca : Int) := by omega
    have q3 : 60 ≤ ca := by omega
    obtain ⟨b, o, rfl, _⟩ := hra.2 (by rw [hra.1]; omega)
    have hls := hide_ (fun (w1 : World) (hb : Later w w1) => least_sum (c := ca) (HC.out.1.below hb) HC.out.2.1 (by omega))
    have hap := hide_ (fun (w1 : World) (hb : Later w w1) => apply_sum (c := c) (c' := ca) (HR.out.below hb) HL.out HA.out (HC.out.1.below hb) HC.out.2.1 (by omega))
  all_goals
    clear hcut hr hl hA hra hla hAa h60
    go_enter Try.func10, Try.ntmps10
    go_wp2_with fail
    refine (hls.out w (Later.refl _)).mono ?_; rintro e w1 ⟨⟨A1, D, d, c1, e1, rfl, hd, hdp, hr1, hi1, hx1, hf1⟩, hb1⟩
    have hd36 : d ≤ 3660 := by omega
    have HD := hide_ hd; have HI1 := hide_ hi1; have HX1 := hide_ hx1; have HF1 := hide_ hf1; have HR1 := hide_ hr1
    have HB1 := hide_ hb1
    clear hd hdp hr1 hi1 hx1 hf1 hb1
    go_wp2_with fail
    refine (hap.out w1 HB1.out).mono ?_; rintro e w2 ⟨⟨A2, c2, m2, M2, e2, rfl, hm2, hmn2, hA2, hcap2, hr2, hi2, hap2, hx2, hz2⟩, hb2⟩
    have HM2 := hide_ hm2; have HI2 := hide_ hi2; have HAP2 := hide_ hap2; have HX2 := hide_ hx2; have HR2 := hide_ hr2
    have HB2 := hide_ (Later.trans HB1.out hb2)
    have HR12 := hide_ (HR1.out.below hb2)
    clear hm2 hA2 hcap2 hr2 hi2 hap2 hx2 hz2 hb2 HR1
    go_wp2_with fail
    refine (awake_yes w2).mono ?_; rintro e w3 ⟨rfl, hb3⟩
    have HB3 := hide_ (Later.trans HB2.out hb3)
    have HR13 := hide_ (HR12.out.below hb3)
    have HR23 := hide_ (HR2.out.below hb3)
    clear hb3 HR12 HR2
    by_cases h1 : e1 = 0
    · subst h1
      by_cases h2 : e2 = 0
      · subst h2
        have hc2 := HI2.out.1 rfl
        obtain ⟨R, M, hcan, hk, hM, rfl⟩ := HF1.out rfl
        have hDs := least_sound hc2.1 hcan hk hM
        have hap4 := hide_ (apply_sum (c := c) (c' := c1) (HR.out.below HB3.out) HL.out HA.out HR13.out HD.out (by omega))
        have HDS := hide_ hDs; have HCAN := hide_ hcan; have HK := hide_ hk; have HMM := hide_ hM; have HC2 := hide_ hc2
        clear hc2 hcan hk hM hDs
        go_wp2_with fail
        refine hap4.out.mono ?_; rintro e w4 ⟨⟨A4, c4, m4, M4, e4, rfl, hm4, hmn4, hA4, hcap4, hr4, hi4, hap4', _, hz4⟩, hb4⟩
        obtain rfl : e4 = 0 := hi4.2 ⟨HDS.out, HC2.out.2⟩
        have HB4 := hide_ (Later.trans HB3.out hb4)
        have HR14 := hide_ (HR13.out.below hb4)
        have HR24 := hide_ (HR23.out.below hb4)
        have HR4 := hide_ hr4; have HM4 := hide_ hm4; have HAP4 := hide_ (hap4' rfl)
        have hls5 := hide_ (least_sum (c := c1) HR14.out HD.out (by omega))
        clear hm4 hA4 hcap4 hr4 hi4 hap4' hz4 hb4 hap4 HR13 HR23
        go_wp2_with fail
        refine hls5.out.mono ?_; rintro e w5 ⟨⟨A5, D5, d5, c5, e5, rfl, hd5, hdp5, hr5, hi5, hx5, hf5⟩, hb5⟩
        obtain rfl : e5 = 0 := hi5.2 HDS.out
        obtain ⟨R5, M5, hcan5, hk5, hM5, rfl⟩ := hf5 rfl
        have hee := least_least HCAN.out hcan5 HK.out HMM.out hk5 hM5
        have hMM := least_same HC2.out.2.1 HK.out HMM.out (HAP2.out (by trivial)) HAP4.out ⟨_, hM5⟩
        rw [hee] at hd5 hr5
        obtain rfl : d5 = d := by rw [← hd5, HD.out]
        subst hMM
        obtain rfl : m4 = m2 := by rw [← HM4.out, HM2.out]
        have HB5 := hide_ (Later.trans HB4.out hb5)
        have HR15 := hide_ (HR14.out.below hb5)
        have HR25 := hide_ (HR24.out.below hb5)
        have HR45 := hide_ (HR4.out.below hb5)
        have HR5 := hide_ hr5
        have hm22 : m4 ≤ 4194304 := by omega
        clear hd5 hdp5 hr5 hi5 hx5 hf5 hb5 hcan5 hk5 hM5 hee hls5 HR14 HR24 HR4
        go_wp2_with fail
        refine (pairs_yes (c := c2) (c' := c4) HR25.out HR45.out HM2.out (by omega)).mono ?_; rintro e w6 ⟨rfl, hb6⟩
        have HB6 := hide_ (Later.trans HB5.out hb6)
        have HR16 := hide_ (HR15.out.below hb6)
        have HR56 := hide_ (HR5.out.below hb6)
        clear hb6
        go_wp2_with fail
        refine (csame_yes HR56.out HR16.out HD.out (by omega)).mono ?_; rintro e w7 ⟨rfl, hb7⟩
        have HB7 := hide_ (Later.trans HB6.out hb7)
        clear hb7
        go_wp2_with fail
        go_ret
        exact ⟨rfl, HB7.out⟩
      · have h2b : (e2 == 0) = false := beq_eq_false_iff_ne.2 h2
        go_wp2_with fail
        refine (awake_yes w3).mono ?_; rintro e w4 ⟨rfl, hb4⟩
        have HB4 := hide_ (Later.trans HB3.out hb4)
        clear hb4
        go_wp2_with fail
        go_ret
        exact ⟨rfl, HB4.out⟩
    · have h1b : (e1 == 0) = false := beq_eq_false_iff_ne.2 h1
      have hcn : chkAll C ≠ 0 := fun h => h1 (HI1.out.2 h)
      have h12 : e1 = e2 := by rw [HX1.out hcn, HX2.out hcn]
      subst h12
      clear hcn
      go_wp2_with fail
      refine (awake_yes w3).mono ?_; rintro e w4 ⟨rfl, hb4⟩
      have HB4 := hide_ (Later.trans HB3.out hb4)
      clear hb4
      go_wp2_with fail
      go_ret
      exact ⟨rfl, HB4.out⟩
set_option maxRecDepth 20000 in
theorem changeSame_contract (H : Type) (enc : TypeId × Value → H) (W : World) (base : Nat) (args : Array Value) (ds : List (DataW H)) (before : List MemPlace)
    (hval : ∀ (j : Nat) t v, Try.f10.params[j]? = some t → args[j]? = some v → Value.okWide Try.prog W .any base t v)
    (hA : DataW.TrodAll enc Try.prog W 0 (fun _ => true) true Try.f10.params.toList args.toList ds before)
    (_hsz : (DataW.weightsEach Try.prog (Try.f10.params.toList ++ Rows.changeSameSpec.plain.varTypes Try.prog) (ds ++ [])).all (· ≤ reachBytes) = true)
    (hk : Rows.uptoSmall H (ds ++ []) = true) :
    Calls Try.prog 10 args W fun e W' => e = .returned (.bool true) ∧ Below W.heap.size W W' := by
  rw [Try.params10] at hA hval
  obtain ⟨v0, vs0, d0, ds0, p0, q0, hargs, rfl, rfl, h0, r0⟩ := trodAll_cons hA
  obtain ⟨v1, vs1, d1, ds1, p1, q1, rfl, rfl, rfl, h1, r1⟩ := trodAll_cons r0
  obtain ⟨rfl, rfl, rfl⟩ := trodAll_nil r1
  obtain rfl : args = #[v0, v1] := by cases args; simp_all
  obtain ⟨A, c, L, rfl, _, _, hA1, hR, hb0⟩ := open_pairs (hval 0 22 v0 rfl rfl) h0
  obtain ⟨Aa, ca, C, rfl, hpc, _, hA2, hR2, hb1, _⟩ := open_changes (hval 1 23 v1 rfl rfl) h1
  have hb := bulk_bound hk
  have hs := sumM_length (fun a : Int × ByteArray × ByteArray => 0 + a.2.1.size + a.2.2.size + 3) C
  simp only [Rows.uptoBulkAll] at hb
  exact changeSame_walk A Aa L.length c C.length ca L C W hR rfl hA1 hR2 rfl hA2 hpc (by omega)

set_option maxRecDepth 100000 in
theorem changeSame_lifted (os : Os) (started : os.Started) (H : Type) (enc : TypeId × Value → H) (F : Stop.Interp) :
    ReturnsInHanded {} Try.checked os 10 .any ((Rows.OpenSpec.upto Rows.changeSameSpec).pre6 enc Try.prog Try.f10 Rows.changeSameUptoRow.domain false) (((Rows.OpenSpec.upto Rows.changeSameSpec).at F).post enc Try.prog Try.f10 false true false false) := by
  refine returnsInHanded_of_cond_sized (C := Try.checked) (s := Rows.OpenSpec.upto Rows.changeSameSpec) (k := Rows.uptoSmall) rfl own started (by kernel_rfl) Try.func10
    (OpenSpec.witness (enc := enc) (C := Try.checked) (s := Rows.OpenSpec.upto Rows.changeSameSpec) (k := Rows.uptoSmall) rfl false ⟨#[], #[.slice none 0 0, .slice none 0 0], []⟩ 8 (by kernel_rfl) (by kernel_rfl) (by kernel_rfl)
      (x := ([.nil, .nil], [], [])) (by kernel_rfl) rfl (by kernel_rfl)) ?_
  intro W base args ds gs before hval hW _ hk hsz _
  have hW' := hW
  obtain ⟨p, q, hA0, hV, rfl, hfz, hnd⟩ := hW
  obtain ⟨rfl, rfl⟩ := trodVars_none hV
  have hA : DataW.TrodAll enc Try.prog W 0 (fun _ => true) true Try.f10.params.toList args.toList ds p := hA0
  refine (changeSame_contract H enc W base args ds p hval hA hsz hk).mono fun e W' ⟨he, hb⟩ => ?_
  subst he
  have hds : ds.length = 2 := by
    rw [Try.params10] at hA
    obtain ⟨v0, vs0, d0, ds0, p0, q0, _, rfl, rfl, _, r0⟩ := trodAll_cons hA
    obtain ⟨v1, vs1, d1, ds1, p1, q1, _, rfl, rfl, _, r1⟩ := trodAll_cons r0
    obtain ⟨_, rfl, rfl⟩ := trodAll_nil r1
    rfl
  have hsh : ∃ d0 d1 : DataW H, ds = [d0, d1] := by
    match ds, hds with
    | [d0, d1], _ => exact ⟨d0, d1, rfl⟩
  obtain ⟨d0, d1, rfl⟩ := hsh
  exact ⟨_, rfl, post_law (s := Rows.changeSameSpec) laidOut (by kernel_rfl) Try.underlying4 rfl (by kernel_rfl) hW' rfl rfl rfl hb⟩
theorem changeSame_over : Rows.changeSameUptoRow.holds Try.pinned (Rows.OpenSpec.upto Rows.changeSameSpec) :=
  OpenClaim.holds_of_cond 10 Try.f10 rfl rfl rfl rfl rfl rfl rfl ⟨rfl, rfl, rfl, rfl, rfl⟩ rfl rfl rfl rfl rfl (by kernel_rfl) Try.func10 (by kernel_rfl)
    (of_decide_eq_true (by kernel_rfl)) (by unfold Func.isWrapper; first | (rw [if_pos (by decide +kernel)]; kernel_rfl) | (rw [if_neg (by decide +kernel)]; exact ⟨rfl, rfl⟩))
    (fun os started H enc _ F => changeSame_lifted os started H enc F)
/-- The statement. -/
theorem changeSame_holds : Rows.ChangeSameUptoSaid := changeSame_over
end Go.Proofs.Ytblljpdlmllceaa
