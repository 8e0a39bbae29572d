/-
  ChangeTwice: for any pairs and changes, of bulk at most 1048576, what changes do they do once, and done to nothing they leave what they put at last; it writes nothing that was there.
  Conditions: none but the row's own.
-/
import Derived.Test.YtblljpdlmllceaaKLeastSum
namespace Go.Proofs.Ytblljpdlmllceaa
open Go.ChangeShapes Go.WideShapes Go.ChangeAt Go.RowKit
set_option linter.unusedVariables false
set_option linter.unusedSimpArgs false
theorem least_at {R : List Spn} {M : List Pr} {i : Nat} {x : Chg} (h : (leastC R M)[i]? = some x) : (i < R.length → ¬ x.1 = 1) ∧ (R.length ≤ i → x.1 = 1 ∧ M[i - R.length]? = some (x.2.1, x.2.2)) := by
  unfold leastC at h
  constructor
  · intro hi
    rw [List.getElem?_append_left (by simpa using hi), List.getElem?_map] at h
    obtain ⟨g, _, rfl⟩ := Option.map_eq_some_iff.1 h
    exact goneC_kind g
  · intro hi
    rw [List.getElem?_append_right (by simpa using hi), List.getElem?_map, List.length_map] at h
    obtain ⟨g, hg, rfl⟩ := Option.map_eq_some_iff.1 h
    exact ⟨rfl, hg⟩
set_option maxRecDepth 100000 in
set_option maxHeartbeats 4000000 in
theorem changeTwice_walk (A Aa : Option Addr) (n c p ca : Nat) (L : List Pr) (C0 : List Chg) (w : World) (hr : Rd w 2 A n (prow L)) (hl : L.length = n) (hA : A = none → n = 0) (hra : Rd w 3 Aa p (crow C0)) (hla : C0.length = p) (hAa : Aa = none → p = 0) (hpc : p ≤ ca) (hn : n + p ≤ 1048576) :
    Calls Try.prog 11 #[.slice A n c, .slice Aa p ca] w fun e w' => e = .returned (.bool true) ∧ Below w.heap.size w w' := by
  have HR := hide_ hr; have HL := hide_ hl; have HA := hide_ hA
  have hn2 : (n : Int) ≤ 1048576 := by omega
  have hcut : ∀ m, m ≤ 60 → m ≤ p → ∃ M, Hid (CutAt Aa m M w) ∧ m ≤ 60 := fun m hm hmn => ⟨C0.take m, hide_ ⟨(rd_take3 hra hla hmn).1, (rd_take3 hra hla hmn).2, fun h => by have := hAa h; omega⟩, hm⟩
  by_cases h60 : p ≤ 60
  case' pos =>
    obtain ⟨C, HC, hm60⟩ := hcut p h60 (Nat.le_refl _)
    have q1 : ¬ (60 : Int) < (p : Int) := by omega
    have hls := hide_ (fun (w1 : World) (hb : Later w w1) => least_sum (c := ca) (HC.out.1.below hb) HC.out.2.1 (by omega))
    have hap := hide_ (fun (w1 : World) (hb : Later w w1) => apply_sum (c := c) (c' := ca) (HR.out.below hb) HL.out HA.out (HC.out.1.below hb) HC.out.2.1 (by omega))
    have hpp : p * p + p ≤ 3660 := by have := Nat.mul_le_mul hm60 hm60; omega
  case' neg =>
    obtain ⟨C, HC, hm60⟩ := hcut 60 (Nat.le_refl _) (by omega)
    have q1 : (60 : Int) < (p : Int) := by omega
    have q2 : (60 : Int) ≤ (ca : Int) := by omega
    have q3 : 60 ≤ ca := by omega
    obtain ⟨b, o, rfl, _⟩ := hra.2 (by rw [hra.1]; omega)
    have hls := hide_ (fun (w1 : World) (hb : Later w w1) => least_sum (c := ca) (HC.out.1.below hb) HC.out.2.1 (by omega))
    have hap := hide_ (fun (w1 : World) (hb : Later w w1) => apply_sum (c := c) (c' := ca) (HR.out.below hb) HL.out HA.out (HC.out.1.below hb) HC.out.2.1 (by omega))
  all_goals
    clear hcut hr hl hA hra hla hAa h60
    go_enter Try.func11, Try.ntmps11
    go_wp2_with fail
    refine (hap.out w (Later.refl _)).mono ?_; rintro e w1 ⟨⟨A1, c1, m1, M1, e1, rfl, hm1, hmn1, hA1, hcap1, hr1, hi1, hap1, hx1, hz1⟩, hb1⟩
    have HM1 := hide_ hm1; have HI1 := hide_ hi1; have HAP1 := hide_ hap1; have HR1 := hide_ hr1
    have HB1 := hide_ hb1
    have hap2 := hide_ (apply_sum (c := c1) (c' := ca) hr1 hm1 hA1 (HC.out.1.below hb1) HC.out.2.1 (by omega))
    clear hm1 hA1 hcap1 hr1 hi1 hap1 hx1 hz1 hb1
    go_wp2_with fail
    refine hap2.out.mono ?_; rintro e w2 ⟨⟨A2, c2, m2, M2, e2, rfl, hm2, hmn2, hA2, hcap2, hr2, hi2, hap2', hx2, hz2⟩, hb2⟩
    have HM2 := hide_ hm2; have HI2 := hide_ hi2; have HAP2 := hide_ hap2'; have HR2 := hide_ hr2
    have HB2 := hide_ (Later.trans HB1.out hb2)
    have HR12 := hide_ (HR1.out.below hb2)
    have hap3 := hide_ (apply_sum (A := none) (n := 0) (c := 0) (c' := ca) (L := []) (Rd.nil w2 2 none) rfl (fun _ => rfl) (HC.out.1.below HB2.out) HC.out.2.1 (by omega))
    clear hm2 hA2 hcap2 hr2 hi2 hap2' hx2 hz2 hb2 hap2 HR1
    go_wp2_with fail
    refine hap3.out.mono ?_; rintro e w3 ⟨⟨A3, c3, m3, M3, e3, rfl, hm3, hmn3, hA3, hcap3, hr3, hi3, hap3', hx3, hz3⟩, hb3⟩
    have HM3 := hide_ hm3; have HI3 := hide_ hi3; have HAP3 := hide_ hap3'; have HR3 := hide_ hr3
    have HB3 := hide_ (Later.trans HB2.out hb3)
    have HR13 := hide_ (HR12.out.below hb3)
    have HR23 := hide_ (HR2.out.below hb3)
    clear hm3 hA3 hcap3 hr3 hi3 hap3' hx3 hz3 hb3 hap3 HR12 HR2
    go_wp2_with fail
    refine (hls.out w3 HB3.out).mono ?_; rintro e w4 ⟨⟨A4, D, d, c4, e4, rfl, hd, hdp, hr4, hi4, hx4, hf4⟩, hb4⟩
    have hd36 : d ≤ 3660 := by omega
    have HD := hide_ hd; have HI4 := hide_ hi4; have HF4 := hide_ hf4; have HR4 := hide_ hr4
    have HB4 := hide_ (Later.trans HB3.out hb4)
    have HR14 := hide_ (HR13.out.below hb4)
    have HR24 := hide_ (HR23.out.below hb4)
    have HR34 := hide_ (HR3.out.below hb4)
    clear hd hdp hr4 hi4 hx4 hf4 hb4 HR13 HR23 HR3
    go_wp2_with fail
    refine (awake_yes w4).mono ?_; rintro e w5 ⟨rfl, hb5⟩
    have HB5 := hide_ (Later.trans HB4.out hb5)
    have HR15 := hide_ (HR14.out.below hb5)
    have HR25 := hide_ (HR24.out.below hb5)
    have HR35 := hide_ (HR34.out.below hb5)
    have HR45 := hide_ (HR4.out.below hb5)
    clear hb5 HR14 HR24 HR34 HR4
    by_cases h1 : e1 = 0
    · have hc1 := HI1.out.1 h1
      obtain rfl : e3 = 0 := HI3.out.2 ⟨hc1.1, ⟨List.Pairwise.nil, fun p hp => by cases hp⟩⟩
      obtain rfl : e4 = 0 := HI4.out.2 hc1.1
      obtain rfl : e2 = 0 := HI2.out.2 ⟨hc1.1, snd_app hc1.2 hc1.1 (HAP1.out h1)⟩
      obtain ⟨R, M, hcan, hk, hM, rfl⟩ := HF4.out rfl
      obtain rfl : M = M3 := app_fun hM (HAP3.out rfl)
      have hMM := app_twice hc1.2.1 (HAP1.out h1) (HAP2.out rfl) hM
      subst hMM
      obtain rfl : m2 = m1 := by rw [← HM2.out, HM1.out]
      subst h1
      obtain ⟨r, hrr⟩ : ∃ r, R.length = r := ⟨_, rfl⟩
      have hdr : d = r + m3 := by rw [← HD.out, leastC, List.length_append, List.length_map, List.length_map, hrr, HM3.out]
      have HRR := hide_ hrr
      have HDR := hide_ hdr
      have hd2 : (d : Int) ≤ 3660 := by omega
      have hm3d : m3 ≤ d := by omega
      have hm3i : (m3 : Int) ≤ 3660 := by omega
      have hrd : r ≤ d := by omega
      clear hdr hc1 hcan hk hM hrr
      go_wp2_with fail
      go_loopw [13, 14] (fun s13 s14 wr => ∃ (i u : Nat), i ≤ d ∧ s14 = .int .i64 i ∧ s13 = .int .i64 u ∧ u = i - r ∧ Hid (Later w5 wr)) (fun _ i _ => d - (intOf i).toNat)
      case atStart => exact ⟨0, 0, Nat.zero_le _, rfl, rfl, by omega, Later.refl _⟩
      case round =>
        obtain ⟨i, u, hi, rfl, rfl, hu, HB⟩ := hrel
        by_cases hlt : i < d
        · have i1 : (i : Int) < (d : Int) := by omega
          have i2 : (0 : Int) ≤ (i : Int) := by omega
          have i3 : (i : Int) ≤ 3660 := by omega
          obtain ⟨x, hx⟩ : ∃ x, (leastC R M)[i]? = some x := ⟨_, List.getElem?_eq_getElem (by rw [HD.out]; exact hlt)⟩
          obtain ⟨lb, lo, rfl, l0, l1, l2⟩ := (HR45.out.below HB.out).chg hx
          have hat := least_at hx
          rw [HRR.out] at hat
          obtain ⟨kd, kx, vx⟩ := x
          simp only at l0 l1 l2 hat
          by_cases hir : i < r
          · have hk1 : ¬ kd = 1 := hat.1 hir
            have hk1' : ¬ (1 : Int) = kd := fun h => hk1 h.symm
            have hk1b : (kd == 1) = false := beq_eq_false_iff_ne.2 hk1
            have hk1c : (kd != 1) = true := by simp [bne, hk1b]
            obtain rfl : u = 0 := by omega
            have HIU := hide_ (show 0 = i + 1 - r by omega)
            clear hx hat hk1 l1 l2 hu
            go_wp2_with fail
            go_roundw
            case rel => exact ⟨i + 1, 0, by omega, by go_num, rfl, HIU.out, HB⟩
            case measure => simp [intOf]; omega
          · obtain ⟨rfl, hm⟩ := hat.2 (by omega)
            rw [← hu] at hm
            have hum : u < m3 := by have := HDR.out; omega
            obtain ⟨nb, no, rfl, n0, n1⟩ := (HR35.out.below HB.out).pair hm
            have hiu : i + 1 - r = u + 1 := by omega
            have HIU := hide_ hiu
            have u1 : (u : Int) < (m3 : Int) := by omega
            have u2 : (0 : Int) ≤ (u : Int) := by omega
            have u3 : (u : Int) ≤ 3660 := by omega
            have u4 : ¬ (m3 : Int) ≤ (u : Int) := by omega
            have u5 : decide (m3 ≤ u) = false := by simp; omega
            have l1' := later_drew_cell l1
            have l2' := later_drew_cell l2
            have n0' := later_drew_cell n0
            have n1' := later_drew_cell n1
            have e1 := fun W => neq_pair (kx, vx) (kx, vx) W
            simp only [decide_true, Bool.not_true] at e1
            have e2 := guard_pair
            clear hx hat hm hu hiu
            go_wp2_with fail
            refine wp_region_k (by kernel_rfl) ?_
            refine wpAnyK_take 0 (v := ?_) rfl (by kernel_rfl) (by kernel_rfl) (by kernel_rfl) (fun _ _ _ h => h) (by rfl) (by intro W hSw; go_simp; with_reducible rfl) ?_; try simp only [Act.put, List.setIfInBounds_toArray, List.set_cons_zero, List.set_cons_succ]
            refine wpAnyK_take 1 (v := ?_) rfl (by kernel_rfl) (by kernel_rfl) (by kernel_rfl) (fun _ _ _ h => h) (by rfl) (by intro W hSw; go_simp; with_reducible rfl) ?_; try simp only [Act.put, List.setIfInBounds_toArray, List.set_cons_zero, List.set_cons_succ]
            refine wpAnyK_take 2 (v := ?_) rfl (by kernel_rfl) (by kernel_rfl) (by kernel_rfl) (fun _ _ _ h => h) (by rfl) (by intro W hSw; go_simp; with_reducible rfl) ?_; try simp only [Act.put, List.setIfInBounds_toArray, List.set_cons_zero, List.set_cons_succ]
            refine wpAnyK_take 3 (v := ?_) rfl (by kernel_rfl) (by kernel_rfl) (by kernel_rfl) (fun _ _ _ h => h) (by rfl) (by intro W hSw; go_simp; with_reducible rfl) ?_; try simp only [Act.put, List.setIfInBounds_toArray, List.set_cons_zero, List.set_cons_succ]
            refine wpAnyK_take 4 (v := ?_) rfl (by kernel_rfl) (by kernel_rfl) (by kernel_rfl) (fun _ _ _ h => h) (by rfl) (by intro W hSw; go_simp; with_reducible rfl) ?_; try simp only [Act.put, List.setIfInBounds_toArray, List.set_cons_zero, List.set_cons_succ]
            refine wpAnyK_take 5 (v := ?_) rfl (by kernel_rfl) (by kernel_rfl) (by kernel_rfl) (fun _ _ _ h => h) (by rfl) (by intro W hSw; go_simp; with_reducible rfl) ?_; try simp only [Act.put, List.setIfInBounds_toArray, List.set_cons_zero, List.set_cons_succ]
            refine wpAnyK_take 6 (v := ?_) rfl (by kernel_rfl) (by kernel_rfl) (by kernel_rfl) (fun _ _ _ h => h) (by rfl) (by intro W hSw; go_simp; with_reducible rfl) ?_; try simp only [Act.put, List.setIfInBounds_toArray, List.set_cons_zero, List.set_cons_succ]
            refine wpAnyK_take 7 (v := ?_) rfl (by kernel_rfl) (by kernel_rfl) (by kernel_rfl) (fun _ _ _ h => h) (by rfl) (by intro W hSw; go_simp; with_reducible rfl) ?_; try simp only [Act.put, List.setIfInBounds_toArray, List.set_cons_zero, List.set_cons_succ]
            refine wpAnyK_take 8 (v := ?_) rfl (by kernel_rfl) (by kernel_rfl) (by kernel_rfl) (fun _ _ _ h => h) (by rfl) (by intro W hSw; go_simp; with_reducible rfl) ?_; try simp only [Act.put, List.setIfInBounds_toArray, List.set_cons_zero, List.set_cons_succ]
            refine wpAnyK_take 9 (v := ?_) rfl (by kernel_rfl) (by kernel_rfl) (by kernel_rfl) (fun _ _ _ h => h) (by rfl) (by intro W hSw; go_simp; with_reducible rfl) ?_; try simp only [Act.put, List.setIfInBounds_toArray, List.set_cons_zero, List.set_cons_succ]
            refine wpAnyK_take 10 (v := ?_) rfl (by kernel_rfl) (by kernel_rfl) (by kernel_rfl) (fun _ _ _ h => h) (by rfl) (by intro W hSw; go_simp; with_reducible rfl) ?_; try simp only [Act.put, List.setIfInBounds_toArray, List.set_cons_zero, List.set_cons_succ]
            refine wpAnyK_take 11 (v := ?_) rfl (by kernel_rfl) (by kernel_rfl) (by kernel_rfl) (fun _ _ _ h => h) (by rfl) (by intro W hSw; go_simp; with_reducible rfl) ?_; try simp only [Act.put, List.setIfInBounds_toArray, List.set_cons_zero, List.set_cons_succ]
            refine wpAnyK_take 12 (v := ?_) rfl (by kernel_rfl) (by kernel_rfl) (by kernel_rfl) (fun _ _ _ h => h) (by rfl) (by intro W hSw; go_simp; with_reducible rfl) ?_; try simp only [Act.put, List.setIfInBounds_toArray, List.set_cons_zero, List.set_cons_succ]
            refine wpAnyK_take 13 (v := ?_) rfl (by kernel_rfl) (by kernel_rfl) (by kernel_rfl) (fun _ _ _ h => h) (by rfl) (by intro W hSw; go_simp; with_reducible rfl) ?_; try simp only [Act.put, List.setIfInBounds_toArray, List.set_cons_zero, List.set_cons_succ]
            refine wpAnyK_take 14 (v := ?_) rfl (by kernel_rfl) (by kernel_rfl) (by kernel_rfl) (fun _ _ _ h => h) (by rfl) (by intro W hSw; go_simp; with_reducible rfl) ?_; try simp only [Act.put, List.setIfInBounds_toArray, List.set_cons_zero, List.set_cons_succ]
            refine wpAnyK_take 15 (v := ?_) rfl (by kernel_rfl) (by kernel_rfl) (by kernel_rfl) (fun _ _ _ h => h) (by rfl) (by intro W hSw; go_simp; with_reducible rfl) ?_; try simp only [Act.put, List.setIfInBounds_toArray, List.set_cons_zero, List.set_cons_succ]
            refine wpAnyK_take 16 (v := ?_) rfl (by kernel_rfl) (by kernel_rfl) (by kernel_rfl) (fun _ _ _ h => h) (by rfl) (by intro W hSw; go_simp; with_reducible rfl) ?_; try simp only [Act.put, List.setIfInBounds_toArray, List.set_cons_zero, List.set_cons_succ]
            refine wpAnyK_take 17 (v := ?_) rfl (by kernel_rfl) (by kernel_rfl) (by kernel_rfl) (fun _ _ _ h => h) (by rfl) (by intro W hSw; go_simp; with_reducible rfl) ?_; try simp only [Act.put, List.setIfInBounds_toArray, List.set_cons_zero, List.set_cons_succ]
            refine wpAnyK_take 18 (v := ?_) rfl (by kernel_rfl) (by kernel_rfl) (by kernel_rfl) (fun _ _ _ h => h) (by rfl) (by intro W hSw; go_simp; with_reducible rfl) ?_; try simp only [Act.put, List.setIfInBounds_toArray, List.set_cons_zero, List.set_cons_succ]
            refine wpAnyK_take 19 (v := ?_) rfl (by kernel_rfl) (by kernel_rfl) (by kernel_rfl) (fun _ _ _ h => h) (by rfl) (by intro W hSw; go_simp; with_reducible rfl) ?_; try simp only [Act.put, List.setIfInBounds_toArray, List.set_cons_zero, List.set_cons_succ]
            refine wpAnyK_take 20 (v := ?_) rfl (by kernel_rfl) (by kernel_rfl) (by kernel_rfl) (fun _ _ _ h => h) (by rfl) (by intro W hSw; go_simp; with_reducible rfl) ?_; try simp only [Act.put, List.setIfInBounds_toArray, List.set_cons_zero, List.set_cons_succ]
            refine wpAnyK_take 21 (v := ?_) rfl (by kernel_rfl) (by kernel_rfl) (by kernel_rfl) (fun _ _ _ h => h) (by rfl) (by intro W hSw; go_simp; with_reducible rfl) ?_; try simp only [Act.put, List.setIfInBounds_toArray, List.set_cons_zero, List.set_cons_succ]
            refine wpAnyK_done (by kernel_rfl) ?_ _
            clear l1' l2' n0' n1' l0 l1 l2 n0 n1
            go_wp2_with fail
            go_roundw
            case rel => exact ⟨i + 1, u + 1, by omega, by go_num, by go_num, HIU.out.symm, hide_ HB.out.drew⟩
            case measure => simp [intOf]; omega
        · have i1 : ¬ (i : Int) < (d : Int) := by omega
          obtain rfl : i = d := by omega
          obtain rfl : u = m3 := by have := HDR.out; omega
          clear hu
          go_wp2_with fail
          refine (pairs_yes (c := c1) (c' := c2) (HR15.out.below HB.out) (HR25.out.below HB.out) HM1.out (by omega)).mono ?_; rintro e w6 ⟨rfl, hb6⟩
          have HB6 := hide_ (Later.trans HB5.out (Later.trans HB.out hb6))
          clear hb6
          go_wp2_with fail
          go_ret
          exact ⟨rfl, HB6.out⟩
    · have h1b : (e1 == 0) = false := beq_eq_false_iff_ne.2 h1
      go_wp2_with fail
      refine (awake_yes w5).mono ?_; rintro e w6 ⟨rfl, hb6⟩
      have HB6 := hide_ (Later.trans HB5.out hb6)
      clear hb6
      go_wp2_with fail
      go_ret
      exact ⟨rfl, HB6.out⟩
set_option maxRecDepth 20000 in
theorem changeTwice_contract (H : Type) (enc : TypeId × Value → H) (W : World) (base : Nat) (args : Array Value) (ds : List (DataW H)) (before : List MemPlace)
    (hval : ∀ (j : Nat) t v, Try.f11.params[j]? = some t → args[j]? = some v → Value.okWide Try.prog W .any base t v)
    (hA : DataW.TrodAll enc Try.prog W 0 (fun _ => true) true Try.f11.params.toList args.toList ds before)
    (_hsz : (DataW.weightsEach Try.prog (Try.f11.params.toList ++ Rows.changeTwiceSpec.plain.varTypes Try.prog) (ds ++ [])).all (· ≤ reachBytes) = true)
    (hk : Rows.uptoSmall H (ds ++ []) = true) :
    Calls Try.prog 11 args W fun e W' => e = .returned (.bool true) ∧ Below W.heap.size W W' := by
  rw [Try.params11] at hA hval
  obtain ⟨v0, vs0, d0, ds0, p0, q0, hargs, rfl, rfl, h0, r0⟩ := trodAll_cons hA
  obtain ⟨v1, vs1, d1, ds1, p1, q1, rfl, rfl, rfl, h1, r1⟩ := trodAll_cons r0
  obtain ⟨rfl, rfl, rfl⟩ := trodAll_nil r1
  obtain rfl : args = #[v0, v1] := by cases args; simp_all
  obtain ⟨A, c, L, rfl, _, _, hA1, hR, hb0⟩ := open_pairs (hval 0 22 v0 rfl rfl) h0
  obtain ⟨Aa, ca, C, rfl, hpc, _, hA2, hR2, hb1, _⟩ := open_changes (hval 1 23 v1 rfl rfl) h1
  have hb := bulk_bound hk
  have hs := sumM_length (fun a : Int × ByteArray × ByteArray => 0 + a.2.1.size + a.2.2.size + 3) C
  simp only [Rows.uptoBulkAll] at hb
  exact changeTwice_walk A Aa L.length c C.length ca L C W hR rfl hA1 hR2 rfl hA2 hpc (by omega)

set_option maxRecDepth 100000 in
theorem changeTwice_lifted (os : Os) (started : os.Started) (H : Type) (enc : TypeId × Value → H) (F : Stop.Interp) :
    ReturnsInHanded {} Try.checked os 11 .any ((Rows.OpenSpec.upto Rows.changeTwiceSpec).pre6 enc Try.prog Try.f11 Rows.changeTwiceUptoRow.domain false) (((Rows.OpenSpec.upto Rows.changeTwiceSpec).at F).post enc Try.prog Try.f11 false true false false) := by
  refine returnsInHanded_of_cond_sized (C := Try.checked) (s := Rows.OpenSpec.upto Rows.changeTwiceSpec) (k := Rows.uptoSmall) rfl own started (by kernel_rfl) Try.func11
    (OpenSpec.witness (enc := enc) (C := Try.checked) (s := Rows.OpenSpec.upto Rows.changeTwiceSpec) (k := Rows.uptoSmall) rfl false ⟨#[], #[.slice none 0 0, .slice none 0 0], []⟩ 8 (by kernel_rfl) (by kernel_rfl) (by kernel_rfl)
      (x := ([.nil, .nil], [], [])) (by kernel_rfl) rfl (by kernel_rfl)) ?_
  intro W base args ds gs before hval hW _ hk hsz _
  have hW' := hW
  obtain ⟨p, q, hA0, hV, rfl, hfz, hnd⟩ := hW
  obtain ⟨rfl, rfl⟩ := trodVars_none hV
  have hA : DataW.TrodAll enc Try.prog W 0 (fun _ => true) true Try.f11.params.toList args.toList ds p := hA0
  refine (changeTwice_contract H enc W base args ds p hval hA hsz hk).mono fun e W' ⟨he, hb⟩ => ?_
  subst he
  have hds : ds.length = 2 := by
    rw [Try.params11] at hA
    obtain ⟨v0, vs0, d0, ds0, p0, q0, _, rfl, rfl, _, r0⟩ := trodAll_cons hA
    obtain ⟨v1, vs1, d1, ds1, p1, q1, _, rfl, rfl, _, r1⟩ := trodAll_cons r0
    obtain ⟨_, rfl, rfl⟩ := trodAll_nil r1
    rfl
  have hsh : ∃ d0 d1 : DataW H, ds = [d0, d1] := by
    match ds, hds with
    | [d0, d1], _ => exact ⟨d0, d1, rfl⟩
  obtain ⟨d0, d1, rfl⟩ := hsh
  exact ⟨_, rfl, post_law (s := Rows.changeTwiceSpec) laidOut (by kernel_rfl) Try.underlying4 rfl (by kernel_rfl) hW' rfl rfl rfl hb⟩
theorem changeTwice_over : Rows.changeTwiceUptoRow.holds Try.pinned (Rows.OpenSpec.upto Rows.changeTwiceSpec) :=
  OpenClaim.holds_of_cond 11 Try.f11 rfl rfl rfl rfl rfl rfl rfl ⟨rfl, rfl, rfl, rfl, rfl⟩ rfl rfl rfl rfl rfl (by kernel_rfl) Try.func11 (by kernel_rfl)
    (of_decide_eq_true (by kernel_rfl)) (by unfold Func.isWrapper; first | (rw [if_pos (by decide +kernel)]; kernel_rfl) | (rw [if_neg (by decide +kernel)]; exact ⟨rfl, rfl⟩))
    (fun os started H enc _ F => changeTwice_lifted os started H enc F)
/-- The statement. -/
theorem changeTwice_holds : Rows.ChangeTwiceUptoSaid := changeTwice_over
end Go.Proofs.Ytblljpdlmllceaa
