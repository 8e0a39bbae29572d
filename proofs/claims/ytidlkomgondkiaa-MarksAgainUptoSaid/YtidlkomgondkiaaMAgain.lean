/-
  MarksAgain: for any transactions who reads at the version of the last write, or behind it, is fine; it writes nothing that was there.
  Conditions: the arguments hold at most 1048576 values and letters (the second form).
-/
import Derived.Test.YtidlkomgondkiaaMOpen
namespace Go.Proofs.Ytidlkomgondkiaa
open Go.ChangeShapes Go.WideShapes Go.ChangeAt Go.RowKit
set_option linter.unusedVariables false
set_option linter.unusedSimpArgs false
theorem verL_le {L : List Mk} {n : Int} (h : ∀ k, k ∈ L → k.2 ≤ n) (h0 : 0 ≤ n) (x : ByteArray) : verL L x ≤ n := by
  induction L with
  | nil => exact h0
  | cons k L ih =>
    by_cases hx : InS k.1 x
    · rw [verL_yes hx]; exact h k (List.mem_cons_self ..)
    · rw [verL_no hx]; exact ih fun j hj => h j (List.mem_cons_of_mem _ hj)
theorem lastL_le {L : List Mk} {n : Int} (hm : Marked L) (h : ∀ k, k ∈ L → k.2 ≤ n) (h0 : 0 ≤ n) (s : Spn) : lastL L s ≤ n := by
  rcases (lastL_max hm.apart s).2.2 with h1 | ⟨x, _, h1⟩
  · omega
  · have := verL_le h h0 x; omega
/-- Who reads at the version of all marks, or behind it, is fine. -/
theorem fine_behind {L : List Mk} {l r n : Int} {R : List Spn} (hF : Fit L l) (hl : l ≤ n) (hn : 0 ≤ n) (hr : n ≤ r) : judgeV L 0 r R = 1 := by
  by_cases h : R = []
  · subst h; rfl
  · exact judgeV_fine h (by omega) fun s _ => by have := lastL_le hF.1 (fun k hk => Int.le_trans (hF.2.2 k hk) hl) hn s; omega
theorem txRow_take {w : World} {A : Option Addr} {n k : Nat} {T : List Tx} (h : TxRow w A n T) (hk : k ≤ n) : TxRow w A k (T.take k) :=
  ⟨by rw [List.length_take, h.1]; omega, fun i t hi => h.2 i t (by
    rw [List.getElem?_take] at hi
    split at hi
    · exact hi
    · cases hi)⟩
theorem soundT_read {t : Tx} {r : Int} : soundT (r, t.2) = (decide (0 ≤ r) && decide (t.2.1.length ≤ 24) && decide (t.2.2.length ≤ 24) && decide (chkAll t.2.2 = 0) && t.2.1.all soundS) := rfl
set_option maxRecDepth 100000 in
set_option maxHeartbeats 8000000 in
theorem marksAgain_walk {w : World} (A : Option Addr) (n c : Nat) (T : List Tx) (hT : TxRow w A n T) (hc : n ≤ c) (hcm : n ≤ 1048576) (t : Tx) (A1 A2 : Option Addr) (n1 c1 n2 c2 : Nat) (h1 : t.2.1.length = n1) (h2 : t.2.2.length = n2) (h3 : n1 ≤ 1048576) (h4 : n2 ≤ 1048576) (hR : Rd w 2 A1 n1 (srow t.2.1)) (hC : Rd w 3 A2 n2 (crow t.2.2)) (more : Int) (hmo : 0 ≤ more ∧ more ≤ 255) :
    Calls Try.prog 5 #[.slice A n c, .agg #[.int .i64 t.1, .slice A1 n1 c1, .slice A2 n2 c2], .int .u8 more] w fun e w' => e = .returned (.bool true) ∧ Below w.heap.size w w' := by
  have mo1 := hmo.1; have mo2 := hmo.2
  have HT := hide_ hT; have HR := hide_ hR; have HC := hide_ hC; have H1 := hide_ h1; have H2 := hide_ h2
  have hx := heap_alloc_new w (.cells #[.int .i64 t.1, .slice A1 n1 c1, .slice A2 n2 c2] 32)
  have hb0 := later_alloc w (.cells #[.int .i64 t.1, .slice A1 n1 c1, .slice A2 n2 c2] 32)
  obtain ⟨W0, hW0⟩ : ∃ W0, W0 = w.alloc (.cells #[.int .i64 t.1, .slice A1 n1 c1, .slice A2 n2 c2] 32) := ⟨_, rfl⟩
  have HW := hide_ hW0.symm
  rw [← hW0] at hx hb0
  have HX := hide_ hx; have HB0 := hide_ hb0
  clear hT hR hC h1 h2 hmo hx hb0 hW0
  by_cases e4 : n ≤ 4
  · have p4 : ¬ (4 : Int) < (n : Int) := by omega
    have HT4 := hide_ (show TxRow w A n T from HT.out)
    have hn4 : n ≤ 4 := by omega
    go_enter Try.func5, Try.ntmps5
    go_wp2_with (rw [HW.out])
    refine (new_any _ _).mono ?_; rintro e w1 ⟨rfl, hm, hb1⟩
    have hm : MarksAt w1 W0.heap.size (.slice none 0 0) 0 0 := hm
    have HMK := hide_ (mk_new hm)
    have HMA := hide_ hm
    have HB1 := hide_ hb1
    have hx1 := later_row hb1 HX.out
    have HX1 := hide_ hx1
    have x0 := cell_of_row _ _ 0 _ _ (0, 0) hx1
    have fz := fun k => frozen_of_row _ _ k _ _ hx1
    have hxw := heap_setCell_same w1 w.heap.size 0 _ _ (.int .i64 (7 + more)) hx1
    have hb2 : Later w (w1.setCell ⟨w.heap.size, 0, none⟩ (.int .i64 (7 + more))) := (HB0.out.trans hb1).setCell (Nat.le_refl _) _
    have hmw : MarksAt (w1.setCell ⟨w.heap.size, 0, none⟩ (.int .i64 (7 + more))) W0.heap.size (.slice none 0 0) 0 0 := (Below.heap_setCell _ _ _ _ (fun e => by have e : W0.heap.size = w.heap.size := e; have := heap_lt0 HX.out; omega)).trans hm
    clear hm hb1 hx1
    go_wp2_with fail
    obtain ⟨W2, hW2⟩ : ∃ W2, W2 = w1.setCell ⟨w.heap.size, 0, none⟩ (.int .i64 (7 + more)) := ⟨_, rfl⟩
    rw [← hW2] at hxw hb2 hmw ⊢
    have HXW := hide_ hxw; have HB2 := hide_ hb2; have HMW := hide_ hmw
    have HMK2 := hide_ (show MK W2 W0.heap.size [] 0 0 from ⟨none, 0, 0, hmw, World.ownsRow_nil _ _ _ _, rfl⟩)
    clear hxw hb2 hmw hW2 x0 fz
    refine (awake_yes _).mono ?_; rintro e w3 ⟨rfl, hb3⟩
    have hx3 := later_row hb3 HXW.out
    have x0 := cell_of_row _ _ 0 _ _ (0, 0) hx3
    have x1 := cell_of_row _ _ 1 _ _ (0, 0) hx3
    have x2 := cell_of_row _ _ 2 _ _ (0, 0) hx3
    have HB3 := hide_ (HB2.out.trans hb3)
    have HX3 := hide_ hx3
    have HMK3 := hide_ (HMK2.out.below hb3)
    have HM3 := hide_ (later_row hb3 HMW.out)
    have htx := hide_ (rtxn_any (c := c1) (c' := c2) (r := 7 + more) (HR.out.below HB3.out) H1.out (HC.out.below HB3.out) H2.out h3 h4)
    clear hb3 hx3
    go_wp2_with fail
    refine htx.out.mono ?_; rintro e w4 ⟨rfl, hb4⟩
    have HB4 := hide_ (HB3.out.trans hb4)
    have HX4 := hide_ (later_row hb4 HX3.out)
    have HMK4 := hide_ (HMK3.out.below hb4)
    clear htx hb4 x0 x1 x2
    by_cases hs : soundT (7 + more, t.2.1, t.2.2) = true
    · rw [hs]
      have HS := hide_ hs
      clear hs
      go_wp2_with fail
      have hst := HT4.out.stay HB4.out (B0 := W0.heap.size) HB0.out.size
      refine (judges_any 7 HMK4.out (by simp) ⟨trivial, by omega, fun k hk => (by cases hk)⟩ (by omega) hst (by omega)).mono ?_; rintro e w5 hj
      rcases hj with ⟨h, _⟩ | ⟨_, _, rfl, hb5⟩ | ⟨_, _, hso, Av, nv, cv, V, M, m, rfl, hJ, hV, hVo, hMK, hG⟩
      · exact absurd h (by omega)
      · have HB5 := hide_ (HB4.out.trans hb5)
        clear hb5 hst
        go_wp2_with fail
        go_ret
        exact ⟨rfl, HB5.out⟩
      · have hfa := fit_all hJ ⟨trivial, by omega, fun k hk => (by cases hk)⟩ (by omega) (fun t2 h2 => (soundT_iff.1 (List.all_eq_true.1 hso t2 h2)).2.2.1)
        have HFA := hide_ hfa
        have HB5 := hide_ (later_of_grown HB4.out hG HB0.out.size)
        have hx5 := (hG.block _ (heap_lt0 HX4.out) (fun e => by have := Option.some.inj e; have := heap_lt0 HX.out; omega)).trans HX4.out
        have x0 := cell_of_row _ _ 0 _ _ (0, 0) hx5
        have x1 := cell_of_row _ _ 1 _ _ (0, 0) hx5
        have x2 := cell_of_row _ _ 2 _ _ (0, 0) hx5
        have HMK5 := hide_ hMK
        clear hJ hV hVo hMK hG hst hfa hx5 hso
        go_wp2_with fail
        have hal := later_alloc w5 (.cells #[.int .i64 (7 + more), .slice A1 n1 c1, .slice A2 n2 c2] 32)
        have hl6 := HB5.out.trans hal
        have hrow := txRow_one (heap_alloc_new w5 (.cells #[.int .i64 (7 + more), .slice A1 n1 c1, .slice A2 n2 c2] 32)) H1.out H2.out h3 h4 (HR.out.below hl6) (HC.out.below hl6)
        have hmk6 := HMK5.out.below hal
        obtain ⟨Am, nm, cm, hma, hmo, hml⟩ := hmk6
        have hst := hrow.stayM hma
        refine (judges_any (ct := 1) (8 + more) (HMK5.out.below hal) (by have := HFA.out.2.2.2; have hl : (T).length ≤ 4 := (by rw [HT4.out.1]; exact hn4); simp at this; omega) HFA.out.1 (by omega) hst (by omega)).mono ?_; rintro e w7 hj
        rcases hj with ⟨h, _⟩ | ⟨_, h, _⟩ | ⟨_, _, _, Av2, nv2, cv2, V2, M2, m2, rfl, hJ2, hV2, hVo2, hMK2, hG2⟩
        · exact absurd h (by have := HFA.out.2.1; omega)
        · exact absurd ⟨by simp, by rw [List.all_cons, HS.out]; rfl⟩ h
        obtain ⟨j, rfl, hjo, -⟩ := judgeAll_one hJ2
        have hj1 : j = 1 := hjo.trans (fine_behind HFA.out.1 HFA.out.2.1 (by omega) (by omega))
        subst hj1
        obtain rfl : 1 = nv2 := hV2
        have HB7 := hide_ (later_of_grown hl6 hG2 HB0.out.size)
        obtain ⟨bv, ov, rfl, hcv⟩ := ints_cells hVo2 rfl (by omega)
        have v0 : w7.cell? ⟨bv, ov, none⟩ = some (.int .i64 1) := hcv 0 1 rfl
        clear x0 x1 x2 hal hl6 hrow hma hmo hml hst hjo hJ2 hVo2 hMK2 hG2 hcv
        go_wp2_with fail
        go_ret
        exact ⟨rfl, HB7.out⟩
    · have hs' : soundT (7 + more, t.2.1, t.2.2) = false := by simpa using hs
      rw [hs']
      clear hs hs'
      go_wp2_with fail
      refine (awake_yes _).mono ?_; rintro e w5 ⟨rfl, hb5⟩
      have HB5 := hide_ (HB4.out.trans hb5)
      clear hb5
      go_wp2_with fail
      go_ret
      exact ⟨rfl, HB5.out⟩
  · have p4 : (4 : Int) < (n : Int) := by omega
    have p5 : (4 : Int) ≤ (c : Int) := by omega
    have p6 : 4 ≤ c := by omega
    obtain ⟨b, o, hAb⟩ : ∃ b o, A = some ⟨b, o, none⟩ := by
      obtain ⟨b, o, _, _, _, _, _, _, h, _⟩ := HT.out.2 0 _ (List.getElem?_eq_getElem (by rw [HT.out.1]; omega))
      exact ⟨b, o, h⟩
    subst hAb
    have HT4 := hide_ (show TxRow w (some ⟨b, o, none⟩) 4 (T.take 4) from txRow_take HT.out (by omega))
    have hn4 : 4 ≤ 4 := by omega
    go_enter Try.func5, Try.ntmps5
    go_wp2_with (rw [HW.out])
    refine (new_any _ _).mono ?_; rintro e w1 ⟨rfl, hm, hb1⟩
    have hm : MarksAt w1 W0.heap.size (.slice none 0 0) 0 0 := hm
    have HMK := hide_ (mk_new hm)
    have HMA := hide_ hm
    have HB1 := hide_ hb1
    have hx1 := later_row hb1 HX.out
    have HX1 := hide_ hx1
    have x0 := cell_of_row _ _ 0 _ _ (0, 0) hx1
    have fz := fun k => frozen_of_row _ _ k _ _ hx1
    have hxw := heap_setCell_same w1 w.heap.size 0 _ _ (.int .i64 (7 + more)) hx1
    have hb2 : Later w (w1.setCell ⟨w.heap.size, 0, none⟩ (.int .i64 (7 + more))) := (HB0.out.trans hb1).setCell (Nat.le_refl _) _
    have hmw : MarksAt (w1.setCell ⟨w.heap.size, 0, none⟩ (.int .i64 (7 + more))) W0.heap.size (.slice none 0 0) 0 0 := (Below.heap_setCell _ _ _ _ (fun e => by have e : W0.heap.size = w.heap.size := e; have := heap_lt0 HX.out; omega)).trans hm
    clear hm hb1 hx1
    go_wp2_with fail
    obtain ⟨W2, hW2⟩ : ∃ W2, W2 = w1.setCell ⟨w.heap.size, 0, none⟩ (.int .i64 (7 + more)) := ⟨_, rfl⟩
    rw [← hW2] at hxw hb2 hmw ⊢
    have HXW := hide_ hxw; have HB2 := hide_ hb2; have HMW := hide_ hmw
    have HMK2 := hide_ (show MK W2 W0.heap.size [] 0 0 from ⟨none, 0, 0, hmw, World.ownsRow_nil _ _ _ _, rfl⟩)
    clear hxw hb2 hmw hW2 x0 fz
    refine (awake_yes _).mono ?_; rintro e w3 ⟨rfl, hb3⟩
    have hx3 := later_row hb3 HXW.out
    have x0 := cell_of_row _ _ 0 _ _ (0, 0) hx3
    have x1 := cell_of_row _ _ 1 _ _ (0, 0) hx3
    have x2 := cell_of_row _ _ 2 _ _ (0, 0) hx3
    have HB3 := hide_ (HB2.out.trans hb3)
    have HX3 := hide_ hx3
    have HMK3 := hide_ (HMK2.out.below hb3)
    have HM3 := hide_ (later_row hb3 HMW.out)
    have htx := hide_ (rtxn_any (c := c1) (c' := c2) (r := 7 + more) (HR.out.below HB3.out) H1.out (HC.out.below HB3.out) H2.out h3 h4)
    clear hb3 hx3
    go_wp2_with fail
    refine htx.out.mono ?_; rintro e w4 ⟨rfl, hb4⟩
    have HB4 := hide_ (HB3.out.trans hb4)
    have HX4 := hide_ (later_row hb4 HX3.out)
    have HMK4 := hide_ (HMK3.out.below hb4)
    clear htx hb4 x0 x1 x2
    by_cases hs : soundT (7 + more, t.2.1, t.2.2) = true
    · rw [hs]
      have HS := hide_ hs
      clear hs
      go_wp2_with fail
      have hst := HT4.out.stay HB4.out (B0 := W0.heap.size) HB0.out.size
      refine (judges_any 7 HMK4.out (by simp) ⟨trivial, by omega, fun k hk => (by cases hk)⟩ (by omega) hst (by omega)).mono ?_; rintro e w5 hj
      rcases hj with ⟨h, _⟩ | ⟨_, _, rfl, hb5⟩ | ⟨_, _, hso, Av, nv, cv, V, M, m, rfl, hJ, hV, hVo, hMK, hG⟩
      · exact absurd h (by omega)
      · have HB5 := hide_ (HB4.out.trans hb5)
        clear hb5 hst
        go_wp2_with fail
        go_ret
        exact ⟨rfl, HB5.out⟩
      · have hfa := fit_all hJ ⟨trivial, by omega, fun k hk => (by cases hk)⟩ (by omega) (fun t2 h2 => (soundT_iff.1 (List.all_eq_true.1 hso t2 h2)).2.2.1)
        have HFA := hide_ hfa
        have HB5 := hide_ (later_of_grown HB4.out hG HB0.out.size)
        have hx5 := (hG.block _ (heap_lt0 HX4.out) (fun e => by have := Option.some.inj e; have := heap_lt0 HX.out; omega)).trans HX4.out
        have x0 := cell_of_row _ _ 0 _ _ (0, 0) hx5
        have x1 := cell_of_row _ _ 1 _ _ (0, 0) hx5
        have x2 := cell_of_row _ _ 2 _ _ (0, 0) hx5
        have HMK5 := hide_ hMK
        clear hJ hV hVo hMK hG hst hfa hx5 hso
        go_wp2_with fail
        have hal := later_alloc w5 (.cells #[.int .i64 (7 + more), .slice A1 n1 c1, .slice A2 n2 c2] 32)
        have hl6 := HB5.out.trans hal
        have hrow := txRow_one (heap_alloc_new w5 (.cells #[.int .i64 (7 + more), .slice A1 n1 c1, .slice A2 n2 c2] 32)) H1.out H2.out h3 h4 (HR.out.below hl6) (HC.out.below hl6)
        have hmk6 := HMK5.out.below hal
        obtain ⟨Am, nm, cm, hma, hmo, hml⟩ := hmk6
        have hst := hrow.stayM hma
        refine (judges_any (ct := 1) (8 + more) (HMK5.out.below hal) (by have := HFA.out.2.2.2; have hl : ((T.take 4)).length ≤ 4 := (by rw [HT4.out.1]; exact hn4); simp at this; omega) HFA.out.1 (by omega) hst (by omega)).mono ?_; rintro e w7 hj
        rcases hj with ⟨h, _⟩ | ⟨_, h, _⟩ | ⟨_, _, _, Av2, nv2, cv2, V2, M2, m2, rfl, hJ2, hV2, hVo2, hMK2, hG2⟩
        · exact absurd h (by have := HFA.out.2.1; omega)
        · exact absurd ⟨by simp, by rw [List.all_cons, HS.out]; rfl⟩ h
        obtain ⟨j, rfl, hjo, -⟩ := judgeAll_one hJ2
        have hj1 : j = 1 := hjo.trans (fine_behind HFA.out.1 HFA.out.2.1 (by omega) (by omega))
        subst hj1
        obtain rfl : 1 = nv2 := hV2
        have HB7 := hide_ (later_of_grown hl6 hG2 HB0.out.size)
        obtain ⟨bv, ov, rfl, hcv⟩ := ints_cells hVo2 rfl (by omega)
        have v0 : w7.cell? ⟨bv, ov, none⟩ = some (.int .i64 1) := hcv 0 1 rfl
        clear x0 x1 x2 hal hl6 hrow hma hmo hml hst hjo hJ2 hVo2 hMK2 hG2 hcv
        go_wp2_with fail
        go_ret
        exact ⟨rfl, HB7.out⟩
    · have hs' : soundT (7 + more, t.2.1, t.2.2) = false := by simpa using hs
      rw [hs']
      clear hs hs'
      go_wp2_with fail
      refine (awake_yes _).mono ?_; rintro e w5 ⟨rfl, hb5⟩
      have HB5 := hide_ (HB4.out.trans hb5)
      clear hb5
      go_wp2_with fail
      go_ret
      exact ⟨rfl, HB5.out⟩
set_option maxRecDepth 20000 in
theorem marksAgain_contract (H : Type) (enc : TypeId × Value → H) (W : World) (base : Nat) (args : Array Value) (ds : List (DataW H)) (before : List MemPlace)
    (hval : ∀ (j : Nat) t v, Try.f5.params[j]? = some t → args[j]? = some v → Value.okWide Try.prog W .any base t v)
    (hA : DataW.TrodAll enc Try.prog W 0 (fun _ => true) true Try.f5.params.toList args.toList ds before)
    (_hsz : (DataW.weightsEach Try.prog (Try.f5.params.toList ++ Rows.marksAgainSpec.plain.varTypes Try.prog) (ds ++ [])).all (· ≤ reachBytes) = true)
    (hk : Rows.uptoSmall H (ds ++ []) = true) :
    Calls Try.prog 5 args W fun e W' => e = .returned (.bool true) ∧ Below W.heap.size W W' := by
  rw [Try.params5] at hA hval
  obtain ⟨v0, vs0, d0, ds0, p0, q0, hargs, rfl, rfl, h0, r0⟩ := trodAll_cons hA
  obtain ⟨v1, vs1, d1, ds1, p1, q1, rfl, rfl, rfl, h1, r1⟩ := trodAll_cons r0
  obtain ⟨v2, vs2, d2, ds2, p2, q2, rfl, rfl, rfl, h2, r2⟩ := trodAll_cons r1
  obtain ⟨rfl, rfl, rfl⟩ := trodAll_nil r2
  obtain rfl : args = #[v0, v1, v2] := by cases args; simp_all
  have hbb := bulk_bound hk
  have hb0 := bulk_mem (d := d0) (l := [d0, d1, d2]) (by simp)
  have hb1 := bulk_mem (d := d1) (l := [d0, d1, d2]) (by simp)
  obtain ⟨A, c, T, rfl, hc, hcm, _, hT⟩ := mopen_txns (hval 0 40 v0 rfl rfl) h0 (by omega)
  obtain ⟨t, A1, A2, c1, c2, rfl, h3, h4, hR, hC⟩ := mopen_txn (hval 1 32 v1 rfl rfl) h1 (by omega)
  obtain ⟨m, rfl, rfl, rfl, w2⟩ := open_int Try.underlying5 (hval 2 5 v2 rfl rfl) h2
  have hm : 0 ≤ m ∧ m ≤ 255 := by simpa [Lit.wf, IntKind.min, IntKind.max, IntKind.signed, IntKind.bits] using w2
  exact marksAgain_walk A _ c T hT hc hcm t A1 A2 _ c1 _ c2 rfl rfl h3 h4 hR hC m hm

set_option maxRecDepth 100000 in
theorem marksAgain_lifted (os : Os) (started : os.Started) (H : Type) (enc : TypeId × Value → H) (F : Stop.Interp) :
    ReturnsInHanded {} Try.checked os 5 .any ((Rows.OpenSpec.upto Rows.marksAgainSpec).pre6 enc Try.prog Try.f5 Rows.marksAgainUptoRow.domain false) (((Rows.OpenSpec.upto Rows.marksAgainSpec).at F).post enc Try.prog Try.f5 false true false false) := by
  refine returnsInHanded_of_cond_sized (C := Try.checked) (s := Rows.OpenSpec.upto Rows.marksAgainSpec) (k := Rows.uptoSmall) rfl own started (by kernel_rfl) Try.func5
    (OpenSpec.witness (enc := enc) (C := Try.checked) (s := Rows.OpenSpec.upto Rows.marksAgainSpec) (k := Rows.uptoSmall) rfl false ⟨#[], #[.slice none 0 0, .agg #[.int .i64 0, .slice none 0 0, .slice none 0 0], .int .u8 0], []⟩ 8 (by kernel_rfl) (by kernel_rfl) (by kernel_rfl)
      (x := ([.nil, .agg [.lit (.int .i64 0), .nil, .nil], .lit (.int .u8 0)], [], [])) (by kernel_rfl) rfl (by kernel_rfl)) ?_
  intro W base args ds gs before hval hW _ hk hsz _
  have hW' := hW
  obtain ⟨p, q, hA0, hV, rfl, hfz, hnd⟩ := hW
  obtain ⟨rfl, rfl⟩ := trodVars_none hV
  have hA : DataW.TrodAll enc Try.prog W 0 (fun _ => true) true Try.f5.params.toList args.toList ds p := hA0
  refine (marksAgain_contract H enc W base args ds p hval hA hsz hk).mono fun e W' ⟨he, hb⟩ => ?_
  subst he
  have hds : ds.length = 3 := by
    rw [Try.params5] at hA
    obtain ⟨v0, vs0, d0, ds0, p0, q0, _, rfl, rfl, _, r0⟩ := trodAll_cons hA
    obtain ⟨v1, vs1, d1, ds1, p1, q1, _, rfl, rfl, _, r1⟩ := trodAll_cons r0
    obtain ⟨v2, vs2, d2, ds2, p2, q2, _, rfl, rfl, _, r2⟩ := trodAll_cons r1
    obtain ⟨_, rfl, rfl⟩ := trodAll_nil r2
    rfl
  have hsh : ∃ d0 d1 d2 : DataW H, ds = [d0, d1, d2] := by
    match ds, hds with
    | [d0, d1, d2], _ => exact ⟨d0, d1, d2, rfl⟩
  obtain ⟨d0, d1, d2, rfl⟩ := hsh
  exact ⟨_, rfl, post_law (s := Rows.marksAgainSpec) laidOut (by kernel_rfl) Try.underlying4 rfl (by kernel_rfl) hW' rfl rfl rfl hb⟩
theorem marksAgain_over : Rows.marksAgainUptoRow.holds Try.pinned (Rows.OpenSpec.upto Rows.marksAgainSpec) :=
  OpenClaim.holds_of_cond 5 Try.f5 rfl rfl rfl rfl rfl rfl rfl ⟨rfl, rfl, rfl, rfl, rfl⟩ rfl rfl rfl rfl rfl (by kernel_rfl) Try.func5 (by kernel_rfl)
    (of_decide_eq_true (by kernel_rfl)) (by unfold Func.isWrapper; first | (rw [if_pos (by decide +kernel)]; kernel_rfl) | (rw [if_neg (by decide +kernel)]; exact ⟨rfl, rfl⟩))
    (fun os started H enc _ F => marksAgain_lifted os started H enc F)
/-- The statement. -/
theorem marksAgain_holds : Rows.MarksAgainUptoSaid := marksAgain_over
end Go.Proofs.Ytidlkomgondkiaa
