/-
  MarksPlays: for any calls Marks answer as the document's Marks do.
  Conditions: the arguments hold at most 1048576 values and letters (the second form).
-/
import Derived.Test.YtidlkomgondkiaaKMActs
import Derived.Test.YtidlkomgondkiaaKDBoth
import Derived.Test.YtidlkomgondkiaaKDSize
import Derived.Test.YtidlkomgondkiaaKMSize
import Derived.Test.YtidlkomgondkiaaKMarkLaw
import Derived.Test.YtidlkomgondkiaaKRInts
namespace Go.Proofs.Ytidlkomgondkiaa
open Go.ChangeShapes Go.WideShapes Go.ChangeAt Go.RowKit
set_option linter.unusedVariables false
set_option linter.unusedSimpArgs false
section
variable {P : Program} {ops : Array Oper} {Q : Exit → Act → World → Prop} {md : Region.Mode} {R : World → World → Prop}
/-- Two may come up. -/
theorem wpAnyR_two (i j : Nat) {oi oj : Oper} {ri rj : List Oper} {fuel : Nat} {listed : Array Bool} {a : Act} {w : World} (hr : Region.ready md ops listed = [i, j]) (hoi : ops.toList.drop i = oi :: ri) (hoj : ops.toList.drop j = oj :: rj)
    (hi : ∀ K : Act → World → Prop, Shut (∀ a' w', R w w' → wpAnyR P md ops Q R fuel (listed.setIfInBounds i true) a' w' → K a' w') → if Region.wanted oi (yielded ops a.tmps) = true then Oper.wp P oi a w K Q else K (a.put oi.dst undef) w)
    (hj : ∀ K : Act → World → Prop, Shut (∀ a' w', R w w' → wpAnyR P md ops Q R fuel (listed.setIfInBounds j true) a' w' → K a' w') → if Region.wanted oj (yielded ops a.tmps) = true then Oper.wp P oj a w K Q else K (a.put oj.dst undef) w) :
    wpAnyR P md ops Q R (fuel + 1) listed a w := by
  refine ⟨fun h0 => (by rw [hr] at h0; cases h0), fun k hk => ?_⟩
  rw [hr] at hk
  rcases List.mem_cons.1 hk with rfl | hk
  · exact wpOp_step (op_of_drop hoi) fun K hK => hi K fun a' w' hl hW => hK a' w' ⟨hl, hW⟩
  · obtain rfl : k = j := by simpa using hk
    exact wpOp_step (op_of_drop hoj) fun K hK => hj K fun a' w' hl hW => hK a' w' ⟨hl, hW⟩
end
theorem Turns.steady (B : Nat) (S : TypeId → Prop) : Steady (Turns B S) := ⟨Turns.refl B S, fun h k => h.trans k⟩
/-- What either Marks turn. -/
def BSort (t : TypeId) : Prop := isMarks t ∨ DSort t
theorem bsort_act : ¬ BSort 47 := by unfold BSort isMarks DSort; decide
theorem bsort_m {B B' : Nat} {w w' : World} (h : Turns B isMarks w w') (hB : B' ≤ B) : Turns B' BSort w w' := h.mono hB fun _ h => .inl h
theorem bsort_d {B B' : Nat} {w w' : World} (h : Turns B DSort w w') (hB : B' ≤ B) : Turns B' BSort w w' := h.mono hB fun _ h => .inr h
/-- How a Forget goes. -/
def FWay (f v : Int) (L : List Mk) (er f' : Int) (M : List Mk) : Prop := (v < f ∧ er = 7 ∧ f' = f ∧ M = L) ∨ (f ≤ v ∧ er = 0 ∧ f' = v ∧ M = L.filter (newer v))
theorem fway_ex (f v : Int) (L : List Mk) : ∃ er f' M, FWay f v L er f' M := by
  by_cases h : v < f
  · exact ⟨7, f, L, .inl ⟨h, rfl, rfl, rfl⟩⟩
  · exact ⟨0, v, _, .inr ⟨by omega, rfl, rfl, rfl⟩⟩
theorem fway_all {f v er f' l : Int} {L M W : List Mk} (h : FWay f v L er f' M) (hF : Fit L l) (hf : 0 ≤ f) (hA : Agree L W f) : Fit M l ∧ 0 ≤ f' ∧ Agree M W f' ∧ M.length ≤ L.length := by
  rcases h with ⟨_, _, rfl, rfl⟩ | ⟨h1, _, rfl, rfl⟩
  · exact ⟨hF, hf, hA, Nat.le_refl _⟩
  · exact ⟨fit_forget hF, by omega, agree_forget hA hF.1 hf h1, List.length_filter_le _ _⟩
theorem pforget_way {w : World} {B0 : Nat} {L M : List Mk} {f l v er f' : Int} (hm : MK w B0 L f l) (hn : L.length ≤ 1048576) (h : FWay f v L er f' M) :
    Calls Try.prog 23 #[.pointer (some ⟨B0, 0, none⟩), .int .i64 v] w fun e w' => e = .returned (.int .i64 er) ∧ MK w' B0 M f' l ∧ Turns B0 isMarks w w' := by
  refine (forget_any v hm hn).mono fun e w' ⟨h1, h2⟩ => ?_
  rcases h with ⟨h3, rfl, rfl, rfl⟩ | ⟨h3, rfl, rfl, rfl⟩
  · rcases h1 with ⟨_, rfl, h5⟩ | ⟨h4, _⟩
    · exact ⟨rfl, h5, h2⟩
    · omega
  · rcases h1 with ⟨h4, _⟩ | ⟨_, rfl, h5⟩
    · omega
    · exact ⟨rfl, h5, h2⟩
theorem dforget_way {w : World} {B : Nat} {L M W : List Mk} {f l v er f' : Int} (hm : DM w B W f l) (h : FWay f v L er f' M) :
    Calls Try.prog 24 #[.pointer (some ⟨B, 0, none⟩), .int .i64 v] w fun e w' => e = .returned (.int .i64 er) ∧ DM w' B W f' l ∧ Turns B DSort w w' := by
  refine (dforget_any v hm).mono fun e w' h1 => ?_
  rcases h with ⟨h3, rfl, rfl, rfl⟩ | ⟨h3, rfl, rfl, rfl⟩
  · rcases h1 with ⟨_, rfl, rfl⟩ | ⟨h4, _⟩
    · exact ⟨rfl, hm, Turns.refl _ _ _⟩
    · omega
  · rcases h1 with ⟨h4, _⟩ | ⟨_, rfl, rfl⟩
    · omega
    · exact ⟨rfl, hm.put1 _, (Turns.refl _ _ _).setCell (Nat.le_refl _) hm.sort _ _⟩
/-- Both Marks stand, and say the same. -/
def Two (w : World) (Bm Bd : Nat) (k : Nat) : Prop := ∃ (L W : List Mk) (f l : Int), MK w Bm L f l ∧ DM w Bd W f l ∧ Agree L W f ∧ Fit L l ∧ 0 ≤ f ∧ L.length ≤ 192 * k ∧ W.length ≤ 96 * k
theorem actRow_below {w w' : World} {A : Option Addr} {n : Nat} {X : List ActM} (h : ActRow w A n X) (hb : Later w w') : ActRow w' A n X := by
  refine ⟨h.1, fun i a hi => ?_⟩
  obtain ⟨b, o, At, nt, ct, rfl, h0, h1, h2, h3, h4, h5, h6⟩ := h.2 i a hi
  exact ⟨b, o, At, nt, ct, rfl, later_cell h0 _ hb, later_cell h1 _ hb, later_cell h2 _ hb, later_cell h3 _ hb, later_cell h4 _ hb, h5, h6.below hb⟩
theorem jway_len {f l v er m : Int} {L M : List Mk} {T : List Tx} {V : List Int} (h : JWay f l v L T er V M m) : V.length ≤ 4 := by
  rcases h with ⟨_, _, rfl, _⟩ | ⟨_, _, _, rfl, _⟩ | ⟨_, h2, _, _, h5⟩
  · simp
  · simp
  · rw [judgeAll_length h5]; exact h2
theorem djway_len {n : Nat} {k : Nat} (h : n ≤ 192 * k) (hk : k < 14) : n ≤ 1048000 := by omega
set_option maxRecDepth 100000 in
set_option maxHeartbeats 16000000 in
theorem marksPlays_walk {w : World} (ver : Int) (A : Option Addr) (n c : Nat) (X : List ActM) (hX : ActRow w A n X) (hcm : n ≤ 1048576) :
    Calls Try.prog 6 #[.int .i64 ver, .slice A n c] w fun e w' => e = .returned (.bool true) ∧ Below w.heap.size w w' := by
  have HX := hide_ hX
  have hn2 : (n : Int) ≤ 1048576 := by omega
  clear hX
  go_enter Try.func6, Try.ntmps6
  go_wp2_with fail
  refine (new_any _ _).mono ?_; rintro e w1 ⟨rfl, hm, hb1⟩
  have HM1 := hide_ (mk_new hm); have HB1 := hide_ hb1
  clear hm hb1
  go_wp2_with fail
  refine (awake_yes _).mono ?_; rintro e w2 ⟨rfl, hb2⟩
  have HM2 := hide_ (HM1.out.below hb2); have HB2 := hide_ (HB1.out.trans hb2)
  clear hb2
  go_wp2_with fail
  refine (dnew_any _ _).mono ?_; rintro e w3 ⟨rfl, hd, hb3⟩
  have HB3 := hide_ (HB2.out.trans hb3)
  have HT3 := hide_ (show Two w3 w.heap.size w2.heap.size 0 from ⟨[], [], max ver 0, 0, HM2.out.below hb3, hd, agree_start _ (by omega), ⟨trivial, by omega, fun k hk => (by cases hk)⟩, by omega, by simp, by simp⟩)
  have hMD : w.heap.size + 1 ≤ w2.heap.size := by have := HM2.out.lt; omega
  clear hd hb3
  go_wp2_with fail
  go_loopw [7] (fun s7 wr => ∃ (k : Nat), k ≤ n ∧ k ≤ 14 ∧ s7 = .int .i64 k ∧ Hid (Two wr w.heap.size w2.heap.size k) ∧ Hid (Later w wr)) (fun i _ => 14 - (intOf i).toNat)
  case atStart => exact ⟨0, by omega, by omega, rfl, HT3, HB3⟩
  case round =>
    obtain ⟨k, hk, hk14, rfl, HTW, HB⟩ := hrel
    have r2 : (k : Int) ≤ 1048576 := by omega
    have r3 : (0 : Int) ≤ (k : Int) := by omega
    by_cases hlt : k < n
    · have r1 : (k : Int) < (n : Int) := by omega
      by_cases h14 : k < 14
      · have r4 : (k : Int) < 14 := by omega
        obtain ⟨a, ha⟩ : ∃ a, X[k]? = some a := ⟨_, List.getElem?_eq_getElem (by rw [HX.out.1]; exact hlt)⟩
        obtain ⟨b, o, At, nt, ct, rfl, h0, h1, h2, h3, h4, hnt, hT⟩ := HX.out.2 k a ha
        obtain ⟨x, v, s, T⟩ := a
        have l0 := later_cell h0 _ HB.out
        have l1 := later_cell h1 _ HB.out
        have l2 := later_cell h2 _ HB.out
        have l3 := later_cell h3 _ HB.out
        have l4 := later_cell h4 _ HB.out
        obtain ⟨L, W, f, l, hM, hD, hAg, hF, hf, hLl, hWl⟩ := HTW.out
        have hxr := heap_alloc_new wr (.cells #[.int .i64 x, .int .i64 v, .string s.1, .string s.2, .slice At nt ct] 47)
        have hal := later_alloc wr (.cells #[.int .i64 x, .int .i64 v, .string s.1, .string s.2, .slice At nt ct] 47)
        have HXR := hide_ hxr; have HAL := hide_ hal
        have HM := hide_ (hM.below hal); have HD := hide_ (hD.below hal); have HAg := hide_ hAg; have HF := hide_ hF
        have HL := hide_ (HB.out.trans hal)
        have HTT := hide_ hT
        have hmw := hM.lt
        clear h0 h1 h2 h3 h4 ha hT hM hD hAg hF hxr hal
        by_cases x0 : x = 0 ∨ x = 1 ∨ x = 2
        · have hst := HTT.out.stay HL.out (B0 := w.heap.size) (Nat.le_refl _)
          rcases x0 with rfl | rfl | rfl
          all_goals
            go_wp2_with fail
            refine (pjudge_any (ct := ct) v HM.out (by omega) HF.out hf hst (by omega)).mono ?_; rintro e w4 ⟨Aj, nj, cj, er, V, M, m, rfl, hJ, hVl, hVo, hMK, hG⟩
            have hfit := jway_fit hJ HF.out
            have hvl := jway_len hJ
            have hx4 := (hG.block _ (heap_lt0 HXR.out) (fun e => by have := Option.some.inj e; omega)).trans HXR.out
            have x1 := cell_of_row _ _ 1 _ _ (0, 0) hx4
            have x4 := cell_of_row _ _ 4 _ _ (0, 0) hx4
            have HD4 := hide_ (HD.out.turns (turns_of_grown HM.out hG (Nat.le_refl _) (.inl rfl)) marks_dm marks_dw)
            have HB4 := hide_ (later_of_grown HL.out hG (Nat.le_refl _))
            have HM4 := hide_ hMK; have HV4 := hide_ hVo; have HJ := hide_ hJ; have HFit := hide_ hfit.1
            have hLM := hfit.2
            have HVL := hide_ hVl
            have hnj : nj ≤ 4 := by rw [← hVl]; exact hvl
            clear hst l0 l1 l2 l3 l4 hJ hVl hVo hMK hG hx4 hfit hvl
            go_wp2_with fail
            refine (djudge_any (ct := ct) v HD4.out HAg.out HF.out hf (fun Wx hx => HTT.out.below (Below.trans HB4.out (hx.mono (by omega)))) (by omega) (by omega) HJ.out).mono ?_; rintro e w5 ⟨Aj2, nj2, cj2, W', rfl, hVl2, hVo2, hDM5, hAg5, hWl5, hTu⟩
            obtain rfl : nj2 = nj := by rw [← hVl2]; exact HVL.out
            have HM5 := hide_ (HM4.out.turns hTu dsort_marks dsort_mark)
            have hin := hide_ (ints_same (c := cj) (c' := cj2) (Rd.of_own (hTu.own HV4.out dsort_int)) (Rd.of_own hVo2) hVl2 (by omega))
            have HB5 := hide_ (show Later w w5 from Below.trans HB4.out (hTu.below.mono (by omega)))
            have HD5 := hide_ hDM5; have HAg5 := hide_ hAg5
            clear hVl2 hVo2 hDM5 hTu hAg5 x1 x4
            go_wp2_with fail
            refine hin.out.mono ?_; rintro e w6 ⟨rfl, hb6⟩
            have HM6 := hide_ (HM5.out.below hb6); have HD6 := hide_ (HD5.out.below hb6); have HB6 := hide_ (HB5.out.trans hb6)
            clear hb6 hin
            go_wp2_with fail
            refine (size_any HM6.out HFit.out.1 (by omega)).mono ?_; rintro e w7 ⟨rfl, hb7⟩
            have HM7 := hide_ (HM6.out.below hb7); have HD7 := hide_ (HD6.out.below hb7); have HB7 := hide_ (HB6.out.trans hb7)
            clear hb7
            go_wp2_with fail
            refine (dsize_any HD7.out HAg5.out HFit.out.1 hf (by omega)).mono ?_; rintro e w8 ⟨rfl, hb8⟩
            have HT8 := hide_ (show Two w8 w.heap.size w2.heap.size (k + 1) from ⟨M, W', f, m, HM7.out.below hb8, HD7.out.below hb8, HAg5.out, HFit.out, hf, by omega, by omega⟩)
            have HB8 := hide_ (HB7.out.trans hb8)
            clear hb8
            go_wp2_with fail
            go_roundw
            case rel => exact ⟨k + 1, by omega, by omega, by go_num, HT8, HB8⟩
            case measure => simp [intOf]; omega
        · have e0 : ¬ x = 0 := fun h => x0 (.inl h)
          have e1 : ¬ x = 1 := fun h => x0 (.inr (.inl h))
          have e2 : ¬ x = 2 := fun h => x0 (.inr (.inr h))
          have d0 : decide (x = 0) = false := decide_eq_false e0
          have d1 : decide (x = 1) = false := decide_eq_false e1
          have d2 : decide (x = 2) = false := decide_eq_false e2
          have b0 : (x == 0) = false := beq_eq_false_iff_ne.2 e0
          have b1 : (x == 1) = false := beq_eq_false_iff_ne.2 e1
          have b2 : (x == 2) = false := beq_eq_false_iff_ne.2 e2
          clear x0 e0 e1 e2
          by_cases x3 : x = 3
          · subst x3
            go_wp2_with fail
            refine (last_mk s HM.out (by omega)).mono ?_; rintro e w4 ⟨rfl, hb4⟩
            have hx4 := later_row hb4 HXR.out
            have x2 := cell_of_row _ _ 2 _ _ (0, 0) hx4
            have x3 := cell_of_row _ _ 3 _ _ (0, 0) hx4
            have HM4 := hide_ (HM.out.below hb4); have HD4 := hide_ (HD.out.below hb4); have HB4 := hide_ (HL.out.trans hb4)
            clear hb4 hx4 l0 l1 l2 l3 l4
            go_wp2_with fail
            refine (dlast_any s HD4.out HAg.out HF.out.1 hf (by omega)).mono ?_; rintro e w5 ⟨rfl, hb5⟩
            have HM6 := hide_ (HM4.out.below hb5); have HD6 := hide_ (HD4.out.below hb5); have HB6 := hide_ (HB4.out.trans hb5)
            clear hb5 x2 x3
            go_wp2_with fail
            refine (size_any HM6.out HF.out.1 (by omega)).mono ?_; rintro e w7 ⟨rfl, hb7⟩
            have HM7 := hide_ (HM6.out.below hb7); have HD7 := hide_ (HD6.out.below hb7); have HB7 := hide_ (HB6.out.trans hb7)
            clear hb7
            go_wp2_with fail
            refine (dsize_any HD7.out HAg.out HF.out.1 hf (by omega)).mono ?_; rintro e w8 ⟨rfl, hb8⟩
            have HT8 := hide_ (show Two w8 w.heap.size w2.heap.size (k + 1) from ⟨L, W, f, l, HM7.out.below hb8, HD7.out.below hb8, HAg.out, HF.out, hf, by omega, by omega⟩)
            have HB8 := hide_ (HB7.out.trans hb8)
            clear hb8
            go_wp2_with fail
            go_roundw
            case rel => exact ⟨k + 1, by omega, by omega, by go_num, HT8, HB8⟩
            case measure => simp [intOf]; omega
          · have d3 : decide (x = 3) = false := decide_eq_false x3
            have b3 : (x == 3) = false := beq_eq_false_iff_ne.2 x3
            obtain ⟨er, f', M, hway⟩ := fway_ex f v L
            have HWY := hide_ hway
            have HFA := hide_ (fway_all hway HF.out hf HAg.out)
            have hML := HFA.out.2.2.2
            have hf2 := HFA.out.2.1
            clear x3 hway
            go_wp2_with fail
            have HMd := hide_ (HM.out.below (below_drewN (Later.refl _) 1)); have HDd := hide_ (HD.out.below (below_drewN (Later.refl _) 1))
            have HLd := hide_ (HL.out.trans (below_drewN (Later.refl _) 1))
            have hrd : ∀ Wx, Turns w.heap.size BSort (wr.alloc (.cells #[.int .i64 x, .int .i64 v, .string s.1, .string s.2, .slice At nt ct] 47)).drew Wx → Wx.cell? ⟨wr.heap.size, 1, none⟩ = some (.int .i64 v) := fun Wx hx => cell_of_row _ _ 1 _ _ (0, 0) (hx.row HXR.out bsort_act)
            refine wp_region_r (R := Turns w.heap.size BSort) (by kernel_rfl) ?_
            refine wpAnyR_take (Turns.steady _ _) 0 (v := ?_) rfl (by kernel_rfl) (by kernel_rfl) (by kernel_rfl) (fun _ _ _ h => h) (by rfl) (by intro Wx hSw; go_simp; with_reducible rfl) ?_; try simp only [Act.put, List.setIfInBounds_toArray, List.set_cons_zero, List.set_cons_succ]
            refine wpAnyR_take (Turns.steady _ _) 1 (v := ?_) rfl (by kernel_rfl) (by kernel_rfl) (by kernel_rfl) (fun _ _ _ h => h) (by rfl) (by intro Wx hSw; go_simp; with_reducible rfl) ?_; try simp only [Act.put, List.setIfInBounds_toArray, List.set_cons_zero, List.set_cons_succ]
            refine wpAnyR_take (Turns.steady _ _) 2 (v := ?_) rfl (by kernel_rfl) (by kernel_rfl) (by kernel_rfl) (fun _ _ _ h => h) (by rfl) (by intro Wx hSw; have := hrd Wx hSw; go_simp; with_reducible rfl) ?_; try simp only [Act.put, List.setIfInBounds_toArray, List.set_cons_zero, List.set_cons_succ]
            refine wpAnyR_take (Turns.steady _ _) 4 (v := ?_) rfl (by kernel_rfl) (by kernel_rfl) (by kernel_rfl) (fun _ _ _ h => h) (by rfl) (by intro Wx hSw; go_simp; with_reducible rfl) ?_; try simp only [Act.put, List.setIfInBounds_toArray, List.set_cons_zero, List.set_cons_succ]
            refine wpAnyR_take (Turns.steady _ _) 5 (v := ?_) rfl (by kernel_rfl) (by kernel_rfl) (by kernel_rfl) (fun _ _ _ h => h) (by rfl) (by intro Wx hSw; go_simp; with_reducible rfl) ?_; try simp only [Act.put, List.setIfInBounds_toArray, List.set_cons_zero, List.set_cons_succ]
            refine wpAnyR_take (Turns.steady _ _) 6 (v := ?_) rfl (by kernel_rfl) (by kernel_rfl) (by kernel_rfl) (fun _ _ _ h => h) (by rfl) (by intro Wx hSw; have := hrd Wx hSw; go_simp; with_reducible rfl) ?_; try simp only [Act.put, List.setIfInBounds_toArray, List.set_cons_zero, List.set_cons_succ]
            refine wpAnyR_one 3 (by kernel_rfl) rfl (fun K hK => ?_)
            go_simp
            refine (pforget_way HMd.out (by omega) HWY.out).mono ?_; rintro e w4 ⟨rfl, hm4, ht4⟩
            refine hK.out _ _ (bsort_m ht4 (Nat.le_refl _)) ?_
            clear hK K
            have HD4 := hide_ (HDd.out.turns ht4 marks_dm marks_dw)
            have HM4 := hide_ hm4
            have HL4 := hide_ (show Later w w4 from Below.trans HLd.out ht4.below)
            clear hm4 ht4
            try simp only [Act.put, List.setIfInBounds_toArray, List.set_cons_zero, List.set_cons_succ]
            refine wpAnyR_one 7 (by kernel_rfl) rfl (fun K hK => ?_)
            go_simp
            refine (dforget_way HD4.out HWY.out).mono ?_; rintro e w6 ⟨rfl, hd5, ht5⟩
            refine hK.out _ _ (bsort_d ht5 (by omega)) ?_
            clear hK K
            have HM6 := hide_ (HM4.out.turns ht5 dsort_marks dsort_mark)
            have HD6 := hide_ hd5
            have HB6 := hide_ (show Later w w6 from Below.trans HL4.out (ht5.below.mono (by omega)))
            clear hd5 ht5
            try simp only [Act.put, List.setIfInBounds_toArray, List.set_cons_zero, List.set_cons_succ]
            refine wpAnyR_take (Turns.steady _ _) 8 (v := ?_) rfl (by kernel_rfl) (by kernel_rfl) (by kernel_rfl) (fun _ _ _ h => h) (by rfl) (by intro Wx hSw; go_simp; with_reducible rfl) ?_; try simp only [Act.put, List.setIfInBounds_toArray, List.set_cons_zero, List.set_cons_succ]
            refine wpAnyR_done (by kernel_rfl) ?_ _
            go_wp2_with fail
            refine (size_any HM6.out HFA.out.1.1 (by omega)).mono ?_; rintro e w7 ⟨rfl, hb7⟩
            have HM7 := hide_ (HM6.out.below hb7); have HD7 := hide_ (HD6.out.below hb7); have HB7 := hide_ (HB6.out.trans hb7)
            clear hb7
            go_wp2_with fail
            refine (dsize_any HD7.out HFA.out.2.2.1 HFA.out.1.1 hf2 (by omega)).mono ?_; rintro e w8 ⟨rfl, hb8⟩
            have HT8 := hide_ (show Two w8 w.heap.size w2.heap.size (k + 1) from ⟨M, W, f', l, HM7.out.below hb8, HD7.out.below hb8, HFA.out.2.2.1, HFA.out.1, hf2, by omega, by omega⟩)
            have HB8 := hide_ (HB7.out.trans hb8)
            clear hb8
            go_wp2_with fail
            go_roundw
            case rel => exact ⟨k + 1, by omega, by omega, by go_num, HT8, HB8⟩
            case measure => simp [intOf]; omega
      · have r4 : ¬ (k : Int) < 14 := by omega
        go_wp2_with fail
        go_ret
        exact ⟨rfl, HB.out⟩
    · have r1 : ¬ (k : Int) < (n : Int) := by omega
      go_wp2_with fail
      go_ret
      exact ⟨rfl, HB.out⟩
set_option maxRecDepth 20000 in
theorem marksPlays_contract (H : Type) (enc : TypeId × Value → H) (W : World) (base : Nat) (args : Array Value) (ds : List (DataW H)) (before : List MemPlace)
    (hval : ∀ (j : Nat) t v, Try.f6.params[j]? = some t → args[j]? = some v → Value.okWide Try.prog W .any base t v)
    (hA : DataW.TrodAll enc Try.prog W 0 (fun _ => true) true Try.f6.params.toList args.toList ds before)
    (_hsz : (DataW.weightsEach Try.prog (Try.f6.params.toList ++ Rows.marksPlaysSpec.plain.varTypes Try.prog) (ds ++ [])).all (· ≤ reachBytes) = true)
    (hk : Rows.uptoSmall H (ds ++ []) = true) :
    Calls Try.prog 6 args W fun e W' => e = .returned (.bool true) ∧ Below W.heap.size W W' := by
  rw [Try.params6] at hA hval
  obtain ⟨v0, vs0, d0, ds0, p0, q0, hargs, rfl, rfl, h0, r0⟩ := trodAll_cons hA
  obtain ⟨v1, vs1, d1, ds1, p1, q1, rfl, rfl, rfl, h1, r1⟩ := trodAll_cons r0
  obtain ⟨rfl, rfl, rfl⟩ := trodAll_nil r1
  obtain rfl : args = #[v0, v1] := by cases args; simp_all
  have hbb := bulk_bound hk
  have hb1 := bulk_mem (d := d1) (l := [d0, d1]) (by simp)
  obtain ⟨m, rfl, rfl, rfl, w2⟩ := open_int Try.underlying3 (hval 0 3 v0 rfl rfl) h0
  obtain ⟨A, c, X, rfl, hcm, hX⟩ := mopen_acts (hval 1 43 v1 rfl rfl) h1 (by omega)
  exact marksPlays_walk m A _ c X hX hcm

set_option maxRecDepth 100000 in
theorem marksPlays_lifted (os : Os) (started : os.Started) (H : Type) (enc : TypeId × Value → H) (F : Stop.Interp) :
    ReturnsInHanded {} Try.checked os 6 .any ((Rows.OpenSpec.upto Rows.marksPlaysSpec).pre6 enc Try.prog Try.f6 Rows.marksPlaysUptoRow.domain false) (((Rows.OpenSpec.upto Rows.marksPlaysSpec).at F).post enc Try.prog Try.f6 false true false false) := by
  refine returnsInHanded_of_cond_sized (C := Try.checked) (s := Rows.OpenSpec.upto Rows.marksPlaysSpec) (k := Rows.uptoSmall) rfl own started (by kernel_rfl) Try.func6
    (OpenSpec.witness (enc := enc) (C := Try.checked) (s := Rows.OpenSpec.upto Rows.marksPlaysSpec) (k := Rows.uptoSmall) rfl false ⟨#[], #[.int .i64 0, .slice none 0 0], []⟩ 8 (by kernel_rfl) (by kernel_rfl) (by kernel_rfl)
      (x := ([.lit (.int .i64 0), .nil], [], [])) (by kernel_rfl) rfl (by kernel_rfl)) ?_
  intro W base args ds gs before hval hW _ hk hsz _
  have hW' := hW
  obtain ⟨p, q, hA0, hV, rfl, hfz, hnd⟩ := hW
  obtain ⟨rfl, rfl⟩ := trodVars_none hV
  have hA : DataW.TrodAll enc Try.prog W 0 (fun _ => true) true Try.f6.params.toList args.toList ds p := hA0
  refine (marksPlays_contract H enc W base args ds p hval hA hsz hk).mono fun e W' ⟨he, hb⟩ => ?_
  subst he
  have hds : ds.length = 2 := by
    rw [Try.params6] at hA
    obtain ⟨v0, vs0, d0, ds0, p0, q0, _, rfl, rfl, _, r0⟩ := trodAll_cons hA
    obtain ⟨v1, vs1, d1, ds1, p1, q1, _, rfl, rfl, _, r1⟩ := trodAll_cons r0
    obtain ⟨_, rfl, rfl⟩ := trodAll_nil r1
    rfl
  have hsh : ∃ d0 d1 : DataW H, ds = [d0, d1] := by
    match ds, hds with
    | [d0, d1], _ => exact ⟨d0, d1, rfl⟩
  obtain ⟨d0, d1, rfl⟩ := hsh
  exact ⟨_, rfl, post_law (s := Rows.marksPlaysSpec) laidOut (by kernel_rfl) Try.underlying4 rfl (by kernel_rfl) hW' rfl rfl rfl hb⟩
theorem marksPlays_over : Rows.marksPlaysUptoRow.holds Try.pinned (Rows.OpenSpec.upto Rows.marksPlaysSpec) :=
  OpenClaim.holds_of_cond 6 Try.f6 rfl rfl rfl rfl rfl rfl rfl ⟨rfl, rfl, rfl, rfl, rfl⟩ rfl rfl rfl rfl rfl (by kernel_rfl) Try.func6 (by kernel_rfl)
    (of_decide_eq_true (by kernel_rfl)) (by unfold Func.isWrapper; first | (rw [if_pos (by decide +kernel)]; kernel_rfl) | (rw [if_neg (by decide +kernel)]; exact ⟨rfl, rfl⟩))
    (fun os started H enc _ F => marksPlays_lifted os started H enc F)
/-- The statement. -/
theorem marksPlays_holds : Rows.MarksPlaysUptoSaid := marksPlays_over
end Go.Proofs.Ytidlkomgondkiaa
