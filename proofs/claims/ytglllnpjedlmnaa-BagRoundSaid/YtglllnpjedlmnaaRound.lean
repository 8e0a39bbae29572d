/-
  BagRound: who takes the first one and sends it again, as often as there are, has the bag as it was. For any texts, any number.
  Conditions: none but the row's own.
-/
import Derived.Test.YtglllnpjedlmnaaSpoil
import Derived.Test.YtglllnpjedlmnaaBagAwake
import Derived.Test.YtglllnpjedlmnaaShape
namespace Go.Proofs.Ytglllnpjedlmnaa
open Go.ChangeShapes Go.WideShapes Go.ChangeAt Go.RowKit
set_option linter.unusedVariables false
set_option linter.unusedSimpArgs false
/-- The short ones of the first i texts. -/
def shorts (T : List (List UInt8)) (i : Nat) : List (List UInt8) := (T.take i).filter fun l => decide (l.length ≤ 1000)
theorem shorts_zero (T : List (List UInt8)) : shorts T 0 = [] := rfl
theorem shorts_succ {T : List (List UInt8)} {i : Nat} {l : List UInt8} (h : T[i]? = some l) : shorts T (i + 1) = shorts T i ++ if l.length ≤ 1000 then [l] else [] := by
  unfold shorts
  rw [List.take_add_one, h, List.filter_append]
  by_cases hl : l.length ≤ 1000 <;> simp [hl]
theorem shorts_le (T : List (List UInt8)) (i : Nat) : (shorts T i).length ≤ i := Nat.le_trans (List.length_filter_le _ _) (by simp; omega)
theorem shorts_at {T : List (List UInt8)} {i k : Nat} {l : List UInt8} (h : T[i]? = some l) (hl : l.length ≤ 1000) (hik : i < k) : (shorts T k)[(shorts T i).length]? = some l := by
  have h1 : shorts T (i + 1) <+: shorts T k := (List.take_prefix_take_left (show i + 1 ≤ k from hik)).filter _
  obtain ⟨t, ht⟩ := h1
  rw [← ht, shorts_succ h, if_pos hl, List.append_assoc, List.getElem?_append_right (Nat.le_refl _)]
  simp
/-- The letters hold these texts, turned round q times. -/
def Turned (F : List (List UInt8)) (q : Nat) (L : List Ltr) : Prop := L.length = F.length ∧ ∀ j x, L[j]? = some x → x.dest = (((q + j) % F.length : Nat) : Int) ∧ F[(q + j) % F.length]? = some x.text
theorem Turned.nil : Turned [] 0 [] := ⟨rfl, fun j x h => by cases h⟩
theorem Turned.push {F : List (List UInt8)} {L : List Ltr} (h : Turned F 0 L) {l : List UInt8} {v : Value} {d : Int} (hd : d = (F.length : Int)) : Turned (F ++ [l]) 0 (L ++ [⟨d, v, l, false⟩]) := by
  refine ⟨by simp [h.1], fun j x hx => ?_⟩
  have hj : j < (L ++ [(⟨d, v, l, false⟩ : Ltr)]).length := (List.getElem?_eq_some_iff.1 hx).1
  simp [h.1] at hj
  have hF : (F ++ [l]).length = F.length + 1 := by simp
  rw [hF, Nat.zero_add, Nat.mod_eq_of_lt hj]
  rcases Nat.lt_or_ge j L.length with hj2 | hj2
  · rw [List.getElem?_append_left hj2] at hx
    have hjF : j < F.length := by rw [← h.1]; exact hj2
    have h2 := h.2 j x hx
    rw [Nat.zero_add, Nat.mod_eq_of_lt hjF] at h2
    rw [List.getElem?_append_left hjF]
    exact h2
  · have hjF : j = F.length := by have := h.1; omega
    subst hjF
    rw [List.getElem?_append_right hj2, h.1] at hx
    simp at hx
    subst hx
    exact ⟨hd, by simp⟩
theorem Turned.turn {F : List (List UInt8)} {q : Nat} {L : List Ltr} (h : Turned F q L) {x : Ltr} (hx : L[0]? = some x) {y : Ltr} (hd : y.dest = x.dest) (ht : y.text = x.text) : Turned F (q + 1) (L.eraseIdx 0 ++ [y]) := by
  cases L with
  | nil => cases hx
  | cons z L =>
    simp at hx; subst hx
    have hn := h.1
    simp at hn
    have h0 := h.2 0 z rfl
    refine ⟨by simp [hn], fun j u hu => ?_⟩
    simp only [List.eraseIdx_cons_zero] at hu
    rcases Nat.lt_or_ge j L.length with hj | hj
    · rw [List.getElem?_append_left hj] at hu
      have h2 := h.2 (j + 1) u (by simpa using hu)
      rw [show q + 1 + j = q + (j + 1) from by omega]
      exact h2
    · have hj2 := (List.getElem?_eq_some_iff.1 hu).1
      simp at hj2
      have hjL : j = L.length := by omega
      subst hjL
      rw [List.getElem?_append_right hj] at hu
      simp at hu
      subst hu
      rw [show q + 1 + L.length = q + F.length from by omega, Nat.add_mod_right]
      rw [hd, ht]
      simpa using h0
theorem Turned.back {F : List (List UInt8)} {t : Nat} {L : List Ltr} (h : Turned F (F.length * t) L) : Turned F 0 L := by
  refine ⟨h.1, fun j x hx => ?_⟩
  have := h.2 j x hx
  rw [Nat.mul_comm, Nat.add_comm, Nat.add_mul_mod_self_right] at this
  rw [Nat.zero_add]; exact this
theorem Turned.at_ {F : List (List UInt8)} {L : List Ltr} (h : Turned F 0 L) {j : Nat} {l : List UInt8} (hl : F[j]? = some l) : ∃ v sp, L[j]? = some ⟨(j : Int), v, l, sp⟩ := by
  have hj := (List.getElem?_eq_some_iff.1 hl).1
  obtain ⟨⟨d, v, l2, sp⟩, hx⟩ : ∃ x, L[j]? = some x := ⟨L[j]'(by rw [h.1]; exact hj), List.getElem?_eq_getElem _⟩
  have h2 := h.2 j _ hx
  rw [Nat.zero_add, Nat.mod_eq_of_lt hj, hl] at h2
  obtain ⟨h3, h4⟩ := h2
  injection h4 with h4
  simp at h3 h4
  subst h3; subst h4
  exact ⟨v, sp, hx⟩
set_option maxHeartbeats 4000000 in
theorem bagRound_walk (A : Option Addr) (c : Nat) (T : List (List UInt8)) (tm : Nat) (htm : tm < 256) (w : World) (hR : SliceSh 1 BytesSh w [.slice A T.length c] T) :
    Calls Try.prog 5 #[.slice A T.length c, .int .u8 (tm : Int)] w fun e w' => e = .returned (.bool true) ∧ Below w.heap.size w w' := by
  have hse : ∀ l : List UInt8, ((⟨l.toArray⟩ : ByteArray) == ⟨l.toArray⟩) = true := fun l => by show (l.toArray == l.toArray) = true; exact beq_self_eq_true _
  obtain ⟨tn, htn⟩ : ∃ tn, tn = T.length := ⟨_, rfl⟩
  rw [← htn] at hR ⊢
  have HTN := Lib.hid htn
  clear htn
  go_enter Try.func5, Try.ntmps5
  go_wp2_with fail
  refine (new_any 64 (by omega) _).mono ?_; rintro e w1 ⟨p, ch, rfl, hB, hb1⟩; have HB := hide_ hb1; have HBA := hide_ hB; clear hb1 hB
  go_wp2_with fail
  refine (awake_any _).mono ?_; rintro e w2 ⟨rfl, hb⟩; have HB2 := hide_ (HB.out.trans (hb.mono HB.out.size)); have HBA2 := hide_ (HBA.out.later hb); clear hb
  go_wp2_with fail
  go_loopw [7, 8] (fun n i wr => ∃ k m : Nat, k ≤ 40 ∧ k ≤ tn ∧ m = (shorts T k).length ∧ i = .int .i64 k ∧ n = .int .i64 m ∧ (∃ sv L, BagAt wr w.heap.size p ch sv 64 L ∧ Turned (shorts T k) 0 L) ∧ Below w.heap.size w wr) (fun _ i _ => 40 - (intOf i).toNat)
  case atStart => exact ⟨0, 0, by omega, by omega, rfl, rfl, rfl, ⟨_, _, HBA2.out, Turned.nil⟩, HB2.out⟩
  case round =>
    obtain ⟨k, m, hk40, hkn, hmk, rfl, rfl, ⟨sv, L, hB, hH⟩, hb⟩ := hrel
    have hml : m ≤ k := by rw [hmk]; exact shorts_le T k
    by_cases hlt : k < tn ∧ k < 40
    · obtain ⟨h1, h2⟩ := hlt
      obtain ⟨l, hl⟩ : ∃ l, T[k]? = some l := ⟨T[k]'(by rw [← HTN.out]; exact h1), List.getElem?_eq_getElem _⟩
      obtain ⟨hnT, b0, o0, rfl, us, hus, hcell, A1, c1, hu, hc1, hcm1, hA1, hR1⟩ := hR.at_ hl
      clear hnT
      have hcb := hcell 0 (.slice A1 l.length c1) (by rw [hu]; rfl)
      simp only [Nat.mul_one, Nat.add_zero] at hcb
      obtain ⟨n1, hn1⟩ : ∃ n1, n1 = l.length := ⟨_, rfl⟩
      rw [← hn1] at hcb hR1 hA1
      have hcw := (hb.cell (cell_lt hcb)).trans hcb
      have hRw := hR1.below hb
      have q1 : (k : Int) < (tn : Int) := by omega
      have q2 : (k : Int) < 40 := by omega
      have q0 : (0 : Int) ≤ (k : Int) := by omega
      have hss := shorts_succ hl
      rw [← hn1] at hss
      have HSS := hide_ hss
      have HH := hide_ hH; have HBB := hide_ hB; have HMK := hide_ hmk; have HL := hide_ hl; have HB3 := hide_ hb; have HA1 := hide_ hA1; have HN1 := hide_ hn1.symm
      have hcb0 := hcb
      clear hss hH hB hmk hl hb hcb hcell hus hu hR1 hA1 hn1
      by_cases hlong : 1000 < n1
      · have q5 : 1000 < (n1 : Int) := by omega
        go_wp2_with fail
        go_roundw
        case rel =>
          have hs := HSS.out
          rw [if_neg (by omega), List.append_nil] at hs
          exact ⟨k + 1, m, by omega, by omega, by rw [hs]; exact HMK.out, by go_num, rfl, ⟨_, _, HBB.out, by rw [hs]; exact HH.out⟩, HB3.out⟩
        case measure => simp [intOf]; omega
      · have q5 : ¬ 1000 < (n1 : Int) := by omega
        go_wp2_with fail
        refine (send_any HBB.out (by omega) HB3.out.size m A1 n1 c1 l (by omega) (by omega) (by omega) HN1.out HA1.out hRw (by rw [HH.out.1, ← HMK.out]; omega)).mono ?_; rintro e w3 ⟨rfl, ⟨sv3, v3, hB3⟩, hb3, _⟩
        have HBB3 := hide_ hB3
        have HB4 := hide_ (HB3.out.trans hb3)
        clear hB3 hb3 hcb0 hcw hRw
        go_wp2_with fail
        go_roundw
        case rel =>
          have hs := HSS.out
          rw [if_pos (by omega)] at hs
          exact ⟨k + 1, m + 1, by omega, by omega, by rw [hs, List.length_append, ← HMK.out]; rfl, by go_num, by go_num, ⟨_, _, HBB3.out, by rw [hs]; exact HH.out.push (by rw [HMK.out])⟩, HB4.out⟩
        case measure => simp [intOf]; omega
    · obtain ⟨F, hF⟩ : ∃ F, F = shorts T k := ⟨_, rfl⟩
      rw [← hF] at hmk hH
      have HMK := hide_ hmk; have HF := hide_ hF
      have HKM := hide_ (show k = tn ∨ k = 40 from by omega)
      have hm40 : m ≤ 40 := by omega
      have HH := hide_ hH; have HBB := hide_ hB; have HB3 := hide_ hb
      have hR3 := hR
      have hcase : (¬ k < tn ∧ ¬ (k : Int) < (tn : Int)) ∨ ((k < tn ∧ (k : Int) < (tn : Int)) ∧ (¬ k < 40 ∧ ¬ (k : Int) < 40)) := by omega
      clear hR hmk hF hlt hH hB hb hml
      obtain ⟨M, hM⟩ : ∃ M, M = m * (tm % 4) := ⟨_, rfl⟩
      have hM120 : M ≤ 120 := by rw [hM]; exact Nat.mul_le_mul hm40 (show tm % 4 ≤ 3 from by omega)
      have hMi : (m : Int) * ((tm : Int) % 4) = (M : Int) := by rw [hM]; simp
      have HMM := hide_ hM
      clear hM
      rcases hcase with ⟨q1, q3⟩ | ⟨⟨q1, q3⟩, q2, q4⟩
      all_goals
        go_wp2_with fail
        go_loopw [9] (fun i wr => ∃ q : Nat, q ≤ M ∧ i = .int .i64 q ∧ (∃ sv L, BagAt wr w.heap.size p ch sv 64 L ∧ Turned F q L) ∧ Below w.heap.size w wr) (fun i _ => M - (intOf i).toNat)
        case atStart => exact ⟨0, by omega, rfl, ⟨_, _, HBB.out, HH.out⟩, HB3.out⟩
        case round =>
          obtain ⟨q, hq, rfl, ⟨sv2, L2, hB2, hH2⟩, hb2⟩ := hrel
          by_cases hlt : q < M
          · have hm0 : 0 < m := by
              rcases Nat.eq_zero_or_pos m with h | h
              · have := HMM.out; rw [h, Nat.zero_mul] at this; omega
              · exact h
            obtain ⟨⟨d, v, l, sp⟩, hx⟩ : ∃ x, L2[0]? = some x := ⟨L2[0]'(by rw [hH2.1, ← HMK.out]; exact hm0), List.getElem?_eq_getElem _⟩
            obtain ⟨hd, hl⟩ := hH2.2 0 _ hx
            simp only [Nat.add_zero] at hd hl
            obtain ⟨d', hd'⟩ : ∃ d', d' = q % F.length := ⟨_, rfl⟩
            have hdm : d' < m := by rw [hd', HMK.out]; exact Nat.mod_lt _ (by rw [← HMK.out]; exact hm0)
            rw [← hd'] at hd
            subst hd
            have hll : l.length ≤ 1000 := by
              have h := List.mem_of_getElem? hl
              rw [HF.out] at h
              exact of_decide_eq_true (List.mem_filter.1 h).2
            obtain ⟨n1, hn1⟩ : ∃ n1, n1 = l.length := ⟨_, rfl⟩
            rw [← hn1] at hll
            have HN1 := hide_ hn1.symm
            have HH2 := hide_ hH2; have HB4 := hide_ hb2; have HX := hide_ hx; have HBB2 := hide_ hB2
            clear hH2 hb2 hx hl hB2 hn1 hd'
            go_wp2_with fail
            refine (take_any HBB2.out (by omega) HB4.out.size 0 ⟨d', v, l, sp⟩ HX.out (by show l.length ≤ _; rw [HN1.out]; omega)).mono ?_; rintro e w3 ⟨v3, rfl, ho3, ⟨sv3, hB3⟩, hb3, hk3⟩
            obtain ⟨A3, c3, rfl⟩ := own_form ho3
            rw [HN1.out] at ho3
            simp only [HN1.out]
            have HB5 := hide_ (HB4.out.trans hb3)
            have HBB3 := hide_ hB3; have HO3 := hide_ ho3
            clear hB3 hb3 hk3 ho3
            go_wp2_with fail
            have hle1 : (L2.eraseIdx 0).length < 64 := by
              have h1 := HH2.out.1
              have h2 := HMK.out
              rw [List.length_eraseIdx]
              split <;> omega
            refine (send_any HBB3.out (by omega) HB5.out.size d' A3 n1 c3 l (by omega) (by omega) (by omega) HN1.out (own_nil HO3.out) (Rd.of_own HO3.out) hle1).mono ?_; rintro e w4 ⟨rfl, ⟨sv4, v4, hB4⟩, hb4, _⟩
            have HB6 := hide_ (HB5.out.trans hb4)
            have HBB4 := hide_ hB4
            clear hB4 hb4
            go_wp2_with fail
            go_roundw
            case rel => exact ⟨q + 1, by omega, by go_num, ⟨_, _, HBB4.out, HH2.out.turn HX.out rfl rfl⟩, HB6.out⟩
            case measure => simp [intOf]; omega
          · have hqm : q = F.length * (tm % 4) := by rw [← HMK.out, ← HMM.out]; omega
            have hH3 := hH2
            rw [hqm] at hH3
            have HH2 := hide_ hH3.back; have HB4 := hide_ hb2; have HBB2 := hide_ hB2
            clear hH2 hH3 hB2 hb2 hqm
            go_wp2_with fail
            go_loopw [13, 14] (fun n i wr => ∃ j kk : Nat, j ≤ k ∧ kk = (shorts T j).length ∧ i = .int .i64 j ∧ n = .int .i64 kk ∧ (∃ sv L, BagAt wr w.heap.size p ch sv 64 L ∧ Turned F 0 L) ∧ Below w.heap.size w wr) (fun _ i _ => 40 - (intOf i).toNat)
            case atStart => exact ⟨0, 0, by omega, rfl, rfl, rfl, ⟨_, _, HBB2.out, HH2.out⟩, HB4.out⟩
            case round =>
              obtain ⟨j, kk, hjk, hkk, rfl, rfl, ⟨sv5, L5, hB5, hH5⟩, hb5⟩ := hrel
              by_cases hlt2 : j < k
              · obtain ⟨l, hl⟩ : ∃ l, T[j]? = some l := ⟨T[j]'(by rw [← HTN.out]; omega), List.getElem?_eq_getElem _⟩
                obtain ⟨hnT, b0, o0, rfl, us, hus, hcell, A1, c1, hu, hc1, hcm1, hA1, hR1⟩ := hR3.at_ hl
                clear hnT
                have hcb := hcell 0 (.slice A1 l.length c1) (by rw [hu]; rfl)
                simp only [Nat.mul_one, Nat.add_zero] at hcb
                have hss := shorts_succ hl
                have hat : l.length ≤ 1000 → F[kk]? = some l := fun h => by rw [HF.out, hkk]; exact shorts_at hl h hlt2
                obtain ⟨n1, hn1⟩ : ∃ n1, n1 = l.length := ⟨_, rfl⟩
                rw [← hn1] at hcb hR1 hA1 hss hat
                have hcw := (hb5.cell (cell_lt hcb)).trans hcb
                have hkk40 : kk ≤ 40 := by have := shorts_le T j; omega
                have q5 : (j : Int) < (tn : Int) := by omega
                have q6 : (j : Int) < 40 := by omega
                have q7 : (0 : Int) ≤ (j : Int) := by omega
                have q8 : j < tn := by omega
                have HSS := hide_ hss; have HAT := hide_ hat; have HKK := hide_ hkk
                have HH5 := hide_ hH5; have HBB5 := hide_ hB5; have HB5 := hide_ hb5; have HA1 := hide_ hA1; have HN1 := hide_ hn1.symm; have HR1 := hide_ hR1; have HCB := hide_ hcb
                clear hss hat hkk hH5 hB5 hb5 hcb hcell hus hu hR1 hA1 hn1 hl
                by_cases hlong : 1000 < n1
                · have q9 : 1000 < (n1 : Int) := by omega
                  go_wp2_with fail
                  go_roundw
                  case rel =>
                    have hs := HSS.out
                    rw [if_neg (by omega), List.append_nil] at hs
                    exact ⟨j + 1, kk, by omega, by rw [hs]; exact HKK.out, by go_num, rfl, ⟨_, _, HBB5.out, HH5.out⟩, HB5.out⟩
                  case measure => simp [intOf]; omega
                · have q9 : ¬ 1000 < (n1 : Int) := by omega
                  obtain ⟨v, sp, hx⟩ := HH5.out.at_ (HAT.out (by omega))
                  have HX := hide_ hx
                  clear hx
                  go_wp2_with fail
                  refine (look_any HBB5.out (by omega) kk ⟨kk, v, l, sp⟩ HX.out (by show l.length ≤ _; rw [HN1.out]; omega)).mono ?_; rintro e w3 ⟨v3, rfl, ho3, hb3⟩
                  obtain ⟨A3, c3, rfl⟩ := own_form ho3
                  rw [HN1.out] at ho3
                  simp only [HN1.out]
                  have HB6 := hide_ (HB5.out.trans (hb3.mono HB5.out.size))
                  have HBB6 := hide_ (HBB5.out.later hb3)
                  have hcw3 := (HB6.out.cell (cell_lt HCB.out)).trans HCB.out
                  have hR5 := HR1.out.below HB6.out
                  have lcw := later_drew_cell hcw3
                  have hs3 : ∀ W, Later w3.drew W → (convert 22 9 (.slice A3 n1 c3)).run Try.prog W = .ok (.string ⟨l.toArray⟩) W := fun W hW => run_str_n _ _ 5 c3 HN1.out Try.underlying22 Try.underlying5 Try.underlying9 (own_nil ho3) ((Rd.of_own ho3).drew.below hW)
                  have hs1 : ∀ W, Later w3.drew W → (convert 22 9 (.slice A1 n1 c1)).run Try.prog W = .ok (.string ⟨l.toArray⟩) W := fun W hW => run_str_n _ _ 5 c1 HN1.out Try.underlying22 Try.underlying5 Try.underlying9 HA1.out (hR5.drew.below hW)
                  have hsl := hse l
                  have hkk1 : ((kk : Int) == (kk : Int)) = true := beq_self_eq_true _
                  have hkk2 : ((kk : Int) != (kk : Int)) = false := by simp
                  clear ho3 hb3 hR5 hcw hcw3
                  go_wp2_with fail
                  refine wp_region_k (by kernel_rfl) ?_
                  refine wpAnyK_take 0 (v := ?_) rfl (by kernel_rfl) (by kernel_rfl) (by kernel_rfl) (fun _ _ _ h => h) (by rfl) (by intro W hSw; go_simp; with_reducible rfl) ?_; try simp only [Act.put, List.setIfInBounds_toArray, List.set_cons_zero, List.set_cons_succ]
                  refine wpAnyK_take 1 (v := ?_) rfl (by kernel_rfl) (by kernel_rfl) (by kernel_rfl) (fun _ _ _ h => h) (by rfl) (by intro W hSw; go_simp; with_reducible rfl) ?_; try simp only [Act.put, List.setIfInBounds_toArray, List.set_cons_zero, List.set_cons_succ]
                  refine wpAnyK_take 2 (v := ?_) rfl (by kernel_rfl) (by kernel_rfl) (by kernel_rfl) (fun _ _ _ h => h) (by rfl) (by intro W hSw; go_simp; with_reducible rfl) ?_; try simp only [Act.put, List.setIfInBounds_toArray, List.set_cons_zero, List.set_cons_succ]
                  refine wpAnyK_take 3 (v := ?_) rfl (by kernel_rfl) (by kernel_rfl) (by kernel_rfl) (fun _ _ _ h => h) (by rfl) (by intro W hSw; go_simp; with_reducible rfl) ?_; try simp only [Act.put, List.setIfInBounds_toArray, List.set_cons_zero, List.set_cons_succ]
                  refine wpAnyK_take 4 (v := ?_) rfl (by kernel_rfl) (by kernel_rfl) (by kernel_rfl) (fun _ _ _ h => h) (by rfl) (by intro W hSw; go_simp; with_reducible rfl) ?_; try simp only [Act.put, List.setIfInBounds_toArray, List.set_cons_zero, List.set_cons_succ]
                  refine wpAnyK_take 5 (v := ?_) rfl (by kernel_rfl) (by kernel_rfl) (by kernel_rfl) (fun _ _ _ h => h) (by rfl) (by intro W hSw; go_simp; with_reducible rfl) ?_; try simp only [Act.put, List.setIfInBounds_toArray, List.set_cons_zero, List.set_cons_succ]
                  refine wpAnyK_take 6 (v := ?_) rfl (by kernel_rfl) (by kernel_rfl) (by kernel_rfl) (fun _ _ _ h => h) (by rfl) (by intro W hSw; go_simp; with_reducible rfl) ?_; try simp only [Act.put, List.setIfInBounds_toArray, List.set_cons_zero, List.set_cons_succ]
                  refine wpAnyK_take 7 (v := ?_) rfl (by kernel_rfl) (by kernel_rfl) (by kernel_rfl) (fun _ _ _ h => h) (by rfl) (by intro W hSw; go_simp; with_reducible rfl) ?_; try simp only [Act.put, List.setIfInBounds_toArray, List.set_cons_zero, List.set_cons_succ]
                  refine wpAnyK_take 8 (v := ?_) rfl (by kernel_rfl) (by kernel_rfl) (by kernel_rfl) (fun _ _ _ h => h) (by rfl) (by intro W hSw; go_simp; with_reducible rfl) ?_; try simp only [Act.put, List.setIfInBounds_toArray, List.set_cons_zero, List.set_cons_succ]
                  refine wpAnyK_take 9 (v := ?_) rfl (by kernel_rfl) (by kernel_rfl) (by kernel_rfl) (fun _ _ _ h => h) (by rfl) (by intro W hSw; go_simp; with_reducible rfl) ?_; try simp only [Act.put, List.setIfInBounds_toArray, List.set_cons_zero, List.set_cons_succ]
                  refine wpAnyK_take 10 (v := ?_) rfl (by kernel_rfl) (by kernel_rfl) (by kernel_rfl) (fun _ _ _ h => h) (by rfl) (by intro W hSw; go_simp; with_reducible rfl) ?_; try simp only [Act.put, List.setIfInBounds_toArray, List.set_cons_zero, List.set_cons_succ]
                  refine wpAnyK_take 11 (v := ?_) rfl (by kernel_rfl) (by kernel_rfl) (by kernel_rfl) (fun _ _ _ h => h) (by rfl) (by intro W hSw; go_simp; with_reducible rfl) ?_; try simp only [Act.put, List.setIfInBounds_toArray, List.set_cons_zero, List.set_cons_succ]
                  refine wpAnyK_take 12 (v := ?_) rfl (by kernel_rfl) (by kernel_rfl) (by kernel_rfl) (fun _ _ _ h => h) (by rfl) (by intro W hSw; go_simp; with_reducible rfl) ?_; try simp only [Act.put, List.setIfInBounds_toArray, List.set_cons_zero, List.set_cons_succ]
                  refine wpAnyK_take 13 (v := ?_) rfl (by kernel_rfl) (by kernel_rfl) (by kernel_rfl) (fun _ _ _ h => h) (by rfl) (by intro W hSw; go_simp; with_reducible rfl) ?_; try simp only [Act.put, List.setIfInBounds_toArray, List.set_cons_zero, List.set_cons_succ]
                  refine wpAnyK_take 14 (v := ?_) rfl (by kernel_rfl) (by kernel_rfl) (by kernel_rfl) (fun _ _ _ h => h) (by rfl) (by intro W hSw; go_simp; with_reducible rfl) ?_; try simp only [Act.put, List.setIfInBounds_toArray, List.set_cons_zero, List.set_cons_succ]
                  refine wpAnyK_take 15 (v := ?_) rfl (by kernel_rfl) (by kernel_rfl) (by kernel_rfl) (fun _ _ _ h => h) (by rfl) (by intro W hSw; go_simp; with_reducible rfl) ?_; try simp only [Act.put, List.setIfInBounds_toArray, List.set_cons_zero, List.set_cons_succ]
                  refine wpAnyK_take 16 (v := ?_) rfl (by kernel_rfl) (by kernel_rfl) (by kernel_rfl) (fun _ _ _ h => h) (by rfl) (by intro W hSw; go_simp; with_reducible rfl) ?_; try simp only [Act.put, List.setIfInBounds_toArray, List.set_cons_zero, List.set_cons_succ]
                  refine wpAnyK_done (by kernel_rfl) ?_ _
                  go_wp2_with fail
                  go_roundw
                  case rel =>
                    have hs := HSS.out
                    rw [if_pos (by omega)] at hs
                    exact ⟨j + 1, kk + 1, by omega, by rw [hs, List.length_append, ← HKK.out]; rfl, by go_num, by go_num, ⟨_, _, HBB6.out, HH5.out⟩, HB6.out.drew⟩
                  case measure => simp [intOf]; omega
              · have hj : j = k := by omega
                subst hj
                have hkm : kk = m := by rw [hkk, HMK.out, HF.out]
                have HL5 := hide_ (show L5.length = m from by rw [hH5.1, ← HMK.out])
                have HBB5 := hide_ hB5; have HB5 := hide_ hb5
                have hmm : ((m : Int) == (m : Int)) = true := beq_self_eq_true _
                clear hH5 hB5 hb5 hkk hlt2
                go_wp2_with fail
                refine (len_any HBB5.out).mono ?_; rintro e w3 ⟨rfl, rfl⟩
                rw [HL5.out]
                go_wp2_with fail
                go_ret
                exact ⟨rfl, HB5.out⟩
theorem bagRound_contract (H : Type) (enc : TypeId × Value → H) (W : World) (base : Nat) (args : Array Value) (ds : List (DataW H)) (before : List MemPlace)
    (hval : ∀ (j : Nat) t v, Try.f5.params[j]? = some t → args[j]? = some v → Value.okWide Try.prog W .any base t v)
    (hA : DataW.TrodAll enc Try.prog W 0 (fun _ => true) true Try.f5.params.toList args.toList ds before)
    (hsz : (DataW.weightsEach Try.prog (Try.f5.params.toList ++ Rows.bagRoundSpec.plain.varTypes Try.prog) (ds ++ [])).all (· ≤ reachBytes) = true) :
    Calls Try.prog 5 args W fun e W' => e = .returned (.bool true) ∧ Below W.heap.size W W' := by
  rw [Try.params5] at hA hval hsz
  obtain ⟨v0, vs0, d0, ds0, p0, q0, hargs, rfl, rfl, h0, r0⟩ := trodAll_cons hA
  obtain ⟨v1, vs1, d1, ds1, p1, q1, rfl, rfl, rfl, h1, r1⟩ := trodAll_cons r0
  obtain ⟨rfl, rfl, rfl⟩ := trodAll_nil r1
  obtain rfl : args = #[v0, v1] := by cases args; simp_all
  obtain ⟨T, hT, _⟩ := open_sh (opens_slice (size := 1) Try.underlying34 (by kernel_rfl) (by omega) (opens_bytes Try.underlying22 Try.underlying5 (by kernel_rfl))) Try.underlying34 (hval 0 34 v0 rfl rfl) h0
  obtain ⟨a1, rfl, rfl, rfl, w1⟩ := open_int Try.underlying5 (hval 1 5 v1 rfl rfl) h1
  have b1 : 0 ≤ a1 ∧ a1 ≤ 255 := by simpa [Lit.wf, IntKind.min, IntKind.max, IntKind.signed, IntKind.bits] using w1
  obtain ⟨n, rfl⟩ := Int.eq_ofNat_of_zero_le b1.1
  have hT' := hT
  obtain ⟨A, c, hv, _⟩ := hT
  obtain rfl : v0 = .slice A T.length c := by injection hv
  exact bagRound_walk A c T n (by omega) W hT'

set_option maxRecDepth 100000 in
theorem bagRound_lifted (os : Os) (started : os.Started) (H : Type) (enc : TypeId × Value → H) :
    ReturnsInHanded {} Try.checked os 5 .any (Rows.bagRoundSpec.pre6 enc Try.prog Try.f5 Rows.bagRoundRow.domain false) (Rows.bagRoundSpec.post enc Try.prog Try.f5 false true false false) := by
  refine returnsInHanded_of_change_sized (C := Try.checked) own started (by kernel_rfl) Try.func5
    (ChangeSpec.witness6 (enc := enc) (C := Try.checked) false ⟨#[], #[.slice none 0 0, .int .u8 0], []⟩ 8 (by kernel_rfl) (by kernel_rfl) (by kernel_rfl) (by kernel_rfl)) ?_
  intro W base args ds gs before hval hW _ hsz _
  have hW' := hW
  obtain ⟨p, q, hA0, hV, rfl, hfz, hnd⟩ := hW
  obtain ⟨rfl, rfl⟩ := trodVars_none hV
  have hA : DataW.TrodAll enc Try.prog W 0 (fun _ => true) true Try.f5.params.toList args.toList ds p := hA0
  refine (bagRound_contract H enc W base args ds p hval hA hsz).mono fun e W' ⟨he, hb⟩ => ?_
  subst he
  have hds : ds.length = 2 := by
    rw [Try.params5] at hA
    obtain ⟨v0, vs0, d0, ds0, p0, q0, _, rfl, rfl, _, r0⟩ := trodAll_cons hA
    obtain ⟨v1, vs1, d1, ds1, p1, q1, _, rfl, rfl, _, r1⟩ := trodAll_cons r0
    obtain ⟨_, rfl, rfl⟩ := trodAll_nil r1
    rfl
  have hsh : ∃ d0 d1 : DataW H, ds = [d0, d1] := by
    match ds, hds with
    | [d0, d1], _ => exact ⟨d0, d1, rfl⟩
  obtain ⟨d0, d1, rfl⟩ := hsh
  exact ⟨_, rfl, post_law (s := Rows.bagRoundSpec) laidOut (by kernel_rfl) Try.underlying4 rfl (by kernel_rfl) hW' rfl rfl rfl hb⟩
theorem bagRound_over : Rows.bagRoundRow.holds Try.pinned (OpenSpec.ofChange Rows.bagRoundSpec) :=
  OpenClaim.holds_of_wide 5 Try.f5 rfl rfl rfl rfl rfl rfl rfl ⟨rfl, rfl, rfl, rfl, rfl⟩ rfl rfl rfl rfl rfl (by kernel_rfl) Try.func5 (by kernel_rfl)
    (of_decide_eq_true (by kernel_rfl)) (by unfold Func.isWrapper; first | (rw [if_pos (by decide +kernel)]; kernel_rfl) | (rw [if_neg (by decide +kernel)]; exact ⟨rfl, rfl⟩))
    (fun os started H enc _ => bagRound_lifted os started H enc)
/-- The statement. -/
theorem bagRound_holds : Rows.BagRoundSaid := bagRound_over
end Go.Proofs.Ytglllnpjedlmnaa
