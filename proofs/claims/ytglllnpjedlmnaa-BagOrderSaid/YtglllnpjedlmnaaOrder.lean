/-
  BagOrder: what is sent comes in its order, if the first one is taken each time. For any texts.
  Conditions: none but the row's own.
-/
import Derived.Test.YtglllnpjedlmnaaSpoil
import Derived.Test.YtglllnpjedlmnaaBagAwake
import Derived.Test.YtglllnpjedlmnaaShape
namespace Go.Proofs.Ytglllnpjedlmnaa
open Go.ChangeShapes Go.WideShapes Go.ChangeAt Go.RowKit
set_option linter.unusedVariables false
set_option linter.unusedSimpArgs false
/-- The letters that hold these texts, from number s on. -/
def Holds (T : List (List UInt8)) (s k : Nat) (L : List Ltr) : Prop := L.length = k ∧ ∀ j x, L[j]? = some x → x.dest = ((s + j : Nat) : Int) ∧ T[s + j]? = some x.text
theorem Holds.nil (T : List (List UInt8)) (s : Nat) : Holds T s 0 [] := ⟨rfl, fun j x h => by cases h⟩
theorem Holds.push {T : List (List UInt8)} {k : Nat} {L : List Ltr} (h : Holds T 0 k L) {l : List UInt8} {v : Value} {d : Int} (hd : d = (k : Int)) (hl : T[k]? = some l) : Holds T 0 (k + 1) (L ++ [⟨d, v, l, false⟩]) := by
  refine ⟨by simp [h.1], fun j x hx => ?_⟩
  rcases Nat.lt_or_ge j L.length with hj | hj
  · rw [List.getElem?_append_left hj] at hx; exact h.2 j x hx
  · rw [List.getElem?_append_right hj] at hx
    have hj0 : j = k := by
      have := (List.getElem?_eq_some_iff.1 hx).1
      simp at this
      have := h.1
      omega
    subst hj0
    rw [show j - L.length = 0 from by have := h.1; omega] at hx
    simp at hx
    subst hx
    exact ⟨by simp [hd], by simpa using hl⟩
theorem Holds.pop {T : List (List UInt8)} {s k : Nat} {L : List Ltr} (h : Holds T s (k + 1) L) : Holds T (s + 1) k (L.eraseIdx 0) := by
  cases L with
  | nil => have := h.1; simp at this
  | cons y L =>
    refine ⟨by have := h.1; simp at this; simpa using this, fun j x hx => ?_⟩
    have := h.2 (j + 1) x (by simpa using hx)
    rw [show s + 1 + j = s + (j + 1) from by omega]
    exact this
set_option maxHeartbeats 2000000 in
theorem bagOrder_walk (A : Option Addr) (c : Nat) (T : List (List UInt8)) (w : World) (hR : SliceSh 1 BytesSh w [.slice A T.length c] T) :
    Calls Try.prog 4 #[.slice A T.length c] w fun e w' => e = .returned (.bool true) ∧ Below w.heap.size w w' := by
  have hse : ∀ l : List UInt8, ((⟨l.toArray⟩ : ByteArray) == ⟨l.toArray⟩) = true := fun l => by show (l.toArray == l.toArray) = true; exact beq_self_eq_true _
  obtain ⟨tn, htn⟩ : ∃ tn, tn = T.length := ⟨_, rfl⟩
  rw [← htn] at hR ⊢
  have HTN := Lib.hid htn
  clear htn
  go_enter Try.func4, Try.ntmps4
  go_wp2_with fail
  refine (new_any 50 (by omega) _).mono ?_; rintro e w1 ⟨p, ch, rfl, hB, hb1⟩; have HB := hide_ hb1; have HBA := hide_ hB; clear hb1 hB
  go_wp2_with fail
  refine (awake_any _).mono ?_; rintro e w2 ⟨rfl, hb⟩; have HB2 := hide_ (HB.out.trans (hb.mono HB.out.size)); have HBA2 := hide_ (HBA.out.later hb); clear hb
  go_wp2_with fail
  go_loopw [5, 6] (fun n i wr => ∃ k m : Nat, k ≤ 60 ∧ k ≤ tn ∧ m ≤ 50 ∧ m ≤ k ∧ (m = k ∨ m = 50) ∧ i = .int .i64 k ∧ n = .int .i64 m ∧ (∃ sv L, BagAt wr w.heap.size p ch sv 50 L ∧ Holds T 0 m L) ∧ Below w.heap.size w wr ∧ (∀ (j : Nat) l, j < m → T[j]? = some l → l.length ≤ 131072)) (fun _ i _ => 60 - (intOf i).toNat)
  case atStart => exact ⟨0, 0, by omega, by omega, by omega, by omega, by omega, rfl, rfl, ⟨_, _, HBA2.out, Holds.nil _ _⟩, HB2.out, fun j l hj => by omega⟩
  case round =>
    obtain ⟨k, m, hk60, hkn, hm50, hmk, hmm, rfl, rfl, ⟨sv, L, hB, hH⟩, hb, hle⟩ := hrel
    by_cases hlt : k < tn ∧ k < 60
    · obtain ⟨h1, h2⟩ := hlt
      obtain ⟨l, hl⟩ : ∃ l, T[k]? = some l := ⟨T[k]'(by rw [← HTN.out]; exact h1), List.getElem?_eq_getElem _⟩
      obtain ⟨hnT, b0, o0, rfl, us, hus, hcell, A1, c1, hu, hc1, hcm1, hA1, hR1⟩ := hR.at_ hl
      clear hnT
      have hcb := hcell 0 (.slice A1 l.length c1) (by rw [hu]; rfl)
      simp only [Nat.mul_one, Nat.add_zero] at hcb
      have hcw := (hb.cell (cell_lt hcb)).trans hcb
      have hRw := hR1.below hb
      have hcb0 := hcb
      have q1 : (k : Int) < (tn : Int) := by omega
      have q2 : (k : Int) < 60 := by omega
      have q0 : (0 : Int) ≤ (k : Int) := by omega
      have HH := hide_ hH; have HBB := hide_ hB; have HLE := hide_ hle; have HMM := hide_ hmm; have HL := hide_ hl; have HB3 := hide_ hb; have HA1 := hide_ hA1
      clear hH hB hle hmm hl hb hcb hcell hus hu hR1 hA1
      obtain ⟨n1, hn1⟩ : ∃ n1, n1 = l.length := ⟨_, rfl⟩
      rw [← hn1] at hcw hRw HA1 hcb0
      have HN1 := hide_ hn1.symm
      clear hn1
      by_cases hlong : 131072 < n1
      · go_wp2_with fail
        refine (send_large HBB.out k A1 n1 c1 (by omega) (by omega) hlong).mono ?_; rintro e w' ⟨rfl, rfl⟩
        go_wp2_with fail
        go_ret
        exact ⟨rfl, HB3.out⟩
      · by_cases hfull : k < 50
        · go_wp2_with fail
          refine (send_any HBB.out (by omega) HB3.out.size k A1 n1 c1 l (by omega) (by omega) (by omega) HN1.out HA1.out hRw (by rw [HH.out.1]; have := HMM.out; omega)).mono ?_; rintro e w3 ⟨rfl, ⟨sv3, v3, hB3⟩, hb3, _⟩
          have HBB3 := hide_ hB3
          have HB4 := hide_ (HB3.out.trans hb3)
          clear hB3
          have hcw3 := (HB4.out.cell (cell_lt hcb0)).trans hcb0
          clear hcb0 hcw hRw
          have q3 : decide ((k : Int) < 50) = true := by rw [decide_eq_true_iff]; omega
          have q4 : decide (131072 < (n1 : Int)) = false := by rw [decide_eq_false_iff_not]; omega
          go_wp2_with fail
          go_roundw
          case rel =>
            have hmk2 : m = k := by have := HMM.out; omega
            subst hmk2
            refine ⟨m + 1, m + 1, by omega, by omega, by omega, by omega, .inl rfl, by go_num, by go_num, ⟨_, _, HBB3.out, HH.out.push rfl HL.out⟩, HB4.out, fun j l2 hj hl2 => ?_⟩
            rcases Nat.lt_or_ge j m with h | h
            · exact HLE.out j l2 h hl2
            · have e : j = m := by omega
              subst e
              rw [HL.out] at hl2; injection hl2 with hl2; subst hl2
              rw [HN1.out]; omega
          case measure => simp [intOf]; omega
        · go_wp2_with fail
          refine (send_full HBB.out k A1 n1 c1 l (by omega) (by omega) (by omega) HN1.out HA1.out hRw (by have := HMM.out; rw [HH.out.1]; omega)).mono ?_; rintro e w3 ⟨rfl, hb3⟩
          have HBB3 := hide_ (HBB.out.later hb3)
          have HB4 := hide_ (HB3.out.trans (hb3.mono HB3.out.size))
          clear hb3
          have hcw3 := (HB4.out.cell (cell_lt hcb0)).trans hcb0
          clear hcb0 hcw hRw
          have q3 : decide ((k : Int) < 50) = false := by rw [decide_eq_false_iff_not]; omega
          have q4 : decide (131072 < (n1 : Int)) = false := by rw [decide_eq_false_iff_not]; omega
          go_wp2_with fail
          go_roundw
          case rel =>
            have hmk2 : m = 50 := by have := HMM.out; omega
            subst hmk2
            exact ⟨k + 1, 50, by omega, by omega, by omega, by omega, .inr rfl, by go_num, rfl, ⟨_, _, HBB3.out, HH.out⟩, HB4.out, HLE.out⟩
          case measure => simp [intOf]; omega
    · have HH := hide_ hH; have HBB := hide_ hB; have HLE := hide_ hle; have HB3 := hide_ hb
      clear hH hB hle hb hmm
      have hR3 := hR
      clear hR
      have hcase : (¬ k < tn ∧ ¬ (k : Int) < (tn : Int)) ∨ ((k < tn ∧ (k : Int) < (tn : Int)) ∧ (¬ k < 60 ∧ ¬ (k : Int) < 60)) := by omega
      have HMK := hide_ (show m ≤ tn from by omega)
      clear hmk hk60 hkn hlt
      rcases hcase with ⟨q1, q3⟩ | ⟨⟨q1, q3⟩, q2, q4⟩
      all_goals
        go_wp2_with fail
        go_loopw [8] (fun i wr => ∃ k2 : Nat, k2 ≤ m ∧ i = .int .i64 k2 ∧ (∃ sv L, BagAt wr w.heap.size p ch sv 50 L ∧ Holds T k2 (m - k2) L) ∧ Below w.heap.size w wr) (fun i _ => m - (intOf i).toNat)
        case atStart => exact ⟨0, by omega, rfl, ⟨_, _, HBB.out, HH.out⟩, HB3.out⟩
        case round =>
          obtain ⟨k2, hk2, rfl, ⟨sv2, L2, hB2, hH2⟩, hb2⟩ := hrel
          by_cases hlt : k2 < m
          · obtain ⟨⟨d, v, l, sp⟩, hx⟩ : ∃ x, L2[0]? = some x := ⟨L2[0]'(by rw [hH2.1]; omega), List.getElem?_eq_getElem _⟩
            obtain ⟨hd, hl⟩ := hH2.2 0 _ hx
            simp only [Nat.add_zero] at hd hl
            subst hd
            have hll := HLE.out k2 l hlt hl
            obtain ⟨hnT, b0, o0, rfl, us, hus, hcell, A1, c1, hu, hc1, hcm1, hA1, hR1⟩ := hR3.at_ hl
            clear hnT
            have hcb := hcell 0 (.slice A1 l.length c1) (by rw [hu]; rfl)
            simp only [Nat.mul_one, Nat.add_zero] at hcb
            obtain ⟨n1, hn1⟩ : ∃ n1, n1 = l.length := ⟨_, rfl⟩
            rw [← hn1] at hcb hR1 hA1 hll
            have HN1 := hide_ hn1.symm
            have HH2 := hide_ hH2; have HB4 := hide_ hb2; have HX := hide_ hx; have HBB2 := hide_ hB2; have HA1 := hide_ hA1
            clear hH2 hb2 hx hl hcell hus hu hB2 hA1 hn1
            have q3 : (k2 : Int) < (m : Int) := by omega
            go_wp2_with fail
            refine (take_any HBB2.out (by omega) HB4.out.size 0 ⟨k2, v, l, sp⟩ HX.out (by show l.length ≤ _; rw [HN1.out]; omega)).mono ?_; rintro e w3 ⟨v3, rfl, ho3, ⟨sv3, hB3⟩, hb3, hk3⟩
            obtain ⟨A3, c3, rfl⟩ := own_form ho3
            rw [HN1.out] at ho3
            simp only [HN1.out]
            have HB5 := hide_ (HB4.out.trans hb3)
            have HBB3 := hide_ hB3
            have hcw := (HB5.out.cell (cell_lt hcb)).trans hcb
            have hR5 := hR1.below HB5.out
            have q5 : (k2 : Int) < (tn : Int) := by have := HMK.out; omega
            have q6 : (0 : Int) ≤ (k2 : Int) := by omega
            have lcw := later_drew_cell hcw
            have hs3 : ∀ W, Later w3.drew W → (convert 22 9 (.slice A3 n1 c3)).run Try.prog W = .ok (.string ⟨l.toArray⟩) W := fun W hW => run_str_n _ _ 5 c3 HN1.out Try.underlying22 Try.underlying5 Try.underlying9 (own_nil ho3) ((Rd.of_own ho3).drew.below hW)
            have hs1 : ∀ W, Later w3.drew W → (convert 22 9 (.slice A1 n1 c1)).run Try.prog W = .ok (.string ⟨l.toArray⟩) W := fun W hW => run_str_n _ _ 5 c1 HN1.out Try.underlying22 Try.underlying5 Try.underlying9 HA1.out (hR5.drew.below hW)
            have hsl := hse l
            have hkk : ((k2 : Int) == (k2 : Int)) = true := beq_self_eq_true _
            have hkk2 : ((k2 : Int) != (k2 : Int)) = false := by simp
            clear ho3 hb3 hk3 hB3 hcb hR1 hR5 hcw hse
            go_wp2_with fail
            refine wp_region_k (by kernel_rfl) ?_
            refine wpAnyK_take 0 (v := ?_) rfl (by kernel_rfl) (by kernel_rfl) (by kernel_rfl) (fun _ _ _ h => h) (by rfl) (by intro W hSw; go_simp; with_reducible rfl) ?_; try simp only [Act.put, List.setIfInBounds_toArray, List.set_cons_zero, List.set_cons_succ]
            refine wpAnyK_take 1 (v := ?_) rfl (by kernel_rfl) (by kernel_rfl) (by kernel_rfl) (fun _ _ _ h => h) (by rfl) (by intro W hSw; go_simp; with_reducible rfl) ?_; try simp only [Act.put, List.setIfInBounds_toArray, List.set_cons_zero, List.set_cons_succ]
            refine wpAnyK_take 2 (v := ?_) rfl (by kernel_rfl) (by kernel_rfl) (by kernel_rfl) (fun _ _ _ h => h) (by rfl) (by intro W hSw; go_simp; with_reducible rfl) ?_; try simp only [Act.put, List.setIfInBounds_toArray, List.set_cons_zero, List.set_cons_succ]
            refine wpAnyK_take 3 (v := ?_) rfl (by kernel_rfl) (by kernel_rfl) (by kernel_rfl) (fun _ _ _ h => h) (by rfl) (by intro W hSw; go_simp; with_reducible rfl) ?_; try simp only [Act.put, List.setIfInBounds_toArray, List.set_cons_zero, List.set_cons_succ]
            refine wpAnyK_take 4 (v := ?_) rfl (by kernel_rfl) (by kernel_rfl) (by kernel_rfl) (fun _ _ _ h => h) (by rfl) (by intro W hSw; go_simp; with_reducible rfl) ?_; try simp only [Act.put, List.setIfInBounds_toArray, List.set_cons_zero, List.set_cons_succ]
            refine wpAnyK_take 5 (v := ?_) rfl (by kernel_rfl) (by kernel_rfl) (by kernel_rfl) (fun _ _ _ h => h) (by rfl) (by intro W hSw; go_simp; with_reducible rfl) ?_; try simp only [Act.put, List.setIfInBounds_toArray, List.set_cons_zero, List.set_cons_succ]
            refine wpAnyK_take 6 (v := ?_) rfl (by kernel_rfl) (by kernel_rfl) (by kernel_rfl) (fun _ _ _ h => h) (by rfl) (by intro W hSw; go_simp; with_reducible rfl) ?_; try simp only [Act.put, List.setIfInBounds_toArray, List.set_cons_zero, List.set_cons_succ]
            refine wpAnyK_take 7 (v := ?_) rfl (by kernel_rfl) (by kernel_rfl) (by kernel_rfl) (fun _ _ _ h => h) (by rfl) (by intro W hSw; go_simp; with_reducible rfl) ?_; try simp only [Act.put, List.setIfInBounds_toArray, List.set_cons_zero, List.set_cons_succ]
            refine wpAnyK_take 8 (v := ?_) rfl (by kernel_rfl) (by kernel_rfl) (by kernel_rfl) (fun _ _ _ h => h) (by rfl) (by intro W hSw; go_simp; with_reducible rfl) ?_; try simp only [Act.put, List.setIfInBounds_toArray, List.set_cons_zero, List.set_cons_succ]
            refine wpAnyK_take 9 (v := ?_) rfl (by kernel_rfl) (by kernel_rfl) (by kernel_rfl) (fun _ _ _ h => h) (by rfl) (by intro W hSw; go_simp; with_reducible rfl) ?_; try simp only [Act.put, List.setIfInBounds_toArray, List.set_cons_zero, List.set_cons_succ]
            refine wpAnyK_take 10 (v := ?_) rfl (by kernel_rfl) (by kernel_rfl) (by kernel_rfl) (fun _ _ _ h => h) (by rfl) (by intro W hSw; go_simp; with_reducible rfl) ?_; try simp only [Act.put, List.setIfInBounds_toArray, List.set_cons_zero, List.set_cons_succ]
            refine wpAnyK_take 11 (v := ?_) rfl (by kernel_rfl) (by kernel_rfl) (by kernel_rfl) (fun _ _ _ h => h) (by rfl) (by intro W hSw; go_simp; with_reducible rfl) ?_; try simp only [Act.put, List.setIfInBounds_toArray, List.set_cons_zero, List.set_cons_succ]
            refine wpAnyK_take 12 (v := ?_) rfl (by kernel_rfl) (by kernel_rfl) (by kernel_rfl) (fun _ _ _ h => h) (by rfl) (by intro W hSw; go_simp; with_reducible rfl) ?_; try simp only [Act.put, List.setIfInBounds_toArray, List.set_cons_zero, List.set_cons_succ]
            refine wpAnyK_take 13 (v := ?_) rfl (by kernel_rfl) (by kernel_rfl) (by kernel_rfl) (fun _ _ _ h => h) (by rfl) (by intro W hSw; go_simp; with_reducible rfl) ?_; try simp only [Act.put, List.setIfInBounds_toArray, List.set_cons_zero, List.set_cons_succ]
            refine wpAnyK_take 14 (v := ?_) rfl (by kernel_rfl) (by kernel_rfl) (by kernel_rfl) (fun _ _ _ h => h) (by rfl) (by intro W hSw; go_simp; with_reducible rfl) ?_; try simp only [Act.put, List.setIfInBounds_toArray, List.set_cons_zero, List.set_cons_succ]
            refine wpAnyK_take 15 (v := ?_) rfl (by kernel_rfl) (by kernel_rfl) (by kernel_rfl) (fun _ _ _ h => h) (by rfl) (by intro W hSw; go_simp; with_reducible rfl) ?_; try simp only [Act.put, List.setIfInBounds_toArray, List.set_cons_zero, List.set_cons_succ]
            refine wpAnyK_take 16 (v := ?_) rfl (by kernel_rfl) (by kernel_rfl) (by kernel_rfl) (fun _ _ _ h => h) (by rfl) (by intro W hSw; go_simp; with_reducible rfl) ?_; try simp only [Act.put, List.setIfInBounds_toArray, List.set_cons_zero, List.set_cons_succ]
            refine wpAnyK_done (by kernel_rfl) ?_ _
            go_wp2_with fail
            go_roundw
            case rel =>
              exact ⟨k2 + 1, by omega, by go_num, ⟨_, _, HBB3.out, by have := HH2.out; rw [show m - k2 = (m - (k2 + 1)) + 1 from by omega] at this; exact this.pop⟩, HB5.out.drew⟩
            case measure => simp [intOf]; omega
          · have hkm : k2 = m := by omega
            subst hkm
            have hL2 : L2 = [] := List.eq_nil_of_length_eq_zero (by rw [hH2.1]; omega)
            subst hL2
            have HBB2 := hide_ hB2; have HB4 := hide_ hb2
            clear hB2 hb2 hH2 hse hR3
            go_wp2_with fail
            refine (take_none HBB2.out 0 (by simp)).mono ?_; rintro e w3 ⟨rfl, rfl⟩
            go_wp2_with fail
            refine (len_any HBB2.out).mono ?_; rintro e w3 ⟨rfl, rfl⟩
            go_wp2_with fail
            refine (send_any HBB2.out (by omega) HB4.out.size 1 none 0 0 [] (by omega) (by omega) (by omega) rfl (fun _ => rfl) (Rd.nil _ _ _) (by simp)).mono ?_; rintro e w3 ⟨rfl, ⟨sv3, v3, hB3⟩, hb3, _⟩
            have HB5 := hide_ (HB4.out.trans hb3)
            clear hB3 hb3
            go_wp2_with fail
            go_ret
            exact ⟨rfl, HB5.out⟩
theorem bagOrder_contract (H : Type) (enc : TypeId × Value → H) (W : World) (base : Nat) (args : Array Value) (ds : List (DataW H)) (before : List MemPlace)
    (hval : ∀ (j : Nat) t v, Try.f4.params[j]? = some t → args[j]? = some v → Value.okWide Try.prog W .any base t v)
    (hA : DataW.TrodAll enc Try.prog W 0 (fun _ => true) true Try.f4.params.toList args.toList ds before)
    (hsz : (DataW.weightsEach Try.prog (Try.f4.params.toList ++ Rows.bagOrderSpec.plain.varTypes Try.prog) (ds ++ [])).all (· ≤ reachBytes) = true) :
    Calls Try.prog 4 args W fun e W' => e = .returned (.bool true) ∧ Below W.heap.size W W' := by
  rw [Try.params4] at hA hval hsz
  obtain ⟨v0, vs0, d0, ds0, p0, q0, hargs, rfl, rfl, h0, r0⟩ := trodAll_cons hA
  obtain ⟨rfl, rfl, rfl⟩ := trodAll_nil r0
  obtain rfl : args = #[v0] := by cases args; simp_all
  obtain ⟨T, hT, _⟩ := open_sh (opens_slice (size := 1) Try.underlying34 (by kernel_rfl) (by omega) (opens_bytes Try.underlying22 Try.underlying5 (by kernel_rfl))) Try.underlying34 (hval 0 34 v0 rfl rfl) h0
  have hT' := hT
  obtain ⟨A, c, hv, _⟩ := hT
  obtain rfl : v0 = .slice A T.length c := by injection hv
  exact bagOrder_walk A c T W hT'

set_option maxRecDepth 100000 in
theorem bagOrder_lifted (os : Os) (started : os.Started) (H : Type) (enc : TypeId × Value → H) :
    ReturnsInHanded {} Try.checked os 4 .any (Rows.bagOrderSpec.pre6 enc Try.prog Try.f4 Rows.bagOrderRow.domain false) (Rows.bagOrderSpec.post enc Try.prog Try.f4 false true false false) := by
  refine returnsInHanded_of_change_sized (C := Try.checked) own started (by kernel_rfl) Try.func4
    (ChangeSpec.witness6 (enc := enc) (C := Try.checked) false ⟨#[], #[.slice none 0 0], []⟩ 8 (by kernel_rfl) (by kernel_rfl) (by kernel_rfl) (by kernel_rfl)) ?_
  intro W base args ds gs before hval hW _ hsz _
  have hW' := hW
  obtain ⟨p, q, hA0, hV, rfl, hfz, hnd⟩ := hW
  obtain ⟨rfl, rfl⟩ := trodVars_none hV
  have hA : DataW.TrodAll enc Try.prog W 0 (fun _ => true) true Try.f4.params.toList args.toList ds p := hA0
  refine (bagOrder_contract H enc W base args ds p hval hA hsz).mono fun e W' ⟨he, hb⟩ => ?_
  subst he
  have hds : ds.length = 1 := by
    rw [Try.params4] at hA
    obtain ⟨v0, vs0, d0, ds0, p0, q0, _, rfl, rfl, _, r0⟩ := trodAll_cons hA
    obtain ⟨_, rfl, rfl⟩ := trodAll_nil r0
    rfl
  have hsh : ∃ d0 : DataW H, ds = [d0] := by
    match ds, hds with
    | [d0], _ => exact ⟨d0, rfl⟩
  obtain ⟨d0, rfl⟩ := hsh
  exact ⟨_, rfl, post_law (s := Rows.bagOrderSpec) laidOut (by kernel_rfl) Try.underlying4 rfl (by kernel_rfl) hW' rfl rfl rfl hb⟩
theorem bagOrder_over : Rows.bagOrderRow.holds Try.pinned (OpenSpec.ofChange Rows.bagOrderSpec) :=
  OpenClaim.holds_of_wide 4 Try.f4 rfl rfl rfl rfl rfl rfl rfl ⟨rfl, rfl, rfl, rfl, rfl⟩ rfl rfl rfl rfl rfl (by kernel_rfl) Try.func4 (by kernel_rfl)
    (of_decide_eq_true (by kernel_rfl)) (by unfold Func.isWrapper; first | (rw [if_pos (by decide +kernel)]; kernel_rfl) | (rw [if_neg (by decide +kernel)]; exact ⟨rfl, rfl⟩))
    (fun os started H enc _ => bagOrder_lifted os started H enc)
/-- The statement. -/
theorem bagOrder_holds : Rows.BagOrderSaid := bagOrder_over
end Go.Proofs.Ytglllnpjedlmnaa
