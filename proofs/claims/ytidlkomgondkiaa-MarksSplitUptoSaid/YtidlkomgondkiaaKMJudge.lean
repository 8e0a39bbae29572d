/-
  The program's judge: the verdict on one transaction.
-/
import Derived.Test.YtidlkomgondkiaaKMTxn
namespace Go.Proofs.Ytidlkomgondkiaa
open Go.RowKit
set_option linter.unusedVariables false
set_option linter.unusedSimpArgs false
/-- The verdict on who read these spans at r, of marks L with the floor f. -/
def judgeV (L : List Mk) (f r : Int) (R : List Spn) : Int := if R = [] then 1 else if r < f then 3 else if R.any (fun s => decide (r < lastL L s)) = true then 2 else 1
theorem judgeV_nil (L : List Mk) (f r : Int) : judgeV L f r [] = 1 := rfl
theorem judgeV_late {L : List Mk} {f r : Int} {R : List Spn} (h : R ≠ []) (h2 : r < f) : judgeV L f r R = 3 := by unfold judgeV; rw [if_neg h, if_pos h2]
theorem judgeV_clash {L : List Mk} {f r : Int} {R : List Spn} (h2 : f ≤ r) {s : Spn} (hs : s ∈ R) (h : r < lastL L s) : judgeV L f r R = 2 := by
  unfold judgeV; rw [if_neg (fun e => by rw [e] at hs; cases hs), if_neg (by omega), if_pos]
  rw [List.any_eq_true]; exact ⟨s, hs, decide_eq_true h⟩
theorem judgeV_fine {L : List Mk} {f r : Int} {R : List Spn} (h : R ≠ []) (h2 : f ≤ r) (h3 : ∀ s, s ∈ R → lastL L s ≤ r) : judgeV L f r R = 1 := by
  unfold judgeV; rw [if_neg h, if_neg (by omega), if_neg]
  rw [List.any_eq_true]; rintro ⟨s, hs, h⟩; have := h3 s hs; have := of_decide_eq_true h; omega
set_option maxHeartbeats 2000000 in
theorem judge_any {w : World} {B0 : Nat} {A A2 A3 : Option Addr} {n c m c2 p c3 : Nat} {L : List Mk} {f l r : Int} {R : List Spn} (hm : MarksAt w B0 (.slice A n c) f l) (hr : Rd w 3 A n (mrow L)) (hl : L.length = n) (hn : n ≤ 4398046511104)
    (hR : Rd w 2 A2 m (srow R)) (hRl : R.length = m) (hmm : m ≤ 1048576) (h0 : 0 ≤ r) :
    Calls Try.prog 37 #[.pointer (some ⟨B0, 0, none⟩), .agg #[.int .i64 r, .slice A2 m c2, .slice A3 p c3]] w fun e w' => e = .returned (.int .i64 (judgeV L f r R)) ∧ Later w w' := by
  have HB0 := hide_ (later_alloc w (.cells #[.int .i64 r, .slice A2 m c2, .slice A3 p c3] 32))
  have HM := hide_ hm; have HR := hide_ hr; have HL := hide_ hl; have HRR := hide_ hR; have HRL := hide_ hRl
  have hb1 := heap_alloc_new w (.cells #[.int .i64 r, .slice A2 m c2, .slice A3 p c3] 32)
  obtain ⟨W1, hW1⟩ : ∃ W1, W1 = w.alloc (.cells #[.int .i64 r, .slice A2 m c2, .slice A3 p c3] 32) := ⟨_, rfl⟩
  have HW := hide_ hW1.symm
  rw [← hW1] at HB0 hb1
  have HBX := hide_ hb1
  have t0 := cell_of_row _ _ 0 _ _ (0, 0) hb1
  have t1 := cell_of_row _ _ 1 _ _ (0, 0) hb1
  have m1 := cell_of_row _ _ 1 _ _ (0, 0) ((HB0.out.block B0 (heap_lt0 hm)).trans hm)
  have hmn : (m : Int) ≤ 1048576 := by omega
  clear hm hr hl hR hRl hW1 hb1
  by_cases e0 : m = 0
  · have q0 : ((m : Int) == 0) = true := by simp [e0]
    have HE := hide_ (show R = [] from List.eq_nil_of_length_eq_zero (by rw [HRL.out]; exact e0))
    clear e0
    go_enter Try.func37, Try.ntmps37
    go_wp2_with (first | (rw [HW.out]) | fail)
    go_ret
    exact ⟨by rw [HE.out, judgeV_nil]; rfl, HB0.out⟩
  · have q0 : ((m : Int) == 0) = false := by simp; omega
    have HE := hide_ (show R ≠ [] from fun e => e0 (by rw [← HRL.out, e]; rfl))
    clear e0
    by_cases e1 : r < f
    · have HF := hide_ e1
      go_enter Try.func37, Try.ntmps37
      go_wp2_with (first | (rw [HW.out]) | fail)
      go_quiet (fail)
      go_wp2_with fail
      go_ret
      exact ⟨by rw [judgeV_late HE.out HF.out]; rfl, below_drewN HB0.out nq⟩
    · have e1 : f ≤ r := by omega
      have HF := hide_ e1
      go_enter Try.func37, Try.ntmps37
      go_wp2_with (first | (rw [HW.out]) | fail)
      go_quiet (fail)
      have HBQ := hide_ (below_drewN HB0.out nq)
      have HBXQ := hide_ (show (W1.drewN nq).heap[w.heap.size]? = _ from HBX.out)
      obtain ⟨W2, hW2⟩ : ∃ W2, W2 = W1.drewN nq := ⟨_, rfl⟩
      have HW2 := hide_ hW2
      have t0 : W2.cell? ⟨w.heap.size, 0, none⟩ = some (.int .i64 r) := by rw [hW2]; exact t0
      have t1 : W2.cell? ⟨w.heap.size, 1, none⟩ = some (.slice A2 m c2) := by rw [hW2]; exact t1
      rw [← hW2] at HBQ HBXQ ⊢
      clear hW2 m1
      go_wp2_with fail
      clear t0 t1
      go_loopw [25] (fun s25 wr => ∃ (k : Nat), k ≤ m ∧ s25 = .int .i64 k ∧ Hid (∀ s, s ∈ R.take k → lastL L s ≤ r) ∧ Hid (Later w wr) ∧ Hid (Later W2 wr)) (fun i _ => m - (intOf i).toNat)
      case atStart => exact ⟨0, Nat.zero_le _, rfl, hide_ (by simp), HBQ, hide_ (Later.refl _)⟩
      case round =>
        obtain ⟨k, hk, rfl, HN, HB, HB2⟩ := hrel
        by_cases hlt : k < m
        · have q1 : (k : Int) < (m : Int) := by omega
          have q2 : (k : Int) ≤ 1048576 := by omega
          obtain ⟨s, hs⟩ : ∃ s, R[k]? = some s := ⟨_, List.getElem?_eq_getElem (by rw [HRL.out]; exact hlt)⟩
          obtain ⟨b, o, rfl, l0, l1⟩ := (HRR.out.below HB.out).span hs
          have HS := hide_ hs
          have HT := hide_ (take_snoc hs)
          have ha := later_alloc wr (.cells #[.string s.1, .string s.2] 24)
          have hla := hide_ (last_any (c := c) s (((Later.trans HB.out ha).block B0 (heap_lt0 HM.out)).trans HM.out) ((HR.out.below HB.out).below ha) HL.out hn)
          have hx := (HB2.out.block _ (heap_lt0 HBXQ.out)).trans HBXQ.out
          have HX := hide_ hx
          have HA := hide_ ha
          clear hs hx ha
          go_wp2_with fail
          refine hla.out.mono ?_; rintro e w5 ⟨rfl, hb5⟩
          have x0 := cell_of_row _ _ 0 _ _ (0, 0) ((hb5.block _ (by have := heap_lt0 HX.out; simp; omega)).trans (row_al HX.out (.cells #[.string s.1, .string s.2] 24)))
          have HB5 := hide_ (Later.trans HB.out (Later.trans HA.out hb5))
          have HB25 := hide_ (Later.trans HB2.out (Later.trans HA.out hb5))
          clear hla hb5
          by_cases he : r < lastL L s
          · have he0 : 0 < lastL L s := by omega
            have HE2 := hide_ he
            rw [decide_eq_true he0]
            go_wp2_with fail
            go_ret
            exact ⟨by rw [judgeV_clash HF.out (List.mem_of_getElem? HS.out) HE2.out]; rfl, HB5.out⟩
          · have he : lastL L s ≤ r := by omega
            have HE2 := hide_ he
            by_cases he0 : 0 < lastL L s
            all_goals
              first | rw [decide_eq_true he0] | rw [decide_eq_false he0]
              go_wp2_with fail
              go_roundw
              case rel => exact ⟨k + 1, by omega, by go_num, hide_ (fun t ht => by rw [HT.out] at ht; rcases List.mem_append.1 ht with ht | ht; exact HN.out t ht; rw [List.mem_singleton.1 ht]; exact HE2.out), HB5, HB25⟩
              case measure => simp [intOf]; omega
        · obtain rfl : k = m := by omega
          have HF2 := hide_ (show ∀ s, s ∈ R → lastL L s ≤ r by have := HN.out; rwa [← HRL.out, List.take_length] at this)
          go_wp2_with fail
          go_ret
          exact ⟨by rw [judgeV_fine HE.out HF.out HF2.out]; rfl, HB.out⟩

end Go.Proofs.Ytidlkomgondkiaa
