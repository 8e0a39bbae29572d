/-
  The document's verdict on a transaction.
-/
import Derived.Test.YtidlkomgondkiaaKDLast
namespace Go.Proofs.Ytidlkomgondkiaa
open Go.RowKit
set_option linter.unusedVariables false
set_option linter.unusedSimpArgs false
set_option maxRecDepth 100000 in
set_option maxHeartbeats 4000000 in
theorem dverdict_any {w : World} {B : Nat} {W L : List Mk} {f mo : Int} {A2 A3 : Option Addr} {m c2 p c3 : Nat} {r : Int} {R : List Spn} (h : DM w B W f mo) (hA : Agree L W f) (hM : Marked L) (hf : 0 ≤ f) (hn : W.length ≤ 4096)
    (hR : Rd w 2 A2 m (srow R)) (hRl : R.length = m) (hmm : m ≤ 1048576) (h0 : 0 ≤ r) :
    Calls Try.prog 40 #[.pointer (some ⟨B, 0, none⟩), .agg #[.int .i64 r, .slice A2 m c2, .slice A3 p c3]] w fun e w' => e = .returned (.int .i64 (judgeV L f r R)) ∧ Later w w' := by
  have HB0 := hide_ (later_alloc w (.cells #[.int .i64 r, .slice A2 m c2, .slice A3 p c3] 32))
  have HD := hide_ h; have HRR := hide_ hR; have HRL := hide_ hRl
  have hla := hide_ (fun (s : Spn) (Wx : World) (hx : Later w Wx) => dlast_any s (h.below hx) hA hM hf hn)
  obtain ⟨A, n, c, hma, ho, hl⟩ := h
  have hb1 := heap_alloc_new w (.cells #[.int .i64 r, .slice A2 m c2, .slice A3 p c3] 32)
  obtain ⟨W1, hW1⟩ : ∃ W1, W1 = w.alloc (.cells #[.int .i64 r, .slice A2 m c2, .slice A3 p c3] 32) := ⟨_, rfl⟩
  have HW := hide_ hW1.symm
  rw [← hW1] at HB0 hb1
  have HBX := hide_ hb1
  have t0 := cell_of_row _ _ 0 _ _ (0, 0) hb1
  have t1 := cell_of_row _ _ 1 _ _ (0, 0) hb1
  have m1 := cell_of_row _ _ 1 _ _ (0, 0) ((HB0.out.block B (heap_lt0 hma)).trans hma)
  have kt0 := later_drew_cell t0
  have kt1 := later_drew_cell t1
  have km1 := later_drew_cell m1
  have hmn : (m : Int) ≤ 1048576 := by omega
  have H0 := hide_ h0
  clear hma ho hl hR hRl hW1 hb1 hA hM hf hn h0
  by_cases e0 : m = 0
  · have q0 : ¬ (0 : Int) < (m : Int) := by omega
    have q00 : (decide ((0 : Int) < (m : Int))) = false := decide_eq_false q0
    have q01 : decide (0 < m) = false := decide_eq_false (by omega)
    have HE := hide_ (show R = [] from List.eq_nil_of_length_eq_zero (by rw [HRL.out]; exact e0))
    have HF := hide_ (show R = [] ∨ f ≤ r from .inl HE.out)
    clear e0
    go_enter Try.func40, Try.ntmps40
    go_wp2_with (first | (rw [HW.out]) | fail)
    refine wp_region_k (by kernel_rfl) ?_
    refine wpAnyK_take 0 (v := ?_) rfl (by kernel_rfl) (by kernel_rfl) (by kernel_rfl) (fun _ _ _ h => h) (by rfl) (by intro W hSw; go_simp; with_reducible rfl) ?_; try simp only [Act.put, List.setIfInBounds_toArray, List.set_cons_zero, List.set_cons_succ]
    refine wpAnyK_take 1 (v := ?_) rfl (by kernel_rfl) (by kernel_rfl) (by kernel_rfl) (fun _ _ _ h => h) (by rfl) (by intro W hSw; go_simp; with_reducible rfl) ?_; try simp only [Act.put, List.setIfInBounds_toArray, List.set_cons_zero, List.set_cons_succ]
    refine wpAnyK_take 2 (v := ?_) rfl (by kernel_rfl) (by kernel_rfl) (by kernel_rfl) (fun _ _ _ h => h) (by rfl) (by intro W hSw; go_simp; with_reducible rfl) ?_; try simp only [Act.put, List.setIfInBounds_toArray, List.set_cons_zero, List.set_cons_succ]
    refine wpAnyK_take 3 (v := ?_) rfl (by kernel_rfl) (by kernel_rfl) (by kernel_rfl) (fun _ _ _ h => h) (by rfl) (by intro W hSw; go_simp; with_reducible rfl) ?_; try simp only [Act.put, List.setIfInBounds_toArray, List.set_cons_zero, List.set_cons_succ]
    refine wpAnyK_take 4 (v := ?_) rfl (by kernel_rfl) (by kernel_rfl) (by kernel_rfl) (fun _ _ _ h => h) (by rfl) (by intro W hSw; go_simp; with_reducible rfl) ?_; try simp only [Act.put, List.setIfInBounds_toArray, List.set_cons_zero, List.set_cons_succ]
    refine wpAnyK_skip 5 rfl (by kernel_rfl) (by kernel_rfl) (by kernel_rfl) (fun _ _ _ h => h) (by rfl) ?_; try simp only [Act.put, List.setIfInBounds_toArray, List.set_cons_zero, List.set_cons_succ]
    refine wpAnyK_skip 6 rfl (by kernel_rfl) (by kernel_rfl) (by kernel_rfl) (fun _ _ _ h => h) (by rfl) ?_; try simp only [Act.put, List.setIfInBounds_toArray, List.set_cons_zero, List.set_cons_succ]
    refine wpAnyK_skip 7 rfl (by kernel_rfl) (by kernel_rfl) (by kernel_rfl) (fun _ _ _ h => h) (by rfl) ?_; try simp only [Act.put, List.setIfInBounds_toArray, List.set_cons_zero, List.set_cons_succ]
    refine wpAnyK_skip 8 rfl (by kernel_rfl) (by kernel_rfl) (by kernel_rfl) (fun _ _ _ h => h) (by rfl) ?_; try simp only [Act.put, List.setIfInBounds_toArray, List.set_cons_zero, List.set_cons_succ]
    refine wpAnyK_skip 9 rfl (by kernel_rfl) (by kernel_rfl) (by kernel_rfl) (fun _ _ _ h => h) (by rfl) ?_; try simp only [Act.put, List.setIfInBounds_toArray, List.set_cons_zero, List.set_cons_succ]
    refine wpAnyK_skip 10 rfl (by kernel_rfl) (by kernel_rfl) (by kernel_rfl) (fun _ _ _ h => h) (by rfl) ?_; try simp only [Act.put, List.setIfInBounds_toArray, List.set_cons_zero, List.set_cons_succ]
    refine wpAnyK_skip 11 rfl (by kernel_rfl) (by kernel_rfl) (by kernel_rfl) (fun _ _ _ h => h) (by rfl) ?_; try simp only [Act.put, List.setIfInBounds_toArray, List.set_cons_zero, List.set_cons_succ]
    refine wpAnyK_take 12 (v := ?_) rfl (by kernel_rfl) (by kernel_rfl) (by kernel_rfl) (fun _ _ _ h => h) (by rfl) (by intro W hSw; go_simp; with_reducible rfl) ?_; try simp only [Act.put, List.setIfInBounds_toArray, List.set_cons_zero, List.set_cons_succ]
    refine wpAnyK_done (by kernel_rfl) ?_ _
    clear kt0 kt1 km1 t0 m1 t1
    have HJV := hide_ (show judgeV L f r R = 1 by rw [HE.out]; rfl)
    have HBQ := hide_ (HB0.out.trans (below_drewN (Later.refl _) 1))
    have x1 := cell_of_row _ _ 1 _ _ (0, 0) (show W1.drew.heap[w.heap.size]? = _ from HBX.out)
    go_wp2_with fail
    go_loopw [5] (fun s5 wr => s5 = .int .i64 0 ∧ wr = W1.drew) (fun i _ => 0)
    case atStart => exact ⟨rfl, rfl⟩
    case round =>
      obtain ⟨rfl, rfl⟩ := hrel
      go_wp2_with fail
      go_ret
      exact ⟨by rw [HJV.out]; rfl, HBQ.out⟩
  · have q0 : (0 : Int) < (m : Int) := by omega
    have q00 : (decide ((0 : Int) < (m : Int))) = true := decide_eq_true q0
    have q01 : decide (0 < m) = true := decide_eq_true (by omega)
    have HE := hide_ (show R ≠ [] from fun e => e0 (by rw [← HRL.out, e]; rfl))
    clear e0
    by_cases e1 : r < f
    · have HF := hide_ e1
      go_enter Try.func40, Try.ntmps40
      go_wp2_with (first | (rw [HW.out]) | fail)
      refine wp_region_k (by kernel_rfl) ?_
      refine wpAnyK_take 0 (v := ?_) rfl (by kernel_rfl) (by kernel_rfl) (by kernel_rfl) (fun _ _ _ h => h) (by rfl) (by intro W hSw; go_simp; with_reducible rfl) ?_; try simp only [Act.put, List.setIfInBounds_toArray, List.set_cons_zero, List.set_cons_succ]
      refine wpAnyK_take 1 (v := ?_) rfl (by kernel_rfl) (by kernel_rfl) (by kernel_rfl) (fun _ _ _ h => h) (by rfl) (by intro W hSw; go_simp; with_reducible rfl) ?_; try simp only [Act.put, List.setIfInBounds_toArray, List.set_cons_zero, List.set_cons_succ]
      refine wpAnyK_take 2 (v := ?_) rfl (by kernel_rfl) (by kernel_rfl) (by kernel_rfl) (fun _ _ _ h => h) (by rfl) (by intro W hSw; go_simp; with_reducible rfl) ?_; try simp only [Act.put, List.setIfInBounds_toArray, List.set_cons_zero, List.set_cons_succ]
      refine wpAnyK_take 3 (v := ?_) rfl (by kernel_rfl) (by kernel_rfl) (by kernel_rfl) (fun _ _ _ h => h) (by rfl) (by intro W hSw; go_simp; with_reducible rfl) ?_; try simp only [Act.put, List.setIfInBounds_toArray, List.set_cons_zero, List.set_cons_succ]
      refine wpAnyK_take 4 (v := ?_) rfl (by kernel_rfl) (by kernel_rfl) (by kernel_rfl) (fun _ _ _ h => h) (by rfl) (by intro W hSw; go_simp; with_reducible rfl) ?_; try simp only [Act.put, List.setIfInBounds_toArray, List.set_cons_zero, List.set_cons_succ]
      refine wpAnyK_take 5 (v := ?_) rfl (by kernel_rfl) (by kernel_rfl) (by kernel_rfl) (fun _ _ _ h => h) (by rfl) (by intro W hSw; go_simp; with_reducible rfl) ?_; try simp only [Act.put, List.setIfInBounds_toArray, List.set_cons_zero, List.set_cons_succ]
      refine wpAnyK_take 6 (v := ?_) rfl (by kernel_rfl) (by kernel_rfl) (by kernel_rfl) (fun _ _ _ h => h) (by rfl) (by intro W hSw; go_simp; with_reducible rfl) ?_; try simp only [Act.put, List.setIfInBounds_toArray, List.set_cons_zero, List.set_cons_succ]
      refine wpAnyK_take 7 (v := ?_) rfl (by kernel_rfl) (by kernel_rfl) (by kernel_rfl) (fun _ _ _ h => h) (by rfl) (by intro W hSw; go_simp; with_reducible rfl) ?_; try simp only [Act.put, List.setIfInBounds_toArray, List.set_cons_zero, List.set_cons_succ]
      refine wpAnyK_take 8 (v := ?_) rfl (by kernel_rfl) (by kernel_rfl) (by kernel_rfl) (fun _ _ _ h => h) (by rfl) (by intro W hSw; go_simp; with_reducible rfl) ?_; try simp only [Act.put, List.setIfInBounds_toArray, List.set_cons_zero, List.set_cons_succ]
      refine wpAnyK_take 9 (v := ?_) rfl (by kernel_rfl) (by kernel_rfl) (by kernel_rfl) (fun _ _ _ h => h) (by rfl) (by intro W hSw; go_simp; with_reducible rfl) ?_; try simp only [Act.put, List.setIfInBounds_toArray, List.set_cons_zero, List.set_cons_succ]
      refine wpAnyK_take 10 (v := ?_) rfl (by kernel_rfl) (by kernel_rfl) (by kernel_rfl) (fun _ _ _ h => h) (by rfl) (by intro W hSw; go_simp; with_reducible rfl) ?_; try simp only [Act.put, List.setIfInBounds_toArray, List.set_cons_zero, List.set_cons_succ]
      refine wpAnyK_take 11 (v := ?_) rfl (by kernel_rfl) (by kernel_rfl) (by kernel_rfl) (fun _ _ _ h => h) (by rfl) (by intro W hSw; go_simp; with_reducible rfl) ?_; try simp only [Act.put, List.setIfInBounds_toArray, List.set_cons_zero, List.set_cons_succ]
      refine wpAnyK_take 12 (v := ?_) rfl (by kernel_rfl) (by kernel_rfl) (by kernel_rfl) (fun _ _ _ h => h) (by rfl) (by intro W hSw; go_simp; with_reducible rfl) ?_; try simp only [Act.put, List.setIfInBounds_toArray, List.set_cons_zero, List.set_cons_succ]
      refine wpAnyK_done (by kernel_rfl) ?_ _
      go_wp2_with fail
      go_ret
      exact ⟨by rw [judgeV_late HE.out HF.out]; rfl, HB0.out.trans (below_drewN (Later.refl _) 1)⟩
    · have HF := hide_ (show R = [] ∨ f ≤ r from .inr (by omega))
      go_enter Try.func40, Try.ntmps40
      go_wp2_with (first | (rw [HW.out]) | fail)
      refine wp_region_k (by kernel_rfl) ?_
      refine wpAnyK_take 0 (v := ?_) rfl (by kernel_rfl) (by kernel_rfl) (by kernel_rfl) (fun _ _ _ h => h) (by rfl) (by intro W hSw; go_simp; with_reducible rfl) ?_; try simp only [Act.put, List.setIfInBounds_toArray, List.set_cons_zero, List.set_cons_succ]
      refine wpAnyK_take 1 (v := ?_) rfl (by kernel_rfl) (by kernel_rfl) (by kernel_rfl) (fun _ _ _ h => h) (by rfl) (by intro W hSw; go_simp; with_reducible rfl) ?_; try simp only [Act.put, List.setIfInBounds_toArray, List.set_cons_zero, List.set_cons_succ]
      refine wpAnyK_take 2 (v := ?_) rfl (by kernel_rfl) (by kernel_rfl) (by kernel_rfl) (fun _ _ _ h => h) (by rfl) (by intro W hSw; go_simp; with_reducible rfl) ?_; try simp only [Act.put, List.setIfInBounds_toArray, List.set_cons_zero, List.set_cons_succ]
      refine wpAnyK_take 3 (v := ?_) rfl (by kernel_rfl) (by kernel_rfl) (by kernel_rfl) (fun _ _ _ h => h) (by rfl) (by intro W hSw; go_simp; with_reducible rfl) ?_; try simp only [Act.put, List.setIfInBounds_toArray, List.set_cons_zero, List.set_cons_succ]
      refine wpAnyK_take 4 (v := ?_) rfl (by kernel_rfl) (by kernel_rfl) (by kernel_rfl) (fun _ _ _ h => h) (by rfl) (by intro W hSw; go_simp; with_reducible rfl) ?_; try simp only [Act.put, List.setIfInBounds_toArray, List.set_cons_zero, List.set_cons_succ]
      refine wpAnyK_take 5 (v := ?_) rfl (by kernel_rfl) (by kernel_rfl) (by kernel_rfl) (fun _ _ _ h => h) (by rfl) (by intro W hSw; go_simp; with_reducible rfl) ?_; try simp only [Act.put, List.setIfInBounds_toArray, List.set_cons_zero, List.set_cons_succ]
      refine wpAnyK_take 6 (v := ?_) rfl (by kernel_rfl) (by kernel_rfl) (by kernel_rfl) (fun _ _ _ h => h) (by rfl) (by intro W hSw; go_simp; with_reducible rfl) ?_; try simp only [Act.put, List.setIfInBounds_toArray, List.set_cons_zero, List.set_cons_succ]
      refine wpAnyK_take 7 (v := ?_) rfl (by kernel_rfl) (by kernel_rfl) (by kernel_rfl) (fun _ _ _ h => h) (by rfl) (by intro W hSw; go_simp; with_reducible rfl) ?_; try simp only [Act.put, List.setIfInBounds_toArray, List.set_cons_zero, List.set_cons_succ]
      refine wpAnyK_take 8 (v := ?_) rfl (by kernel_rfl) (by kernel_rfl) (by kernel_rfl) (fun _ _ _ h => h) (by rfl) (by intro W hSw; go_simp; with_reducible rfl) ?_; try simp only [Act.put, List.setIfInBounds_toArray, List.set_cons_zero, List.set_cons_succ]
      refine wpAnyK_take 9 (v := ?_) rfl (by kernel_rfl) (by kernel_rfl) (by kernel_rfl) (fun _ _ _ h => h) (by rfl) (by intro W hSw; go_simp; with_reducible rfl) ?_; try simp only [Act.put, List.setIfInBounds_toArray, List.set_cons_zero, List.set_cons_succ]
      refine wpAnyK_take 10 (v := ?_) rfl (by kernel_rfl) (by kernel_rfl) (by kernel_rfl) (fun _ _ _ h => h) (by rfl) (by intro W hSw; go_simp; with_reducible rfl) ?_; try simp only [Act.put, List.setIfInBounds_toArray, List.set_cons_zero, List.set_cons_succ]
      refine wpAnyK_take 11 (v := ?_) rfl (by kernel_rfl) (by kernel_rfl) (by kernel_rfl) (fun _ _ _ h => h) (by rfl) (by intro W hSw; go_simp; with_reducible rfl) ?_; try simp only [Act.put, List.setIfInBounds_toArray, List.set_cons_zero, List.set_cons_succ]
      refine wpAnyK_take 12 (v := ?_) rfl (by kernel_rfl) (by kernel_rfl) (by kernel_rfl) (fun _ _ _ h => h) (by rfl) (by intro W hSw; go_simp; with_reducible rfl) ?_; try simp only [Act.put, List.setIfInBounds_toArray, List.set_cons_zero, List.set_cons_succ]
      refine wpAnyK_done (by kernel_rfl) ?_ _
      have HBQ := hide_ (HB0.out.trans (below_drewN (Later.refl _) 1))
      have HBXQ := hide_ (show W1.drew.heap[w.heap.size]? = _ from HBX.out)
      clear kt0 kt1 km1 t0 t1 m1
      go_wp2_with fail
      go_loopw [5] (fun s5 wr => ∃ (k : Nat), k ≤ m ∧ s5 = .int .i64 k ∧ Hid (∀ s, s ∈ R.take k → lastL L s ≤ r) ∧ Hid (Later w wr) ∧ Hid (Later W1.drew wr)) (fun i _ => m - (intOf i).toNat)
      case atStart => exact ⟨0, Nat.zero_le _, rfl, hide_ (by simp), HBQ, hide_ (Later.refl _)⟩
      case round =>
        obtain ⟨k, hk, rfl, HN, HB, HB2⟩ := hrel
        have hx := (HB2.out.block _ (heap_lt0 HBXQ.out)).trans HBXQ.out
        have x0 := cell_of_row _ _ 0 _ _ (0, 0) hx
        have x1 := cell_of_row _ _ 1 _ _ (0, 0) hx
        have HX := hide_ hx
        clear hx
        by_cases hlt : k < m
        · have q1 : (k : Int) < (m : Int) := by omega
          have q2 : (k : Int) ≤ 1048576 := by omega
          have q3 : (0 : Int) ≤ (k : Int) := by omega
          obtain ⟨s, hs⟩ : ∃ s, R[k]? = some s := ⟨_, List.getElem?_eq_getElem (by rw [HRL.out]; exact hlt)⟩
          obtain ⟨b, o, rfl, l0, l1⟩ := (HRR.out.below HB.out).span hs
          have HS := hide_ hs
          have HT := hide_ (take_snoc hs)
          have hlx := hide_ (hla.out s wr HB.out)
          clear hs
          go_wp2_with fail
          refine hlx.out.mono ?_; rintro e w5 ⟨rfl, hb5⟩
          have HB5 := hide_ (Later.trans HB.out hb5)
          have HB25 := hide_ (Later.trans HB2.out hb5)
          have x0 := cell_of_row _ _ 0 _ _ (0, 0) ((hb5.block _ (heap_lt0 HX.out)).trans HX.out)
          clear hlx hb5
          by_cases he : r < lastL L s
          · have he0 : 0 < lastL L s := by have := H0.out; omega
            have HE2 := hide_ he
            rw [decide_eq_true he0]
            go_wp2_with fail
            go_ret
            exact ⟨by rw [judgeV_clash (HF.out.elim (fun e => absurd (List.mem_of_getElem? HS.out) (by rw [e]; exact fun h => nomatch h)) id) (List.mem_of_getElem? HS.out) HE2.out]; rfl, HB5.out⟩
          · have he : lastL L s ≤ r := by omega
            have HE2 := hide_ he
            by_cases he0 : 0 < lastL L s
            all_goals
              first | rw [decide_eq_true he0] | rw [decide_eq_false he0]
              go_wp2_with fail
              go_roundw
              case rel => exact ⟨k + 1, by omega, by go_num, hide_ (fun t ht => by rw [HT.out] at ht; rcases List.mem_append.1 ht with ht | ht; exact HN.out t ht; rw [List.mem_singleton.1 ht]; exact HE2.out), HB5, HB25⟩
              case measure => simp [intOf]; omega
        · have q1 : ¬ (k : Int) < (m : Int) := by omega
          obtain rfl : k = m := by omega
          have HF2 := hide_ (show ∀ s, s ∈ R → lastL L s ≤ r by have := HN.out; rwa [← HRL.out, List.take_length] at this)
          go_wp2_with fail
          go_ret
          have HJV := hide_ (show judgeV L f r R = 1 from judgeV_fine HE.out (HF.out.elim (fun e => absurd e HE.out) id) HF2.out)
          exact ⟨by rw [HJV.out]; rfl, HB.out⟩

end Go.Proofs.Ytidlkomgondkiaa
