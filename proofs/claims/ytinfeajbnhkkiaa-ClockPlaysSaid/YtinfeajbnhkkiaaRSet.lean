/-
  The document's clock: Set, Pass.
-/
import Derived.Test.YtinfeajbnhkkiaaRClock
namespace Go.Proofs.Ytinfeajbnhkkiaa
open Go.RowKit
set_option linter.unusedVariables false
set_option linter.unusedSimpArgs false
/-- So many are ahead of a bell. -/
theorem while_of {x : Bel} : ∀ {M : List Bel} {k : Nat}, (∀ i y, i < k → M[i]? = some y → bless y x) → (k = M.length ∨ ∃ y, M[k]? = some y ∧ ¬ bless y x) → M.takeWhile (fun y => decide (bless y x)) = M.take k ∧ M.dropWhile (fun y => decide (bless y x)) = M.drop k
  | [], k, _, h => by
    rcases h with h | ⟨y, hy, _⟩
    · simp
    · simp at hy
  | y :: M, 0, _, h => by
    rcases h with h | ⟨z, hz, hn⟩
    · simp at h
    · simp at hz; subst hz
      rw [List.takeWhile_cons_of_neg (by simpa using hn), List.dropWhile_cons_of_neg (by simpa using hn)]; simp
  | y :: M, k + 1, h1, h => by
    have hy : bless y x := h1 0 y (by omega) rfl
    have ih := while_of (x := x) (M := M) (k := k) (fun i z hi hz => h1 (i + 1) z (by omega) (by simpa using hz)) (by
      rcases h with h | ⟨z, hz, hn⟩
      · left; simpa using h
      · right; exact ⟨z, by simpa using hz, hn⟩)
    rw [List.takeWhile_cons_of_pos (by simpa using hy), List.dropWhile_cons_of_pos (by simpa using hy), ih.1, ih.2]
    simp
theorem ins_of {x : Bel} {M : List Bel} {k : Nat} (h1 : ∀ i y, i < k → M[i]? = some y → bless y x) (h2 : k = M.length ∨ ∃ y, M[k]? = some y ∧ ¬ bless y x) : M.take k ++ [x] ++ M.drop k = insB x M := by
  rw [insB_split, (while_of h1 h2).1, (while_of h1 h2).2]; simp
def RSetPost (R : Nat) (t b at_ : Int) (L : List Bel) (w : World) (e : Ending) (w' : World) : Prop :=
  ((b < 0 ∨ 4096 ≤ b) ∧ e = .returned (.int .i64 1) ∧ Later w w') ∨ (0 ≤ b ∧ b < 4096 ∧ at_ < t ∧ e = .returned (.int .i64 7) ∧ Later w w') ∨ (0 ≤ b ∧ b < 4096 ∧ t ≤ at_ ∧ 1099511627776 < at_ ∧ e = .returned (.int .i64 5) ∧ Later w w') ∨
  (0 ≤ b ∧ b < 4096 ∧ t ≤ at_ ∧ at_ ≤ 1099511627776 ∧ e = .returned (.int .i64 0) ∧ RK w' R t (setB b at_ L) ∧ w.grownBy w' (some R))
set_option maxRecDepth 100000 in
set_option maxHeartbeats 8000000 in
theorem rset_any {w : World} {R : Nat} {t : Int} {L : List Bel} (b at_ : Int) (h : RK w R t L) (hn : L.length ≤ 4096) :
    Calls Try.prog 12 #[.pointer (some ⟨R, 0, none⟩), .int .i64 b, .int .i64 at_] w (RSetPost R t b at_ L w) := by
  have HW := hide_ (without_any b h hn)
  obtain ⟨A, n, c, h1, h2, h3, h4, h5, h6⟩ := h
  have H1 := hide_ h1; have HL := hide_ h3
  have m0 := cell_of_row _ _ 0 _ _ (0, 0) h1
  have hRw := theap_lt h1
  have hbl : (butB b L).length ≤ L.length := List.length_filter_le _ _
  clear h1 h2 h3 h5 h6
  by_cases e1 : b < 0
  · go_enter Try.func12, Try.ntmps12
    go_wp2_with fail
    go_ret
    exact .inl ⟨.inl e1, rfl, Later.refl _⟩
  · by_cases e2 : 4096 ≤ b
    · have e3 : 4095 < b := by omega
      go_enter Try.func12, Try.ntmps12
      go_wp2_with fail
      go_ret
      exact .inl ⟨.inr e2, rfl, Later.refl _⟩
    · have b0 : 0 ≤ b := by omega
      have b1 : b < 4096 := by omega
      have e3 : ¬ 4095 < b := by omega
      by_cases e4 : at_ < t
      · go_enter Try.func12, Try.ntmps12
        go_wp2_with fail
        go_ret
        exact .inr (.inl ⟨b0, b1, e4, rfl, Later.refl _⟩)
      · have e4' : t ≤ at_ := by omega
        by_cases e5 : 1099511627776 < at_
        · go_enter Try.func12, Try.ntmps12
          go_wp2_with fail
          go_ret
          exact .inr (.inr (.inl ⟨b0, b1, e4', e5, rfl, Later.refl _⟩))
        · have e5' : at_ ≤ 1099511627776 := by omega
          go_enter Try.func12, Try.ntmps12
          go_wp2_with fail
          refine HW.out.mono ?_; rintro e w1 ⟨⟨g, m, c1, rfl, hm, ho⟩, hb⟩
          obtain ⟨M, hM⟩ : ∃ M, M = butB b L := ⟨_, rfl⟩
          rw [← hM] at hm ho hbl
          have HMM := hide_ hM
          have HO := hide_ ho; have HB := hide_ hb; have HM := hide_ hm; have HRd := hide_ (Rd.of_own ho)
          have hcap := (own_cap2 ho).2
          have hm2 : (m : Int) ≤ 4096 := by omega
          have hmn : m ≤ 4096 := by omega
          have hg : w.heap.size ≤ g := (ho.lt g rfl).1
          have hcm : c1 ≤ maxLen := by
            rcases ho.2 with ⟨h, _⟩ | ⟨g', cap, cur, hv, _, _, hc, hcm, _⟩
            · cases h
            · injection hv with _ _ hv; omega
          have hcm2 : (c1 : Int) ≤ 9223372036854775807 := by unfold maxLen at hcm; omega
          clear hM hm ho hb
          go_wp2_with fail
          go_loop [8] (fun s8 => ∃ k : Nat, k ≤ m ∧ s8 = .int .i64 k ∧ Hid (∀ i y, i < k → M[i]? = some y → bless y (b, at_))) (fun s8 => m - (intOf s8).toNat)
          case atStart => exact ⟨0, Nat.zero_le _, rfl, hide_ (fun i y hi => by omega)⟩
          case round =>
            obtain ⟨k, hk, rfl, HK⟩ := hrel
            have r2 : (k : Int) ≤ 4096 := by omega
            have r3 : (0 : Int) ≤ (k : Int) := by omega
            have hnx : ∀ x, M[k]? = some x → bless x (b, at_) → Hid (∀ i y, i < k + 1 → M[i]? = some y → bless y (b, at_)) := fun x hx hb => hide_ fun i y hi hy => by
              by_cases e : i = k
              · subst e; rw [hx] at hy; injection hy with hy; exact hy ▸ hb
              · exact HK.out i y (by omega) hy
            have HNX := hide_ hnx
            clear hnx
            by_cases hlt : k < m
            · have r1 : (k : Int) < (m : Int) := by omega
              obtain ⟨x, hx⟩ : ∃ x, M[k]? = some x := ⟨_, List.getElem?_eq_getElem (by rw [HM.out]; exact hlt)⟩
              obtain ⟨b2, o2, hA, l0, l1⟩ := HRd.out.bell hx
              injection hA with hA
              injection hA with hA1 hA2
              subst hA1; subst hA2
              simp only [Nat.zero_add] at l0 l1
              by_cases c1' : x.2 < at_
              · have HS := HNX.out x hx (.inl c1')
                clear hx HK HNX
                go_wp2_with fail
                go_round
                case rel => exact ⟨k + 1, by omega, by go_num, HS⟩
                case measure => simp [intOf]; omega
              · by_cases c2 : x.2 = at_ ∧ x.1 < b
                · have HS := HNX.out x hx (.inr c2)
                  have c3 := c2.1; have c4 := c2.2
                  have q1 : (x.2 == at_) = true := by simpa using c3
                  have q2 : decide (x.2 < at_) = false := decide_eq_false c1'
                  clear hx HK HNX c2
                  go_wp2_with fail
                  go_round
                  case rel => exact ⟨k + 1, by omega, by go_num, HS⟩
                  case measure => simp [intOf]; omega
                · have HI := hide_ (ins_of HK.out (.inr ⟨x, hx, fun hb => hb.elim (fun h => c1' h) (fun h => c2 h)⟩))
                  clear hx
                  by_cases c5 : x.2 = at_
                  · have q1 : (x.2 == at_) = true := by simpa using c5
                    have c6 : ¬ x.1 < b := fun h => c2 ⟨c5, h⟩
                    clear c2
                    have hr1 := (HB.out.block R (theap_lt H1.out)).trans H1.out
                    have HR1 := hide_ hr1
                    have hR1 : R < w1.heap.size := theap_lt hr1
                    have HO0 := hide_ (show (w1.alloc (.cells #[] 55)).ownsRow w1.heap.size 55 2 (.slice (some ⟨w1.heap.size, 0, none⟩) 0 0) 0 [] from own_new w1 #[] 55 2 0 w1.heap.size rfl (Nat.zero_le _) (Nat.le_refl _))
                    have HRT := hide_ (show Rd w1 2 (some ⟨g, 0, none⟩) k (brow (M.take k)) by have := HRd.out.take hk; rw [brow, rec_take encL_len] at this; exact this)
                    have HRC1 := hide_ (Rd.cut HRd.out (k := k) (cap := c1) hk hcap)
                    have p1 : (0 + k) * 16 ≤ 140737488355328 := by omega
                    have p2 : 0 + k ≤ maxLen := by unfold maxLen; omega
                    have p3 : w1.heap.size ≤ (w1.alloc (.cells #[] 55)).heap.size := by simp
                    have p4 : (0 + k + 1) * 16 ≤ 140737488355328 := by omega
                    have p5 : 0 + k + 1 ≤ maxLen := by unfold maxLen; omega
                    have p9 : (0 + k + 1 + (m - k)) * 16 ≤ 140737488355328 := by omega
                    have p10 : 0 + k + 1 + (m - k) ≤ maxLen := by unfold maxLen; omega
                    have i6 : (k : Int) ≤ (c1 : Int) := by omega
                    have i7 : k ≤ c1 := by omega
                    have i8 : (k : Int) ≤ (m : Int) := by omega
                    clear HK HNX hr1
                    by_cases i5 : c1 = k
                    · exfalso; omega
                    · have HRC := hide_ (show Rd w1 2 (some ⟨g, k * 2, none⟩) (m - k) (brow (M.drop k)) by have h := HRC1.out; rw [if_neg i5, Option.map_some, add_plain, Nat.zero_add, brow, rec_drop encL_len] at h; exact h)
                      go_wp2_with (first | (at_builtin; go_loud (refine wpList_append_rd _ rfl (.tmp 60) (.tmp 63) 37 rfl w1.heap.size 55 2 16 bellT _ 0 [] rfl HO0.out _ k _ (brow (M.take k)) rfl (HRT.out.alloc _) (brow_one _) p1 p2 p3 (fun h => nomatch h) ?_; intro v2 w2 hown2 hg2 hat2; have HL2 := hide_ (own_grown (Below.alloc (Below.refl _ _) (Nat.le_refl _) _) HO0.out hg2 p3); have HO2 := hide_ hown2; have p6 := HL2.out.size; have p7 : w1.heap.size ≤ (w2.alloc (.cells #[.int .i64 b, .int .i64 at_] 55)).heap.size := (by simp; omega); clear hown2 hg2 hat2)) | (at_builtin; go_loud (refine wpList_append_rd _ rfl (.tmp 65) (.tmp 69) 37 rfl w1.heap.size 55 2 16 bellT _ _ _ rfl (HO2.out.alloc _) _ 1 1 (encL (b, at_)) rfl (Rd.newAt _ #[.int .i64 b, .int .i64 at_] 55 1 2 _ (0, 0) rfl rfl) (encL_one _) p4 p5 p7 (fun h => nomatch h) ?_; intro v3 w3 hown3 hg3 hat3; have HL3 := hide_ (own_grown (Below.alloc HL2.out p6 _) (HO2.out.alloc _) hg3 p7); have HO3 := hide_ hown3; have p8 := HL3.out.size; clear hown3 hg3 hat3)) | (at_builtin; go_loud (refine wpList_append_rd _ rfl (.tmp 72) (.tmp 75) 37 rfl w1.heap.size 55 2 16 bellT _ _ _ rfl HO3.out _ (m - k) _ (brow (M.drop k)) rfl (HRC.out.below HL3.out) (brow_one _) p9 p10 p8 (fun h => nomatch h) ?_; intro v4 w4 hown4 hg4 hat4; have HL4 := hide_ (own_grown HL3.out HO3.out hg4 p8); have HO4 := hide_ hown4; have hr4 := (HL4.out.block R (theap_lt HR1.out)).trans HR1.out; have HR4 := hide_ hr4; have x1 := cell_of_row _ _ 1 _ _ (0, 0) hr4; have f1 := frozen_of_row _ _ 1 _ _ hr4; clear hown4 hg4 hat4 hr4; obtain ⟨A4, c4, rfl⟩ := own_form HO4.out)))
                      go_ret
                      have ho4 := HO4.out
                      rw [List.nil_append, ← brow_snoc, ← brow_append, HI.out] at ho4
                      simp only [Nat.zero_add] at ho4
                      have ho5 := own_put (B := R) (j := 1) (u := .slice A4 (k + 1 + (m - k)) c4) ho4 hR1
                      refine .inr (.inr (.inr ⟨b0, b1, e4', e5', rfl, ⟨A4, k + 1 + (m - k), c4, ?_, ?_, ?_, ?_, ?_, ?_⟩, ?_⟩))
                      · have := heap_setCell_same w4 R 1 _ _ (.slice A4 (k + 1 + (m - k)) c4) HR4.out
                        unfold RAt
                        simpa using this
                      · have h := Rd.of_own ho5
                        rw [HMM.out] at h
                        exact h
                      · have h := (Rd.of_own ho4).1; rw [brow_len] at h; unfold setB; rw [← HMM.out]; omega
                      · have := (own_cap2 ho4).2; omega
                      · intro h; have := (own_cap2 ho4).1 h; omega
                      · intro b9 o9 e; subst e; obtain ⟨g9, c9, e9, hg9⟩ := own_some ho4 (fun h => nomatch h); injection e9 with e9; injection e9 with e9; injection e9 with e9; omega
                      · have hgg := grown_setCell (grown_later (HB.out.trans HL4.out) (some R)) (.inl rfl : (some R : Option Nat) = some R ∨ w.heap.size ≤ R) (o := 1) (.slice A4 (k + 1 + (m - k)) c4)
                        simpa using hgg
                  · have q1 : (x.2 == at_) = false := by simpa using c5
                    clear c2
                    have hr1 := (HB.out.block R (theap_lt H1.out)).trans H1.out
                    have HR1 := hide_ hr1
                    have hR1 : R < w1.heap.size := theap_lt hr1
                    have HO0 := hide_ (show (w1.alloc (.cells #[] 55)).ownsRow w1.heap.size 55 2 (.slice (some ⟨w1.heap.size, 0, none⟩) 0 0) 0 [] from own_new w1 #[] 55 2 0 w1.heap.size rfl (Nat.zero_le _) (Nat.le_refl _))
                    have HRT := hide_ (show Rd w1 2 (some ⟨g, 0, none⟩) k (brow (M.take k)) by have := HRd.out.take hk; rw [brow, rec_take encL_len] at this; exact this)
                    have HRC1 := hide_ (Rd.cut HRd.out (k := k) (cap := c1) hk hcap)
                    have p1 : (0 + k) * 16 ≤ 140737488355328 := by omega
                    have p2 : 0 + k ≤ maxLen := by unfold maxLen; omega
                    have p3 : w1.heap.size ≤ (w1.alloc (.cells #[] 55)).heap.size := by simp
                    have p4 : (0 + k + 1) * 16 ≤ 140737488355328 := by omega
                    have p5 : 0 + k + 1 ≤ maxLen := by unfold maxLen; omega
                    have p9 : (0 + k + 1 + (m - k)) * 16 ≤ 140737488355328 := by omega
                    have p10 : 0 + k + 1 + (m - k) ≤ maxLen := by unfold maxLen; omega
                    have i6 : (k : Int) ≤ (c1 : Int) := by omega
                    have i7 : k ≤ c1 := by omega
                    have i8 : (k : Int) ≤ (m : Int) := by omega
                    clear HK HNX hr1
                    by_cases i5 : c1 = k
                    · exfalso; omega
                    · have HRC := hide_ (show Rd w1 2 (some ⟨g, k * 2, none⟩) (m - k) (brow (M.drop k)) by have h := HRC1.out; rw [if_neg i5, Option.map_some, add_plain, Nat.zero_add, brow, rec_drop encL_len] at h; exact h)
                      go_wp2_with (first | (at_builtin; go_loud (refine wpList_append_rd _ rfl (.tmp 60) (.tmp 63) 37 rfl w1.heap.size 55 2 16 bellT _ 0 [] rfl HO0.out _ k _ (brow (M.take k)) rfl (HRT.out.alloc _) (brow_one _) p1 p2 p3 (fun h => nomatch h) ?_; intro v2 w2 hown2 hg2 hat2; have HL2 := hide_ (own_grown (Below.alloc (Below.refl _ _) (Nat.le_refl _) _) HO0.out hg2 p3); have HO2 := hide_ hown2; have p6 := HL2.out.size; have p7 : w1.heap.size ≤ (w2.alloc (.cells #[.int .i64 b, .int .i64 at_] 55)).heap.size := (by simp; omega); clear hown2 hg2 hat2)) | (at_builtin; go_loud (refine wpList_append_rd _ rfl (.tmp 65) (.tmp 69) 37 rfl w1.heap.size 55 2 16 bellT _ _ _ rfl (HO2.out.alloc _) _ 1 1 (encL (b, at_)) rfl (Rd.newAt _ #[.int .i64 b, .int .i64 at_] 55 1 2 _ (0, 0) rfl rfl) (encL_one _) p4 p5 p7 (fun h => nomatch h) ?_; intro v3 w3 hown3 hg3 hat3; have HL3 := hide_ (own_grown (Below.alloc HL2.out p6 _) (HO2.out.alloc _) hg3 p7); have HO3 := hide_ hown3; have p8 := HL3.out.size; clear hown3 hg3 hat3)) | (at_builtin; go_loud (refine wpList_append_rd _ rfl (.tmp 72) (.tmp 75) 37 rfl w1.heap.size 55 2 16 bellT _ _ _ rfl HO3.out _ (m - k) _ (brow (M.drop k)) rfl (HRC.out.below HL3.out) (brow_one _) p9 p10 p8 (fun h => nomatch h) ?_; intro v4 w4 hown4 hg4 hat4; have HL4 := hide_ (own_grown HL3.out HO3.out hg4 p8); have HO4 := hide_ hown4; have hr4 := (HL4.out.block R (theap_lt HR1.out)).trans HR1.out; have HR4 := hide_ hr4; have x1 := cell_of_row _ _ 1 _ _ (0, 0) hr4; have f1 := frozen_of_row _ _ 1 _ _ hr4; clear hown4 hg4 hat4 hr4; obtain ⟨A4, c4, rfl⟩ := own_form HO4.out)))
                      go_ret
                      have ho4 := HO4.out
                      rw [List.nil_append, ← brow_snoc, ← brow_append, HI.out] at ho4
                      simp only [Nat.zero_add] at ho4
                      have ho5 := own_put (B := R) (j := 1) (u := .slice A4 (k + 1 + (m - k)) c4) ho4 hR1
                      refine .inr (.inr (.inr ⟨b0, b1, e4', e5', rfl, ⟨A4, k + 1 + (m - k), c4, ?_, ?_, ?_, ?_, ?_, ?_⟩, ?_⟩))
                      · have := heap_setCell_same w4 R 1 _ _ (.slice A4 (k + 1 + (m - k)) c4) HR4.out
                        unfold RAt
                        simpa using this
                      · have h := Rd.of_own ho5
                        rw [HMM.out] at h
                        exact h
                      · have h := (Rd.of_own ho4).1; rw [brow_len] at h; unfold setB; rw [← HMM.out]; omega
                      · have := (own_cap2 ho4).2; omega
                      · intro h; have := (own_cap2 ho4).1 h; omega
                      · intro b9 o9 e; subst e; obtain ⟨g9, c9, e9, hg9⟩ := own_some ho4 (fun h => nomatch h); injection e9 with e9; injection e9 with e9; injection e9 with e9; omega
                      · have hgg := grown_setCell (grown_later (HB.out.trans HL4.out) (some R)) (.inl rfl : (some R : Option Nat) = some R ∨ w.heap.size ≤ R) (o := 1) (.slice A4 (k + 1 + (m - k)) c4)
                        simpa using hgg
            · have r1 : ¬ (k : Int) < (m : Int) := by omega
              have HI := hide_ (ins_of HK.out (.inl (by rw [HM.out]; omega)))
              have hr1 := (HB.out.block R (theap_lt H1.out)).trans H1.out
              have HR1 := hide_ hr1
              have hR1 : R < w1.heap.size := theap_lt hr1
              have HO0 := hide_ (show (w1.alloc (.cells #[] 55)).ownsRow w1.heap.size 55 2 (.slice (some ⟨w1.heap.size, 0, none⟩) 0 0) 0 [] from own_new w1 #[] 55 2 0 w1.heap.size rfl (Nat.zero_le _) (Nat.le_refl _))
              have HRT := hide_ (show Rd w1 2 (some ⟨g, 0, none⟩) k (brow (M.take k)) by have := HRd.out.take hk; rw [brow, rec_take encL_len] at this; exact this)
              have HRC1 := hide_ (Rd.cut HRd.out (k := k) (cap := c1) hk hcap)
              have p1 : (0 + k) * 16 ≤ 140737488355328 := by omega
              have p2 : 0 + k ≤ maxLen := by unfold maxLen; omega
              have p3 : w1.heap.size ≤ (w1.alloc (.cells #[] 55)).heap.size := by simp
              have p4 : (0 + k + 1) * 16 ≤ 140737488355328 := by omega
              have p5 : 0 + k + 1 ≤ maxLen := by unfold maxLen; omega
              have p9 : (0 + k + 1 + (m - k)) * 16 ≤ 140737488355328 := by omega
              have p10 : 0 + k + 1 + (m - k) ≤ maxLen := by unfold maxLen; omega
              have i6 : (k : Int) ≤ (c1 : Int) := by omega
              have i7 : k ≤ c1 := by omega
              have i8 : (k : Int) ≤ (m : Int) := by omega
              clear HK HNX hr1
              by_cases i5 : c1 = k
              · have HRC := hide_ (show Rd w1 2 (some ⟨g, 0, none⟩) (m - k) (brow (M.drop k)) by have h := HRC1.out; rw [if_pos i5, brow, rec_drop encL_len] at h; exact h)
                go_wp2_with (first | (at_builtin; go_loud (refine wpList_append_rd _ rfl (.tmp 60) (.tmp 63) 37 rfl w1.heap.size 55 2 16 bellT _ 0 [] rfl HO0.out _ k _ (brow (M.take k)) rfl (HRT.out.alloc _) (brow_one _) p1 p2 p3 (fun h => nomatch h) ?_; intro v2 w2 hown2 hg2 hat2; have HL2 := hide_ (own_grown (Below.alloc (Below.refl _ _) (Nat.le_refl _) _) HO0.out hg2 p3); have HO2 := hide_ hown2; have p6 := HL2.out.size; have p7 : w1.heap.size ≤ (w2.alloc (.cells #[.int .i64 b, .int .i64 at_] 55)).heap.size := (by simp; omega); clear hown2 hg2 hat2)) | (at_builtin; go_loud (refine wpList_append_rd _ rfl (.tmp 65) (.tmp 69) 37 rfl w1.heap.size 55 2 16 bellT _ _ _ rfl (HO2.out.alloc _) _ 1 1 (encL (b, at_)) rfl (Rd.newAt _ #[.int .i64 b, .int .i64 at_] 55 1 2 _ (0, 0) rfl rfl) (encL_one _) p4 p5 p7 (fun h => nomatch h) ?_; intro v3 w3 hown3 hg3 hat3; have HL3 := hide_ (own_grown (Below.alloc HL2.out p6 _) (HO2.out.alloc _) hg3 p7); have HO3 := hide_ hown3; have p8 := HL3.out.size; clear hown3 hg3 hat3)) | (at_builtin; go_loud (refine wpList_append_rd _ rfl (.tmp 72) (.tmp 75) 37 rfl w1.heap.size 55 2 16 bellT _ _ _ rfl HO3.out _ (m - k) _ (brow (M.drop k)) rfl (HRC.out.below HL3.out) (brow_one _) p9 p10 p8 (fun h => nomatch h) ?_; intro v4 w4 hown4 hg4 hat4; have HL4 := hide_ (own_grown HL3.out HO3.out hg4 p8); have HO4 := hide_ hown4; have hr4 := (HL4.out.block R (theap_lt HR1.out)).trans HR1.out; have HR4 := hide_ hr4; have x1 := cell_of_row _ _ 1 _ _ (0, 0) hr4; have f1 := frozen_of_row _ _ 1 _ _ hr4; clear hown4 hg4 hat4 hr4; obtain ⟨A4, c4, rfl⟩ := own_form HO4.out)))
                go_ret
                have ho4 := HO4.out
                rw [List.nil_append, ← brow_snoc, ← brow_append, HI.out] at ho4
                simp only [Nat.zero_add] at ho4
                have ho5 := own_put (B := R) (j := 1) (u := .slice A4 (k + 1 + (m - k)) c4) ho4 hR1
                refine .inr (.inr (.inr ⟨b0, b1, e4', e5', rfl, ⟨A4, k + 1 + (m - k), c4, ?_, ?_, ?_, ?_, ?_, ?_⟩, ?_⟩))
                · have := heap_setCell_same w4 R 1 _ _ (.slice A4 (k + 1 + (m - k)) c4) HR4.out
                  unfold RAt
                  simpa using this
                · have h := Rd.of_own ho5
                  rw [HMM.out] at h
                  exact h
                · have h := (Rd.of_own ho4).1; rw [brow_len] at h; unfold setB; rw [← HMM.out]; omega
                · have := (own_cap2 ho4).2; omega
                · intro h; have := (own_cap2 ho4).1 h; omega
                · intro b9 o9 e; subst e; obtain ⟨g9, c9, e9, hg9⟩ := own_some ho4 (fun h => nomatch h); injection e9 with e9; injection e9 with e9; injection e9 with e9; omega
                · have hgg := grown_setCell (grown_later (HB.out.trans HL4.out) (some R)) (.inl rfl : (some R : Option Nat) = some R ∨ w.heap.size ≤ R) (o := 1) (.slice A4 (k + 1 + (m - k)) c4)
                  simpa using hgg
              · have HRC := hide_ (show Rd w1 2 (some ⟨g, k * 2, none⟩) (m - k) (brow (M.drop k)) by have h := HRC1.out; rw [if_neg i5, Option.map_some, add_plain, Nat.zero_add, brow, rec_drop encL_len] at h; exact h)
                go_wp2_with (first | (at_builtin; go_loud (refine wpList_append_rd _ rfl (.tmp 60) (.tmp 63) 37 rfl w1.heap.size 55 2 16 bellT _ 0 [] rfl HO0.out _ k _ (brow (M.take k)) rfl (HRT.out.alloc _) (brow_one _) p1 p2 p3 (fun h => nomatch h) ?_; intro v2 w2 hown2 hg2 hat2; have HL2 := hide_ (own_grown (Below.alloc (Below.refl _ _) (Nat.le_refl _) _) HO0.out hg2 p3); have HO2 := hide_ hown2; have p6 := HL2.out.size; have p7 : w1.heap.size ≤ (w2.alloc (.cells #[.int .i64 b, .int .i64 at_] 55)).heap.size := (by simp; omega); clear hown2 hg2 hat2)) | (at_builtin; go_loud (refine wpList_append_rd _ rfl (.tmp 65) (.tmp 69) 37 rfl w1.heap.size 55 2 16 bellT _ _ _ rfl (HO2.out.alloc _) _ 1 1 (encL (b, at_)) rfl (Rd.newAt _ #[.int .i64 b, .int .i64 at_] 55 1 2 _ (0, 0) rfl rfl) (encL_one _) p4 p5 p7 (fun h => nomatch h) ?_; intro v3 w3 hown3 hg3 hat3; have HL3 := hide_ (own_grown (Below.alloc HL2.out p6 _) (HO2.out.alloc _) hg3 p7); have HO3 := hide_ hown3; have p8 := HL3.out.size; clear hown3 hg3 hat3)) | (at_builtin; go_loud (refine wpList_append_rd _ rfl (.tmp 72) (.tmp 75) 37 rfl w1.heap.size 55 2 16 bellT _ _ _ rfl HO3.out _ (m - k) _ (brow (M.drop k)) rfl (HRC.out.below HL3.out) (brow_one _) p9 p10 p8 (fun h => nomatch h) ?_; intro v4 w4 hown4 hg4 hat4; have HL4 := hide_ (own_grown HL3.out HO3.out hg4 p8); have HO4 := hide_ hown4; have hr4 := (HL4.out.block R (theap_lt HR1.out)).trans HR1.out; have HR4 := hide_ hr4; have x1 := cell_of_row _ _ 1 _ _ (0, 0) hr4; have f1 := frozen_of_row _ _ 1 _ _ hr4; clear hown4 hg4 hat4 hr4; obtain ⟨A4, c4, rfl⟩ := own_form HO4.out)))
                go_ret
                have ho4 := HO4.out
                rw [List.nil_append, ← brow_snoc, ← brow_append, HI.out] at ho4
                simp only [Nat.zero_add] at ho4
                have ho5 := own_put (B := R) (j := 1) (u := .slice A4 (k + 1 + (m - k)) c4) ho4 hR1
                refine .inr (.inr (.inr ⟨b0, b1, e4', e5', rfl, ⟨A4, k + 1 + (m - k), c4, ?_, ?_, ?_, ?_, ?_, ?_⟩, ?_⟩))
                · have := heap_setCell_same w4 R 1 _ _ (.slice A4 (k + 1 + (m - k)) c4) HR4.out
                  unfold RAt
                  simpa using this
                · have h := Rd.of_own ho5
                  rw [HMM.out] at h
                  exact h
                · have h := (Rd.of_own ho4).1; rw [brow_len] at h; unfold setB; rw [← HMM.out]; omega
                · have := (own_cap2 ho4).2; omega
                · intro h; have := (own_cap2 ho4).1 h; omega
                · intro b9 o9 e; subst e; obtain ⟨g9, c9, e9, hg9⟩ := own_some ho4 (fun h => nomatch h); injection e9 with e9; injection e9 with e9; injection e9 with e9; omega
                · have hgg := grown_setCell (grown_later (HB.out.trans HL4.out) (some R)) (.inl rfl : (some R : Option Nat) = some R ∨ w.heap.size ≤ R) (o := 1) (.slice A4 (k + 1 + (m - k)) c4)
                  simpa using hgg

end Go.Proofs.Ytinfeajbnhkkiaa
