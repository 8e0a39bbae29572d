/-
  tale.Line: the line of an act.
-/
import Derived.Test.YtjkopohmcabfjaaGreatDoorTLineA
import Derived.Test.YtjkopohmcabfjaaGreatDoorTLineB
namespace Go.Proofs.YtjkopohmcabfjaaGreatDoor
open Go.RowKit
set_option linter.unusedVariables false
set_option linter.unusedSimpArgs false
set_option maxHeartbeats 3000000 in
set_option maxRecDepth 100000 in
theorem line_any {B : Nat} {w : World} (h : Env B w) (x : AV) (hx : x.Ok) : Calls Tryz.prog 17 #[x.val6] w (LinePost x w) := by
  have HE := hide_ h; have HX := hide_ hx
  obtain ⟨kd, a, b, n, key, val⟩ := x
  unfold AV.val6
  obtain ⟨W0, hW0⟩ : ∃ W0, W0 = w.alloc (.cells #[.int .i64 kd, .int .i64 a, .int .i64 b, .int .i64 n, .string ⟨key.toArray⟩, .string ⟨val.toArray⟩] 40) := ⟨_, rfl⟩
  have hrow : W0.heap[w.heap.size]? = some (.cells #[.int .i64 kd, .int .i64 a, .int .i64 b, .int .i64 n, .string ⟨key.toArray⟩, .string ⟨val.toArray⟩] 40 (0, 0)) := by rw [hW0]; exact heap_alloc_new w _
  have hl0 : Later w W0 := by rw [hW0]; exact later_alloc _ _
  have HW0 := hide_ hW0.symm; have HL0 := hide_ hl0; have HROW := hide_ hrow
  have m0 := cell_of_row _ _ 0 _ _ (0, 0) hrow
  have g0 := later_drew_cell m0
  have hkb := hx.kind
  simp only at hkb
  clear h hx hW0 hl0 hrow
  by_cases hk1 : kd < 1
  · have HN := hide_ (show lineF ⟨kd, a, b, n, key, val⟩ = none by unfold lineF; rw [if_neg (by simp only; omega)])
    go_enter Tryz.func17, Tryz.ntmps17
    go_wp2_with (rw [HW0.out])
    refine wp_region_k (by kernel_rfl) ?_
    refine wpAnyK_take 0 (v := ?_) rfl (by kernel_rfl) (by kernel_rfl) (by kernel_rfl) (fun _ _ _ h => h) (by rfl) (by intro W hSw; go_simp; with_reducible rfl) ?_; try simp only [Act.put, List.setIfInBounds_toArray, List.set_cons_zero, List.set_cons_succ]
    refine wpAnyK_take 1 (v := ?_) rfl (by kernel_rfl) (by kernel_rfl) (by kernel_rfl) (fun _ _ _ h => h) (by rfl) (by intro W hSw; go_simp; with_reducible rfl) ?_; try simp only [Act.put, List.setIfInBounds_toArray, List.set_cons_zero, List.set_cons_succ]
    refine wpAnyK_take 2 (v := ?_) rfl (by kernel_rfl) (by kernel_rfl) (by kernel_rfl) (fun _ _ _ h => h) (by rfl) (by intro W hSw; go_simp; with_reducible rfl) ?_; try simp only [Act.put, List.setIfInBounds_toArray, List.set_cons_zero, List.set_cons_succ]
    refine wpAnyK_take 3 (v := ?_) rfl (by kernel_rfl) (by kernel_rfl) (by kernel_rfl) (fun _ _ _ h => h) (by rfl) (by intro W hSw; go_simp; with_reducible rfl) ?_; try simp only [Act.put, List.setIfInBounds_toArray, List.set_cons_zero, List.set_cons_succ]
    refine wpAnyK_skip 4 rfl (by kernel_rfl) (by kernel_rfl) (by kernel_rfl) (fun _ _ _ h => h) (by rfl) ?_; try simp only [Act.put, List.setIfInBounds_toArray, List.set_cons_zero, List.set_cons_succ]
    refine wpAnyK_skip 5 rfl (by kernel_rfl) (by kernel_rfl) (by kernel_rfl) (fun _ _ _ h => h) (by rfl) ?_; try simp only [Act.put, List.setIfInBounds_toArray, List.set_cons_zero, List.set_cons_succ]
    refine wpAnyK_skip 6 rfl (by kernel_rfl) (by kernel_rfl) (by kernel_rfl) (fun _ _ _ h => h) (by rfl) ?_; try simp only [Act.put, List.setIfInBounds_toArray, List.set_cons_zero, List.set_cons_succ]
    refine wpAnyK_skip 7 rfl (by kernel_rfl) (by kernel_rfl) (by kernel_rfl) (fun _ _ _ h => h) (by rfl) ?_; try simp only [Act.put, List.setIfInBounds_toArray, List.set_cons_zero, List.set_cons_succ]
    refine wpAnyK_skip 8 rfl (by kernel_rfl) (by kernel_rfl) (by kernel_rfl) (fun _ _ _ h => h) (by rfl) ?_; try simp only [Act.put, List.setIfInBounds_toArray, List.set_cons_zero, List.set_cons_succ]
    refine wpAnyK_take 9 (v := ?_) rfl (by kernel_rfl) (by kernel_rfl) (by kernel_rfl) (fun _ _ _ h => h) (by rfl) (by intro W hSw; go_simp; with_reducible rfl) ?_; try simp only [Act.put, List.setIfInBounds_toArray, List.set_cons_zero, List.set_cons_succ]
    refine wpAnyK_done (by kernel_rfl) ?_ _
    go_wp2_with fail
    go_ret2
    exact ⟨by rw [HN.out]; rfl, HL0.out.trans (below_drewN (Later.refl _) 1)⟩
  · by_cases hk2 : 17 ≤ kd
    · have HN := hide_ (show lineF ⟨kd, a, b, n, key, val⟩ = none by unfold lineF; rw [if_neg (by simp only; omega)])
      have e1 : decide (kd < 1) = false := decide_eq_false (by omega)
      have e2 : decide (17 ≤ kd) = true := decide_eq_true hk2
      go_enter Tryz.func17, Tryz.ntmps17
      go_wp2_with (rw [HW0.out])
      refine wp_region_k (by kernel_rfl) ?_
      refine wpAnyK_take 0 (v := ?_) rfl (by kernel_rfl) (by kernel_rfl) (by kernel_rfl) (fun _ _ _ h => h) (by rfl) (by intro W hSw; go_simp; with_reducible rfl) ?_; try simp only [Act.put, List.setIfInBounds_toArray, List.set_cons_zero, List.set_cons_succ]
      refine wpAnyK_take 1 (v := ?_) rfl (by kernel_rfl) (by kernel_rfl) (by kernel_rfl) (fun _ _ _ h => h) (by rfl) (by intro W hSw; go_simp; with_reducible rfl) ?_; try simp only [Act.put, List.setIfInBounds_toArray, List.set_cons_zero, List.set_cons_succ]
      refine wpAnyK_take 2 (v := ?_) rfl (by kernel_rfl) (by kernel_rfl) (by kernel_rfl) (fun _ _ _ h => h) (by rfl) (by intro W hSw; go_simp; with_reducible rfl) ?_; try simp only [Act.put, List.setIfInBounds_toArray, List.set_cons_zero, List.set_cons_succ]
      refine wpAnyK_take 3 (v := ?_) rfl (by kernel_rfl) (by kernel_rfl) (by kernel_rfl) (fun _ _ _ h => h) (by rfl) (by intro W hSw; go_simp; with_reducible rfl) ?_; try simp only [Act.put, List.setIfInBounds_toArray, List.set_cons_zero, List.set_cons_succ]
      refine wpAnyK_take 4 (v := ?_) rfl (by kernel_rfl) (by kernel_rfl) (by kernel_rfl) (fun _ _ _ h => h) (by rfl) (by intro W hSw; go_simp; with_reducible rfl) ?_; try simp only [Act.put, List.setIfInBounds_toArray, List.set_cons_zero, List.set_cons_succ]
      refine wpAnyK_take 5 (v := ?_) rfl (by kernel_rfl) (by kernel_rfl) (by kernel_rfl) (fun _ _ _ h => h) (by rfl) (by intro W hSw; go_simp; with_reducible rfl) ?_; try simp only [Act.put, List.setIfInBounds_toArray, List.set_cons_zero, List.set_cons_succ]
      refine wpAnyK_one 6 (by kernel_rfl) rfl (fun K hK => ?_)
      go_simp
      refine (kinds_any _).mono ?_; rintro e w1 ⟨rfl, hw1⟩; have hlk : Later W0.drew w1 := by rw [hw1]; exact later_alloc _ _
      refine hK.out _ _ (by assumption) ?_
      clear hK K; try simp only [Act.put, List.setIfInBounds_toArray, List.set_cons_zero, List.set_cons_succ]
      refine wpAnyK_take 7 (v := ?_) rfl (by kernel_rfl) (by kernel_rfl) (by kernel_rfl) (fun _ _ _ h => h) (by rfl) (by intro W hSw; go_simp; with_reducible rfl) ?_; try simp only [Act.put, List.setIfInBounds_toArray, List.set_cons_zero, List.set_cons_succ]
      refine wpAnyK_take 8 (v := ?_) rfl (by kernel_rfl) (by kernel_rfl) (by kernel_rfl) (fun _ _ _ h => h) (by rfl) (by intro W hSw; go_simp; with_reducible rfl) ?_; try simp only [Act.put, List.setIfInBounds_toArray, List.set_cons_zero, List.set_cons_succ]
      refine wpAnyK_take 9 (v := ?_) rfl (by kernel_rfl) (by kernel_rfl) (by kernel_rfl) (fun _ _ _ h => h) (by rfl) (by intro W hSw; go_simp; with_reducible rfl) ?_; try simp only [Act.put, List.setIfInBounds_toArray, List.set_cons_zero, List.set_cons_succ]
      refine wpAnyK_done (by kernel_rfl) ?_ _
      go_wp2_with fail
      go_ret2
      exact ⟨by rw [HN.out]; rfl, (HL0.out.trans (below_drewN (Later.refl _) 1)).trans hlk⟩
    · obtain ⟨k, rfl⟩ : ∃ k : Nat, kd = (k : Int) := ⟨kd.toNat, by omega⟩
      have k1 : 1 ≤ k := by omega
      have k2 : k ≤ 16 := by omega
      have k3 : (0 : Int) ≤ (k : Int) := by omega
      have k4 : (k : Int) < 17 := by omega
      obtain ⟨KD, hKD⟩ : ∃ KD, KD = kindsT.getD k [] := ⟨_, rfl⟩
      obtain ⟨Wd, hWd⟩ : ∃ Wd, Wd = wordT.getD k [] := ⟨_, rfl⟩
      obtain ⟨Pt, hPt⟩ : ∃ Pt, Pt = partT.getD k [] := ⟨_, rfl⟩
      have hat := kinds_at k1 k2
      have hcut := cut_kind k1 k2
      have hkl : KD.length ≤ 16 := by rw [hKD]; exact kind_len k1 k2
      rw [← hKD] at hat hcut
      rw [← hWd, ← hPt] at hcut
      have HCT := hide_ (show ∀ (W : World) (m : Int), W.cell? ⟨2, 0, none⟩ = some (.int .i64 m) → Calls Tryz.prog 25 #[.string ⟨KD.toArray⟩, .string ⟨#[32]⟩] W fun e w' => e = .returned (.tuple #[.string ⟨Wd.toArray⟩, .string ⟨Pt.toArray⟩, .bool true]) ∧ ∃ n, w' = W.drewN n from fun W m hm => by
        have hc := Tryz.strings_Cut ⟨KD.toArray⟩ ⟨#[32]⟩ m W (by show KD.toArray.size < _; simp; omega) hm
        have ec : Lib.cut (⟨KD.toArray⟩ : ByteArray).data.toList (⟨#[32]⟩ : ByteArray).data.toList = (Wd, Pt, true) := hcut
        rw [ec] at hc; exact hc)
      have HAT := hide_ hat; have HCUT := hide_ hcut; have HWD := hide_ hWd; have HPT := hide_ hPt
      clear hat hcut hKD hWd hPt
      have e1 : decide ((k : Int) < 1) = false := decide_eq_false (by omega)
      have e2 : decide ((17 : Int) ≤ (k : Int)) = false := decide_eq_false (by omega)
      go_enter Tryz.func17, Tryz.ntmps17
      go_wp2_with (rw [HW0.out])
      refine wp_region_k (by kernel_rfl) ?_
      refine wpAnyK_take 0 (v := ?_) rfl (by kernel_rfl) (by kernel_rfl) (by kernel_rfl) (fun _ _ _ h => h) (by rfl) (by intro W hSw; go_simp; with_reducible rfl) ?_; try simp only [Act.put, List.setIfInBounds_toArray, List.set_cons_zero, List.set_cons_succ]
      refine wpAnyK_take 1 (v := ?_) rfl (by kernel_rfl) (by kernel_rfl) (by kernel_rfl) (fun _ _ _ h => h) (by rfl) (by intro W hSw; go_simp; with_reducible rfl) ?_; try simp only [Act.put, List.setIfInBounds_toArray, List.set_cons_zero, List.set_cons_succ]
      refine wpAnyK_take 2 (v := ?_) rfl (by kernel_rfl) (by kernel_rfl) (by kernel_rfl) (fun _ _ _ h => h) (by rfl) (by intro W hSw; go_simp; with_reducible rfl) ?_; try simp only [Act.put, List.setIfInBounds_toArray, List.set_cons_zero, List.set_cons_succ]
      refine wpAnyK_take 3 (v := ?_) rfl (by kernel_rfl) (by kernel_rfl) (by kernel_rfl) (fun _ _ _ h => h) (by rfl) (by intro W hSw; go_simp; with_reducible rfl) ?_; try simp only [Act.put, List.setIfInBounds_toArray, List.set_cons_zero, List.set_cons_succ]
      refine wpAnyK_take 4 (v := ?_) rfl (by kernel_rfl) (by kernel_rfl) (by kernel_rfl) (fun _ _ _ h => h) (by rfl) (by intro W hSw; go_simp; with_reducible rfl) ?_; try simp only [Act.put, List.setIfInBounds_toArray, List.set_cons_zero, List.set_cons_succ]
      refine wpAnyK_take 5 (v := ?_) rfl (by kernel_rfl) (by kernel_rfl) (by kernel_rfl) (fun _ _ _ h => h) (by rfl) (by intro W hSw; go_simp; with_reducible rfl) ?_; try simp only [Act.put, List.setIfInBounds_toArray, List.set_cons_zero, List.set_cons_succ]
      refine wpAnyK_one 6 (by kernel_rfl) rfl (fun K hK => ?_)
      go_simp
      refine (kinds_any _).mono ?_; rintro e w1 ⟨rfl, hw1⟩; have hlk : Later W0.drew w1 := by rw [hw1]; exact later_alloc _ _
      refine hK.out _ _ (by assumption) ?_
      clear hK K; try simp only [Act.put, List.setIfInBounds_toArray, List.set_cons_zero, List.set_cons_succ]
      refine wpAnyK_take 7 (v := ?_) rfl (by kernel_rfl) (by kernel_rfl) (by kernel_rfl) (fun _ _ _ h => h) (by rfl) (by intro W hSw; go_simp; with_reducible rfl) ?_; try simp only [Act.put, List.setIfInBounds_toArray, List.set_cons_zero, List.set_cons_succ]
      refine wpAnyK_take 8 (v := ?_) rfl (by kernel_rfl) (by kernel_rfl) (by kernel_rfl) (fun _ _ _ h => h) (by rfl) (by intro W hSw; go_simp; with_reducible rfl) ?_; try simp only [Act.put, List.setIfInBounds_toArray, List.set_cons_zero, List.set_cons_succ]
      refine wpAnyK_take 9 (v := ?_) rfl (by kernel_rfl) (by kernel_rfl) (by kernel_rfl) (fun _ _ _ h => h) (by rfl) (by intro W hSw; go_simp; with_reducible rfl) ?_; try simp only [Act.put, List.setIfInBounds_toArray, List.set_cons_zero, List.set_cons_succ]
      refine wpAnyK_done (by kernel_rfl) ?_ _
      have HL1 := hide_ ((HL0.out.trans (below_drewN (Later.refl _) 1)).trans hlk)
      have HROW1 := hide_ ((hlk.block _ (theap_lt HROW.out)).trans HROW.out)
      have n0 := cell_of_row _ _ 0 _ _ (0, 0) HROW1.out
      have q0 := later_drew_cell n0
      have HE1 := hide_ (HE.out.later HL1.out)
      clear hw1 hlk g0 m0
      go_wp2_with fail
      refine wp_region_k (by kernel_rfl) ?_
      refine wpAnyK_take 1 (v := ?_) rfl (by kernel_rfl) (by kernel_rfl) (by kernel_rfl) (fun _ _ _ h => h) (by rfl) (by intro W hSw; go_simp; with_reducible rfl) ?_; try simp only [Act.put, List.setIfInBounds_toArray, List.set_cons_zero, List.set_cons_succ]
      refine wpAnyK_take 2 (v := ?_) rfl (by kernel_rfl) (by kernel_rfl) (by kernel_rfl) (fun _ _ _ h => h) (by rfl) (by intro W hSw; go_simp; with_reducible rfl) ?_; try simp only [Act.put, List.setIfInBounds_toArray, List.set_cons_zero, List.set_cons_succ]
      refine wpAnyK_one 0 (by kernel_rfl) rfl (fun K hK => ?_)
      go_simp
      refine (kinds_any _).mono ?_; rintro e w2 ⟨rfl, hw2⟩; have hlk : Later w1.drew w2 := (by rw [hw2]; exact later_alloc _ _); have hkr : w2.heap[w1.heap.size]? = some (.cells (kindsT.map strV).toArray 9 (0, 0)) := (by rw [hw2]; exact heap_alloc_new _ _); have hkc : w2.cell? ⟨w1.heap.size, k, none⟩ = some (.string ⟨KD.toArray⟩) := (by rw [cell_of_row _ _ k _ _ _ hkr, List.getElem?_toArray]; exact HAT.out); have q1 := later_cell hkc; have HEK := hide_ (HE1.out.later ((below_drewN (Later.refl w1) 1).trans hlk)); clear hkr hw2
      refine hK.out _ _ (by assumption) ?_
      clear hK K; try simp only [Act.put, List.setIfInBounds_toArray, List.set_cons_zero, List.set_cons_succ]
      refine wpAnyK_take 3 (v := ?_) rfl (by kernel_rfl) (by kernel_rfl) (by kernel_rfl) (fun _ _ _ h => h) (by rfl) (by intro W hSw; go_simp; with_reducible rfl) ?_; try simp only [Act.put, List.setIfInBounds_toArray, List.set_cons_zero, List.set_cons_succ]
      refine wpAnyK_take 4 (v := ?_) rfl (by kernel_rfl) (by kernel_rfl) (by kernel_rfl) (fun _ _ _ h => h) (by rfl) (by intro W hSw; go_simp; with_reducible rfl) ?_; try simp only [Act.put, List.setIfInBounds_toArray, List.set_cons_zero, List.set_cons_succ]
      refine wpAnyK_one 5 (by kernel_rfl) rfl (fun K hK => ?_)
      go_simp
      obtain ⟨mm, _, hmm⟩ := HEK.out.most; refine (HCT.out w2 mm hmm).mono ?_; rintro e w3 ⟨rfl, nd, hw3⟩; have hlc : Later w2 w3 := (by rw [hw3]; exact below_drewN (Later.refl _) nd)
      refine hK.out _ _ (by assumption) ?_
      clear hK K; try simp only [Act.put, List.setIfInBounds_toArray, List.set_cons_zero, List.set_cons_succ]
      refine wpAnyK_take 6 (v := ?_) rfl (by kernel_rfl) (by kernel_rfl) (by kernel_rfl) (fun _ _ _ h => h) (by rfl) (by intro W hSw; go_simp; with_reducible rfl) ?_; try simp only [Act.put, List.setIfInBounds_toArray, List.set_cons_zero, List.set_cons_succ]
      refine wpAnyK_take 7 (v := ?_) rfl (by kernel_rfl) (by kernel_rfl) (by kernel_rfl) (fun _ _ _ h => h) (by rfl) (by intro W hSw; go_simp; with_reducible rfl) ?_; try simp only [Act.put, List.setIfInBounds_toArray, List.set_cons_zero, List.set_cons_succ]
      refine wpAnyK_take 8 (v := ?_) rfl (by kernel_rfl) (by kernel_rfl) (by kernel_rfl) (fun _ _ _ h => h) (by rfl) (by intro W hSw; go_simp; with_reducible rfl) ?_; try simp only [Act.put, List.setIfInBounds_toArray, List.set_cons_zero, List.set_cons_succ]
      refine wpAnyK_take 9 (v := ?_) rfl (by kernel_rfl) (by kernel_rfl) (by kernel_rfl) (fun _ _ _ h => h) (by rfl) (by intro W hSw; go_simp; with_reducible rfl) ?_; try simp only [Act.put, List.setIfInBounds_toArray, List.set_cons_zero, List.set_cons_succ]
      refine wpAnyK_take 10 (v := ?_) rfl (by kernel_rfl) (by kernel_rfl) (by kernel_rfl) (fun _ _ _ h => h) (by rfl) (by intro W hSw; go_simp; with_reducible rfl) ?_; try simp only [Act.put, List.setIfInBounds_toArray, List.set_cons_zero, List.set_cons_succ]
      refine wpAnyK_take 11 (v := ?_) rfl (by kernel_rfl) (by kernel_rfl) (by kernel_rfl) (fun _ _ _ h => h) (by rfl) (by intro W hSw; go_simp; with_reducible rfl) ?_; try simp only [Act.put, List.setIfInBounds_toArray, List.set_cons_zero, List.set_cons_succ]
      refine wpAnyK_take 12 (v := ?_) rfl (by kernel_rfl) (by kernel_rfl) (by kernel_rfl) (fun _ _ _ h => h) (by rfl) (by intro W hSw; go_simp; with_reducible rfl) ?_; try simp only [Act.put, List.setIfInBounds_toArray, List.set_cons_zero, List.set_cons_succ]
      refine wpAnyK_done (by kernel_rfl) ?_ _
      have HL3 := hide_ ((HL1.out.trans ((below_drewN (Later.refl w1) 1).trans hlk)).trans hlc)
      have HROW3 := hide_ (later_row hlc (later_row hlk HROW1.out))
      have HE3 := hide_ (HE.out.later HL3.out)
      have c0 := later_drew_cell (cell_of_row _ _ 0 _ _ (0, 0) HROW3.out); have c1 := later_drew_cell (cell_of_row _ _ 1 _ _ (0, 0) HROW3.out); have c2 := later_drew_cell (cell_of_row _ _ 2 _ _ (0, 0) HROW3.out)
      have c3 := later_drew_cell (cell_of_row _ _ 3 _ _ (0, 0) HROW3.out); have c4 := later_drew_cell (cell_of_row _ _ 4 _ _ (0, 0) HROW3.out); have c5 := later_drew_cell (cell_of_row _ _ 5 _ _ (0, 0) HROW3.out)
      clear hw3 hlk hlc q0 q1 hkc n0 e1 e2 HROW1 HL1 HE1 HEK HROW HL0 HW0 HCT HAT
      go_wp2_with fail
      apply wp_cut2 (F := fun bs d W => Later w3 W ∧ w3.heap.size ≤ bs ∧ w3.heap.size ≤ d ∧ bs ≠ d ∧ W.heap[bs]? = some (.cells #[.string ⟨Wd.toArray⟩] 9 (0, 0)) ∧ W.heap[d]? = some (.cells #[.int .i64 k, .int .i64 a, .int .i64 b, .int .i64 n, .string ⟨key.toArray⟩, .string ⟨val.toArray⟩] 40 (0, 0)))
      case h1 =>
        refine wp_region_l [5] (by kernel_rfl) ?_
        refine wpAnyL_pure 0 (v := ?_) rfl (by kernel_rfl) (by kernel_rfl) (by kernel_rfl) (fun _ _ _ h => h) (by rfl) (by intro W; go_simp; with_reducible rfl) ?_; try simp only [Act.put, List.setIfInBounds_toArray, List.set_cons_zero, List.set_cons_succ]
        refine wpAnyL_take 2 (v := ?_) rfl (by kernel_rfl) (by kernel_rfl) (by kernel_rfl) (by kernel_rfl) (fun _ _ _ h => h) (by rfl) (by intro W hSw; go_simp; with_reducible rfl) ?_; try simp only [Act.put, List.setIfInBounds_toArray, List.set_cons_zero, List.set_cons_succ]
        refine wpAnyL_two 1 3 (by kernel_rfl) rfl rfl (fun K hK => ?_) (fun K hK => ?_)
        · skip
          go_simp
          first | refine hK.out _ _ (by assumption) ?_ | refine hK.out _ _ (Later.refl _) ?_ | refine hK.out _ _ (Below.alloc (Below.refl _ _) (Nat.le_refl _) _) ?_
          clear hK K; try simp only [Act.put, List.setIfInBounds_toArray, List.set_cons_zero, List.set_cons_succ]
          refine wpAnyL_one 3 (by kernel_rfl) rfl (fun K hK => ?_)
          go_simp
          first | refine hK.out _ _ (by assumption) ?_ | refine hK.out _ _ (Later.refl _) ?_ | refine hK.out _ _ (Below.alloc (Below.refl _ _) (Nat.le_refl _) _) ?_
          clear hK K; try simp only [Act.put, List.setIfInBounds_toArray, List.set_cons_zero, List.set_cons_succ]
          refine wpAnyL_pure 4 (v := ?_) rfl (by kernel_rfl) (by kernel_rfl) (by kernel_rfl) (fun _ _ _ h => h) (by rfl) (by intro W; go_simp; with_reducible rfl) ?_; try simp only [Act.put, List.setIfInBounds_toArray, List.set_cons_zero, List.set_cons_succ]
          refine wpAnyL_loud 5 (by kernel_rfl) (by rfl) rfl (fun K hK => ?_)
          go_simp
          refine hK.out _ _ ?_
          clear hK K; try simp only [Act.put, List.setIfInBounds_toArray, List.set_cons_zero, List.set_cons_succ]
          refine wpAnyL_done (by kernel_rfl) ?_ _
          (first | (have hF := two_ab w3 (.cells #[.string ⟨Wd.toArray⟩] 9) (.cells #[.int .i64 k, .int .i64 a, .int .i64 b, .int .i64 n, .string ⟨key.toArray⟩, .string ⟨val.toArray⟩] 40); generalize hS1 : w3.heap.size + 1 = S1 at hF ⊢; generalize hS0 : w3.heap.size = S0 at hF ⊢; exact cut_leaf2 S0 S1 rfl hF) | (have hF := two_ba w3 (.cells #[.string ⟨Wd.toArray⟩] 9) (.cells #[.int .i64 k, .int .i64 a, .int .i64 b, .int .i64 n, .string ⟨key.toArray⟩, .string ⟨val.toArray⟩] 40); generalize hS1 : w3.heap.size + 1 = S1 at hF ⊢; generalize hS0 : w3.heap.size = S0 at hF ⊢; exact cut_leaf2 S1 S0 rfl hF))
        · skip
          go_simp
          first | refine hK.out _ _ (by assumption) ?_ | refine hK.out _ _ (Later.refl _) ?_ | refine hK.out _ _ (Below.alloc (Below.refl _ _) (Nat.le_refl _) _) ?_
          clear hK K; try simp only [Act.put, List.setIfInBounds_toArray, List.set_cons_zero, List.set_cons_succ]
          refine wpAnyL_one 1 (by kernel_rfl) rfl (fun K hK => ?_)
          go_simp
          first | refine hK.out _ _ (by assumption) ?_ | refine hK.out _ _ (Later.refl _) ?_ | refine hK.out _ _ (Below.alloc (Below.refl _ _) (Nat.le_refl _) _) ?_
          clear hK K; try simp only [Act.put, List.setIfInBounds_toArray, List.set_cons_zero, List.set_cons_succ]
          refine wpAnyL_pure 4 (v := ?_) rfl (by kernel_rfl) (by kernel_rfl) (by kernel_rfl) (fun _ _ _ h => h) (by rfl) (by intro W; go_simp; with_reducible rfl) ?_; try simp only [Act.put, List.setIfInBounds_toArray, List.set_cons_zero, List.set_cons_succ]
          refine wpAnyL_loud 5 (by kernel_rfl) (by rfl) rfl (fun K hK => ?_)
          go_simp
          refine hK.out _ _ ?_
          clear hK K; try simp only [Act.put, List.setIfInBounds_toArray, List.set_cons_zero, List.set_cons_succ]
          refine wpAnyL_done (by kernel_rfl) ?_ _
          (first | (have hF := two_ab w3 (.cells #[.string ⟨Wd.toArray⟩] 9) (.cells #[.int .i64 k, .int .i64 a, .int .i64 b, .int .i64 n, .string ⟨key.toArray⟩, .string ⟨val.toArray⟩] 40); generalize hS1 : w3.heap.size + 1 = S1 at hF ⊢; generalize hS0 : w3.heap.size = S0 at hF ⊢; exact cut_leaf2 S0 S1 rfl hF) | (have hF := two_ba w3 (.cells #[.string ⟨Wd.toArray⟩] 9) (.cells #[.int .i64 k, .int .i64 a, .int .i64 b, .int .i64 n, .string ⟨key.toArray⟩, .string ⟨val.toArray⟩] 40); generalize hS1 : w3.heap.size + 1 = S1 at hF ⊢; generalize hS0 : w3.heap.size = S0 at hF ⊢; exact cut_leaf2 S1 S0 rfl hF))
      case h2 =>
        rintro bs d W4 ⟨hl4, hbs, hd, hne, hrow4, hact4⟩
        have HBS := hide_ hrow4; have HD := hide_ hact4; have HL4 := hide_ hl4
        have d0 := cell_of_row _ _ 0 _ _ (0, 0) hact4
        have f0 := frozen_of_row _ _ 0 _ _ hact4
        obtain ⟨X, hX⟩ : ∃ X : AV, X = ⟨k, a, b, n, key, val⟩ := ⟨_, rfl⟩
        have hd5 := heap_setCell_same W4 d 0 _ _ (.int .i64 0) hact4
        have hs5 : (W4.setCell ⟨d, 0, none⟩ (.int .i64 0)).heap.size = W4.heap.size := by simp [World.setCell]
        have hb5 := (Below.heap_setCell W4 ⟨d, 0, none⟩ (.int .i64 0) bs hne).trans hrow4
        have hl5 : Below w3.heap.size w3 (W4.setCell ⟨d, 0, none⟩ (.int .i64 0)) := hl4.setCell hd _
        obtain ⟨W5, hW5⟩ : ∃ W5, W5 = W4.setCell ⟨d, 0, none⟩ (.int .i64 0) := ⟨_, rfl⟩
        rw [← hW5] at hd5 hs5 hb5 hl5
        have HW5 := hide_ hW5.symm
        have HD5 := hide_ hd5; have HBS5 := hide_ hb5; have HL5 := hide_ hl5
        clear hrow4 hact4 hl4 hd5 hb5 hl5 hW5
        go_wp2_with (rw [HW5.out])
        have hiter := World.iter_heap W5 ⟨Pt.toArray⟩ 0
        obtain ⟨W6, hW6⟩ : ∃ W6, W6 = W5.iter ⟨Pt.toArray⟩ 0 := ⟨_, rfl⟩
        have hl6 : Later W5 W6 := by rw [hW6]; exact later_alloc _ _
        rw [← hW6] at hiter
        obtain ⟨it, hit⟩ : ∃ it, it = W4.heap.size := ⟨_, rfl⟩
        rw [hs5, ← hit] at hiter
        have HW6 := hide_ hW6.symm
        have hpart := part_of k1 k2
        have hplen := part_len k1 k2
        rw [← HPT.out] at hpart hplen
        rw [← HWD.out] at hplen
        have HPART := hide_ hpart; have HPLEN := hide_ hplen
        have HX5 := hide_ (show X = ⟨k, a, b, n, key, val⟩ from hX)
        have hxv : X.kind = (k : Int) ∧ X.a = a ∧ X.b = b ∧ X.n = n ∧ X.key = key ∧ X.val = val := by rw [hX]; exact ⟨rfl, rfl, rfl, rfl, rfl, rfl⟩
        have HXV := hide_ hxv
        have HXO := hide_ (show X.Ok by rw [hX]; exact HX.out)
        have hown0 : W6.ownsRow w3.heap.size 9 1 (.slice (some ⟨bs, 0, none⟩) 1 1) 1 ((Wd :: (Pt.take 0).map (encP X)).map strV) :=
          ⟨rfl, .inr ⟨bs, 1, _, rfl, hbs, later_row hl6 HBS5.out, Nat.le_refl _, by decide, rfl, rfl⟩⟩
        have HO6 := hide_ hown0
        have HD6 := hide_ (show W6.heap[d]? = some (.cells ((Pt.take 0).foldl lessP { X with kind := 0 }).row 40 (0, 0)) by
          have := later_row hl6 HD5.out
          rw [hX]; simpa [AV.row] using this)
        have HIT6 := hide_ hiter
        have HL6 := hide_ (Below.trans HL5.out (Below.mono hl6 (by have := HL5.out.size; omega)))
        have hw3 : w.heap.size ≤ w3.heap.size := HL3.out.size
        have hwd : w.heap.size < w3.heap.size := theap_lt HROW3.out
        have hitd : w3.heap.size ≤ it := by rw [hit]; exact HL4.out.size
        clear hiter hW6 hl6 hpart hplen hX hxv hown0 HX 
        go_wp2_with (rw [HW6.out])
        rw [← hit]
        clear hit
        go_loopw [7] (fun s7 wr => ∃ (i : Nat) (v : Value), i ≤ Pt.length ∧ s7 = v ∧ Hid (wr.ownsRow w3.heap.size 9 1 v (i + 1) ((Wd :: (Pt.take i).map (encP X)).map strV)) ∧
          Hid (wr.heap[d]? = some (.cells ((Pt.take i).foldl lessP { X with kind := 0 }).row 40 (0, 0))) ∧ Hid (wr.heap[it]? = some (.stringIter ⟨Pt.toArray⟩ i)) ∧ Hid (Later w3 wr)) (fun _ wr => Pt.length - wr.iterPos it)
        case atStart => exact ⟨0, _, by omega, rfl, HO6, HD6, HIT6, HL6⟩
        case round =>
          obtain ⟨i, v, hi, rfl, HO, HD, HI, HL⟩ := hrel
          obtain ⟨Av, cv, hv⟩ := own_form HO.out
          subst hv
          have hwl : w3.heap.size ≤ wr.heap.size := HL.out.size
          have hpl := HPLEN.out.1
          by_cases hlt : i < Pt.length
          · obtain ⟨c, hc⟩ : ∃ c, Pt[i]? = some c := ⟨_, List.getElem?_eq_getElem hlt⟩
            have hpos : i < (⟨Pt.toArray⟩ : ByteArray).size := by show i < Pt.toArray.size; simpa using hlt
            have hcc : (⟨Pt.toArray⟩ : ByteArray)[i]'hpos = c := by
              have h := (List.getElem?_eq_some_iff.1 hc).2
              rw [← h]; rfl
            have hpc := HPART.out c (List.mem_of_getElem? hc)
            have hnx := fun ty => Lib.run_next_ascii_at (P := Tryz.prog) wr it ⟨Pt.toArray⟩ i ty HI.out hpos (by rw [hcc]; rcases hpc with rfl | rfl | rfl | rfl | rfl <;> decide)
            rw [hcc] at hnx
            have HIH := hide_ (Lib.iterAt_heap wr it ⟨Pt.toArray⟩ i (i + 1) HI.out)
            have HIO := hide_ (fun j hj => Lib.iterAt_other wr it j ⟨Pt.toArray⟩ (i + 1) hj)
            have HIS := hide_ (Lib.iterAt_size wr it ⟨Pt.toArray⟩ (i + 1))
            have HIL := hide_ (Lib.below_iterAt HL.out hitd ⟨Pt.toArray⟩ (i + 1))
            obtain ⟨W7, hW7⟩ : ∃ W7, W7 = wr.iterAt it ⟨Pt.toArray⟩ (i + 1) := ⟨_, rfl⟩
            rw [← hW7] at hnx HIH HIO HIS HIL
            have hdit : d ≠ it := fun e => by have h1 := HD.out; have h2 := HI.out; rw [e] at h1; rw [h1] at h2; cases h2
            have hD7 := (HIO.out d hdit).trans HD.out
            have HD7 := hide_ hD7
            have HO7 := hide_ (show W7.ownsRow w3.heap.size 9 1 (.slice Av (i + 1) cv) (i + 1) ((Wd :: (Pt.take i).map (encP X)).map strV) by
              refine ⟨HO.out.1, ?_⟩
              rcases HO.out.2 with h0 | ⟨g, cap, cur, hv, hg, hh, hr⟩
              · exact .inl h0
              · exact .inr ⟨g, cap, cur, hv, hg, (HIO.out g (fun e => by have h2 := HI.out; rw [e] at hh; rw [hh] at h2; cases h2)).trans hh, hr⟩)
            have HTK := hide_ (take_snoc hc)
            have HROW7 := hide_ (later_row (show Later w3 W7 from HIL.out) HROW3.out)
            have HE7 := hide_ (HE3.out.later (show Later w3 W7 from HIL.out))
            have x1 := cell_of_row _ _ 1 _ _ (0, 0) HROW7.out; have x2 := cell_of_row _ _ 2 _ _ (0, 0) HROW7.out; have x3 := cell_of_row _ _ 3 _ _ (0, 0) HROW7.out; have x4 := cell_of_row _ _ 4 _ _ (0, 0) HROW7.out; have x5 := cell_of_row _ _ 5 _ _ (0, 0) HROW7.out
            have hi1 : i + 1 ≤ Pt.length := hlt
            clear hW7 hcc hpos hc hlt hD7
            rcases hpc with rfl | rfl | rfl | rfl | rfl
            · go_wp2_with fail
              refine (itoa_any HE7.out a (by have := HXO.out.a; rw [HXV.out.2.1] at this; exact this.1) (by have := HXO.out.a; rw [HXV.out.2.1] at this; exact this.2)).mono ?_; rintro e w8 ⟨rfl, hl8⟩
              have HD8 := hide_ (later_row hl8 HD7.out)
              have HI8 := hide_ (later_row hl8 HIH.out)
              have HO8 := hide_ (show w8.ownsRow w3.heap.size 9 1 (.slice Av (i + 1) cv) (i + 1) ((Wd :: (Pt.take i).map (encP X)).map strV) by
                refine ⟨HO7.out.1, ?_⟩
                rcases HO7.out.2 with h0 | ⟨g, cap, cur, hv, hg, hh, hr⟩
                · exact .inl h0
                · exact .inr ⟨g, cap, cur, hv, hg, later_row hl8 hh, hr⟩)
              have hwl8 : w3.heap.size ≤ w8.heap.size := by have h1 := HIS.out; have h2 := hl8.size; omega
              have HL8 := hide_ (show Below w3.heap.size w3 w8 from Below.trans HIL.out (Below.mono hl8 (by have h1 := HIS.out; omega)))
              obtain ⟨E, hE⟩ : ∃ E, E = encP X 97 := ⟨_, rfl⟩
              have hE2 : Lib.itoa a = E := by rw [hE]; unfold encP; rw [if_pos rfl]; rw [HXV.out.2.1]
              have HE2 := hide_ hE2
              have HEN := hide_ hE
              clear hl8 hE hE2 x1 x2 x3 x4 x5 hnx
              rw [HE2.out]
              go_wp2_with (at_builtin; refine wpList_append_rd _ rfl (.tmp 43) (.tmp 47) 32 rfl w3.heap.size 9 1 16 strT (.slice Av (i + 1) cv) (i + 1) ((Wd :: (Pt.take i).map (encP X)).map strV) rfl ?c1 (some ⟨w8.heap.size, 0, none⟩) 1 1 [strV E] rfl ?c2 ?c3 ?c4 ?c5 ?c6 ?c7 ?c8)
              case c1 => exact HO8.out.alloc _
              case c2 => exact Rd.newAt _ #[strV E] 9 1 1 _ (0, 0) rfl rfl
              case c3 => simp [strV, Value.oneCell']
              case c4 => omega
              case c5 => unfold maxLen; omega
              case c6 => simp; omega
              case c7 => exact fun h => nomatch h
              case c8 =>
                intro v9 w9 hown9 hg9 hat9
                obtain ⟨A9, c9, hv9⟩ := own_form hown9
                subst hv9
                have hdl := theap_lt HD8.out
                have hil := theap_lt HI8.out
                have hd9 := (hg9.block d (by simp; omega) (own_str_ne (HO8.out.alloc (.cells #[strV E] 9)) (row_al HD8.out _) (act_ne _ _))).trans (row_al HD8.out _)
                have y1 := cell_of_row _ _ 1 _ _ (0, 0) hd9
                have y2 := frozen_of_row _ _ 1 _ _ hd9
                have hi9 := (hg9.block it (by simp; omega) (own_str_ne (HO8.out.alloc (.cells #[strV E] 9)) (row_al HI8.out _) (iter_ne _ _))).trans (row_al HI8.out _)
                have hl9 : Below w3.heap.size w3 w9 := own_grown (Below.alloc HL8.out (by omega) _) (HO8.out.alloc (.cells #[strV E] 9)) hg9 (by simp; omega)
                have HDF := hide_ (heap_setCell_same w9 d 1 _ _ (.int .i64 0) hd9)
                have HIF := hide_ ((Below.heap_setCell w9 ⟨d, 1, none⟩ (.int .i64 0) it (fun e => hdit e.symm)).trans hi9)
                have HLF := hide_ (hl9.setCell (p := ⟨d, 1, none⟩) hd (.int .i64 0))
                have HOF := hide_ (show (w9.setCell ⟨d, 1, none⟩ (.int .i64 0)).ownsRow w3.heap.size 9 1 (.slice A9 (i + 1 + 1) c9) (i + 1 + 1) ((Wd :: (Pt.take (i + 1)).map (encP X)).map strV) by
                  have e : ((Wd :: (Pt.take (i + 1)).map (encP X)).map strV) = ((Wd :: (Pt.take i).map (encP X)).map strV) ++ [strV E] := by rw [HTK.out, HEN.out]; simp
                  rw [e]
                  exact own_put_ne (by simpa using hown9) hd9 (act_ne _ _))
                have HRF := hide_ (show ((Pt.take i).foldl lessP { X with kind := 0 }).row.setIfInBounds 1 (.int .i64 0) = ((Pt.take (i + 1)).foldl lessP { X with kind := 0 }).row by
                  rw [HTK.out, List.foldl_append]; rfl)
                clear hown9 hg9 hat9 hd9 hi9 hl9
                go_wp2_with fail
                go_roundw
                case rel => exact ⟨i + 1, _, by omega, rfl, HOF, hide_ (by rw [← HRF.out]; exact HDF.out), HIF, HLF⟩
                case measure => simp only [World.iterPos, HIF.out, HI.out]; omega
            · go_wp2_with fail
              refine (itoa_any HE7.out b (by have := HXO.out.b; rw [HXV.out.2.2.1] at this; exact this.1) (by have := HXO.out.b; rw [HXV.out.2.2.1] at this; exact this.2)).mono ?_; rintro e w8 ⟨rfl, hl8⟩
              have HD8 := hide_ (later_row hl8 HD7.out)
              have HI8 := hide_ (later_row hl8 HIH.out)
              have HO8 := hide_ (show w8.ownsRow w3.heap.size 9 1 (.slice Av (i + 1) cv) (i + 1) ((Wd :: (Pt.take i).map (encP X)).map strV) by
                refine ⟨HO7.out.1, ?_⟩
                rcases HO7.out.2 with h0 | ⟨g, cap, cur, hv, hg, hh, hr⟩
                · exact .inl h0
                · exact .inr ⟨g, cap, cur, hv, hg, later_row hl8 hh, hr⟩)
              have hwl8 : w3.heap.size ≤ w8.heap.size := by have h1 := HIS.out; have h2 := hl8.size; omega
              have HL8 := hide_ (show Below w3.heap.size w3 w8 from Below.trans HIL.out (Below.mono hl8 (by have h1 := HIS.out; omega)))
              obtain ⟨E, hE⟩ : ∃ E, E = encP X 98 := ⟨_, rfl⟩
              have hE2 : Lib.itoa b = E := by rw [hE]; unfold encP; rw [if_neg (by decide), if_pos rfl]; rw [HXV.out.2.2.1]
              have HE2 := hide_ hE2
              have HEN := hide_ hE
              clear hl8 hE hE2 x1 x2 x3 x4 x5 hnx
              rw [HE2.out]
              go_wp2_with (at_builtin; refine wpList_append_rd _ rfl (.tmp 52) (.tmp 56) 32 rfl w3.heap.size 9 1 16 strT (.slice Av (i + 1) cv) (i + 1) ((Wd :: (Pt.take i).map (encP X)).map strV) rfl ?c1 (some ⟨w8.heap.size, 0, none⟩) 1 1 [strV E] rfl ?c2 ?c3 ?c4 ?c5 ?c6 ?c7 ?c8)
              case c1 => exact HO8.out.alloc _
              case c2 => exact Rd.newAt _ #[strV E] 9 1 1 _ (0, 0) rfl rfl
              case c3 => simp [strV, Value.oneCell']
              case c4 => omega
              case c5 => unfold maxLen; omega
              case c6 => simp; omega
              case c7 => exact fun h => nomatch h
              case c8 =>
                intro v9 w9 hown9 hg9 hat9
                obtain ⟨A9, c9, hv9⟩ := own_form hown9
                subst hv9
                have hdl := theap_lt HD8.out
                have hil := theap_lt HI8.out
                have hd9 := (hg9.block d (by simp; omega) (own_str_ne (HO8.out.alloc (.cells #[strV E] 9)) (row_al HD8.out _) (act_ne _ _))).trans (row_al HD8.out _)
                have y1 := cell_of_row _ _ 2 _ _ (0, 0) hd9
                have y2 := frozen_of_row _ _ 2 _ _ hd9
                have hi9 := (hg9.block it (by simp; omega) (own_str_ne (HO8.out.alloc (.cells #[strV E] 9)) (row_al HI8.out _) (iter_ne _ _))).trans (row_al HI8.out _)
                have hl9 : Below w3.heap.size w3 w9 := own_grown (Below.alloc HL8.out (by omega) _) (HO8.out.alloc (.cells #[strV E] 9)) hg9 (by simp; omega)
                have HDF := hide_ (heap_setCell_same w9 d 2 _ _ (.int .i64 0) hd9)
                have HIF := hide_ ((Below.heap_setCell w9 ⟨d, 2, none⟩ (.int .i64 0) it (fun e => hdit e.symm)).trans hi9)
                have HLF := hide_ (hl9.setCell (p := ⟨d, 2, none⟩) hd (.int .i64 0))
                have HOF := hide_ (show (w9.setCell ⟨d, 2, none⟩ (.int .i64 0)).ownsRow w3.heap.size 9 1 (.slice A9 (i + 1 + 1) c9) (i + 1 + 1) ((Wd :: (Pt.take (i + 1)).map (encP X)).map strV) by
                  have e : ((Wd :: (Pt.take (i + 1)).map (encP X)).map strV) = ((Wd :: (Pt.take i).map (encP X)).map strV) ++ [strV E] := by rw [HTK.out, HEN.out]; simp
                  rw [e]
                  exact own_put_ne (by simpa using hown9) hd9 (act_ne _ _))
                have HRF := hide_ (show ((Pt.take i).foldl lessP { X with kind := 0 }).row.setIfInBounds 2 (.int .i64 0) = ((Pt.take (i + 1)).foldl lessP { X with kind := 0 }).row by
                  rw [HTK.out, List.foldl_append]; rfl)
                clear hown9 hg9 hat9 hd9 hi9 hl9
                go_wp2_with fail
                go_roundw
                case rel => exact ⟨i + 1, _, by omega, rfl, HOF, hide_ (by rw [← HRF.out]; exact HDF.out), HIF, HLF⟩
                case measure => simp only [World.iterPos, HIF.out, HI.out]; omega
            · go_wp2_with fail
              refine (itoa_any HE7.out n (by have := HXO.out.n; rw [HXV.out.2.2.2.1] at this; exact this.1) (by have := HXO.out.n; rw [HXV.out.2.2.2.1] at this; exact this.2)).mono ?_; rintro e w8 ⟨rfl, hl8⟩
              have HD8 := hide_ (later_row hl8 HD7.out)
              have HI8 := hide_ (later_row hl8 HIH.out)
              have HO8 := hide_ (show w8.ownsRow w3.heap.size 9 1 (.slice Av (i + 1) cv) (i + 1) ((Wd :: (Pt.take i).map (encP X)).map strV) by
                refine ⟨HO7.out.1, ?_⟩
                rcases HO7.out.2 with h0 | ⟨g, cap, cur, hv, hg, hh, hr⟩
                · exact .inl h0
                · exact .inr ⟨g, cap, cur, hv, hg, later_row hl8 hh, hr⟩)
              have hwl8 : w3.heap.size ≤ w8.heap.size := by have h1 := HIS.out; have h2 := hl8.size; omega
              have HL8 := hide_ (show Below w3.heap.size w3 w8 from Below.trans HIL.out (Below.mono hl8 (by have h1 := HIS.out; omega)))
              obtain ⟨E, hE⟩ : ∃ E, E = encP X 110 := ⟨_, rfl⟩
              have hE2 : Lib.itoa n = E := by rw [hE]; unfold encP; rw [if_neg (by decide), if_neg (by decide), if_pos rfl]; rw [HXV.out.2.2.2.1]
              have HE2 := hide_ hE2
              have HEN := hide_ hE
              clear hl8 hE hE2 x1 x2 x3 x4 x5 hnx
              rw [HE2.out]
              go_wp2_with (at_builtin; refine wpList_append_rd _ rfl (.tmp 61) (.tmp 65) 32 rfl w3.heap.size 9 1 16 strT (.slice Av (i + 1) cv) (i + 1) ((Wd :: (Pt.take i).map (encP X)).map strV) rfl ?c1 (some ⟨w8.heap.size, 0, none⟩) 1 1 [strV E] rfl ?c2 ?c3 ?c4 ?c5 ?c6 ?c7 ?c8)
              case c1 => exact HO8.out.alloc _
              case c2 => exact Rd.newAt _ #[strV E] 9 1 1 _ (0, 0) rfl rfl
              case c3 => simp [strV, Value.oneCell']
              case c4 => omega
              case c5 => unfold maxLen; omega
              case c6 => simp; omega
              case c7 => exact fun h => nomatch h
              case c8 =>
                intro v9 w9 hown9 hg9 hat9
                obtain ⟨A9, c9, hv9⟩ := own_form hown9
                subst hv9
                have hdl := theap_lt HD8.out
                have hil := theap_lt HI8.out
                have hd9 := (hg9.block d (by simp; omega) (own_str_ne (HO8.out.alloc (.cells #[strV E] 9)) (row_al HD8.out _) (act_ne _ _))).trans (row_al HD8.out _)
                have y1 := cell_of_row _ _ 3 _ _ (0, 0) hd9
                have y2 := frozen_of_row _ _ 3 _ _ hd9
                have hi9 := (hg9.block it (by simp; omega) (own_str_ne (HO8.out.alloc (.cells #[strV E] 9)) (row_al HI8.out _) (iter_ne _ _))).trans (row_al HI8.out _)
                have hl9 : Below w3.heap.size w3 w9 := own_grown (Below.alloc HL8.out (by omega) _) (HO8.out.alloc (.cells #[strV E] 9)) hg9 (by simp; omega)
                have HDF := hide_ (heap_setCell_same w9 d 3 _ _ (.int .i64 0) hd9)
                have HIF := hide_ ((Below.heap_setCell w9 ⟨d, 3, none⟩ (.int .i64 0) it (fun e => hdit e.symm)).trans hi9)
                have HLF := hide_ (hl9.setCell (p := ⟨d, 3, none⟩) hd (.int .i64 0))
                have HOF := hide_ (show (w9.setCell ⟨d, 3, none⟩ (.int .i64 0)).ownsRow w3.heap.size 9 1 (.slice A9 (i + 1 + 1) c9) (i + 1 + 1) ((Wd :: (Pt.take (i + 1)).map (encP X)).map strV) by
                  have e : ((Wd :: (Pt.take (i + 1)).map (encP X)).map strV) = ((Wd :: (Pt.take i).map (encP X)).map strV) ++ [strV E] := by rw [HTK.out, HEN.out]; simp
                  rw [e]
                  exact own_put_ne (by simpa using hown9) hd9 (act_ne _ _))
                have HRF := hide_ (show ((Pt.take i).foldl lessP { X with kind := 0 }).row.setIfInBounds 3 (.int .i64 0) = ((Pt.take (i + 1)).foldl lessP { X with kind := 0 }).row by
                  rw [HTK.out, List.foldl_append]; rfl)
                clear hown9 hg9 hat9 hd9 hi9 hl9
                go_wp2_with fail
                go_roundw
                case rel => exact ⟨i + 1, _, by omega, rfl, HOF, hide_ (by rw [← HRF.out]; exact HDF.out), HIF, HLF⟩
                case measure => simp only [World.iterPos, HIF.out, HI.out]; omega
            · go_wp2_with fail
              refine (quote_any HE7.out ⟨key.toArray⟩ (by have := HXO.out.key; rw [HXV.out.2.2.2.2.1] at this; show 4 * key.toArray.size + 1 ≤ _; simp; omega)).mono ?_; rintro e w8 ⟨rfl, hl8⟩
              have HD8 := hide_ (later_row hl8 HD7.out)
              have HI8 := hide_ (later_row hl8 HIH.out)
              have HO8 := hide_ (show w8.ownsRow w3.heap.size 9 1 (.slice Av (i + 1) cv) (i + 1) ((Wd :: (Pt.take i).map (encP X)).map strV) by
                refine ⟨HO7.out.1, ?_⟩
                rcases HO7.out.2 with h0 | ⟨g, cap, cur, hv, hg, hh, hr⟩
                · exact .inl h0
                · exact .inr ⟨g, cap, cur, hv, hg, later_row hl8 hh, hr⟩)
              have hwl8 : w3.heap.size ≤ w8.heap.size := by have h1 := HIS.out; have h2 := hl8.size; omega
              have HL8 := hide_ (show Below w3.heap.size w3 w8 from Below.trans HIL.out (Below.mono hl8 (by have h1 := HIS.out; omega)))
              obtain ⟨E, hE⟩ : ∃ E, E = encP X 107 := ⟨_, rfl⟩
              have hE2 : quoteL key = E := by rw [hE]; unfold encP; rw [if_neg (by decide), if_neg (by decide), if_neg (by decide), if_pos rfl]; rw [HXV.out.2.2.2.2.1]
              have HE2 := hide_ hE2
              have HEN := hide_ hE
              clear hl8 hE hE2 x1 x2 x3 x4 x5 hnx
              rw [HE2.out]
              go_wp2_with (at_builtin; refine wpList_append_rd _ rfl (.tmp 70) (.tmp 74) 32 rfl w3.heap.size 9 1 16 strT (.slice Av (i + 1) cv) (i + 1) ((Wd :: (Pt.take i).map (encP X)).map strV) rfl ?c1 (some ⟨w8.heap.size, 0, none⟩) 1 1 [strV E] rfl ?c2 ?c3 ?c4 ?c5 ?c6 ?c7 ?c8)
              case c1 => exact HO8.out.alloc _
              case c2 => exact Rd.newAt _ #[strV E] 9 1 1 _ (0, 0) rfl rfl
              case c3 => simp [strV, Value.oneCell']
              case c4 => omega
              case c5 => unfold maxLen; omega
              case c6 => simp; omega
              case c7 => exact fun h => nomatch h
              case c8 =>
                intro v9 w9 hown9 hg9 hat9
                obtain ⟨A9, c9, hv9⟩ := own_form hown9
                subst hv9
                have hdl := theap_lt HD8.out
                have hil := theap_lt HI8.out
                have hd9 := (hg9.block d (by simp; omega) (own_str_ne (HO8.out.alloc (.cells #[strV E] 9)) (row_al HD8.out _) (act_ne _ _))).trans (row_al HD8.out _)
                have y1 := cell_of_row _ _ 4 _ _ (0, 0) hd9
                have y2 := frozen_of_row _ _ 4 _ _ hd9
                have hi9 := (hg9.block it (by simp; omega) (own_str_ne (HO8.out.alloc (.cells #[strV E] 9)) (row_al HI8.out _) (iter_ne _ _))).trans (row_al HI8.out _)
                have hl9 : Below w3.heap.size w3 w9 := own_grown (Below.alloc HL8.out (by omega) _) (HO8.out.alloc (.cells #[strV E] 9)) hg9 (by simp; omega)
                have HDF := hide_ (heap_setCell_same w9 d 4 _ _ (.string ⟨#[]⟩) hd9)
                have HIF := hide_ ((Below.heap_setCell w9 ⟨d, 4, none⟩ (.string ⟨#[]⟩) it (fun e => hdit e.symm)).trans hi9)
                have HLF := hide_ (hl9.setCell (p := ⟨d, 4, none⟩) hd (.string ⟨#[]⟩))
                have HOF := hide_ (show (w9.setCell ⟨d, 4, none⟩ (.string ⟨#[]⟩)).ownsRow w3.heap.size 9 1 (.slice A9 (i + 1 + 1) c9) (i + 1 + 1) ((Wd :: (Pt.take (i + 1)).map (encP X)).map strV) by
                  have e : ((Wd :: (Pt.take (i + 1)).map (encP X)).map strV) = ((Wd :: (Pt.take i).map (encP X)).map strV) ++ [strV E] := by rw [HTK.out, HEN.out]; simp
                  rw [e]
                  exact own_put_ne (by simpa using hown9) hd9 (act_ne _ _))
                have HRF := hide_ (show ((Pt.take i).foldl lessP { X with kind := 0 }).row.setIfInBounds 4 (.string ⟨#[]⟩) = ((Pt.take (i + 1)).foldl lessP { X with kind := 0 }).row by
                  rw [HTK.out, List.foldl_append]; rfl)
                clear hown9 hg9 hat9 hd9 hi9 hl9
                go_wp2_with fail
                go_roundw
                case rel => exact ⟨i + 1, _, by omega, rfl, HOF, hide_ (by rw [← HRF.out]; exact HDF.out), HIF, HLF⟩
                case measure => simp only [World.iterPos, HIF.out, HI.out]; omega
            · go_wp2_with fail
              refine (quote_any HE7.out ⟨val.toArray⟩ (by have := HXO.out.val; rw [HXV.out.2.2.2.2.2] at this; show 4 * val.toArray.size + 1 ≤ _; simp; omega)).mono ?_; rintro e w8 ⟨rfl, hl8⟩
              have HD8 := hide_ (later_row hl8 HD7.out)
              have HI8 := hide_ (later_row hl8 HIH.out)
              have HO8 := hide_ (show w8.ownsRow w3.heap.size 9 1 (.slice Av (i + 1) cv) (i + 1) ((Wd :: (Pt.take i).map (encP X)).map strV) by
                refine ⟨HO7.out.1, ?_⟩
                rcases HO7.out.2 with h0 | ⟨g, cap, cur, hv, hg, hh, hr⟩
                · exact .inl h0
                · exact .inr ⟨g, cap, cur, hv, hg, later_row hl8 hh, hr⟩)
              have hwl8 : w3.heap.size ≤ w8.heap.size := by have h1 := HIS.out; have h2 := hl8.size; omega
              have HL8 := hide_ (show Below w3.heap.size w3 w8 from Below.trans HIL.out (Below.mono hl8 (by have h1 := HIS.out; omega)))
              obtain ⟨E, hE⟩ : ∃ E, E = encP X 118 := ⟨_, rfl⟩
              have hE2 : quoteL val = E := by rw [hE]; unfold encP; rw [if_neg (by decide), if_neg (by decide), if_neg (by decide), if_neg (by decide)]; rw [HXV.out.2.2.2.2.2]
              have HE2 := hide_ hE2
              have HEN := hide_ hE
              clear hl8 hE hE2 x1 x2 x3 x4 x5 hnx
              rw [HE2.out]
              go_wp2_with (at_builtin; refine wpList_append_rd _ rfl (.tmp 79) (.tmp 83) 32 rfl w3.heap.size 9 1 16 strT (.slice Av (i + 1) cv) (i + 1) ((Wd :: (Pt.take i).map (encP X)).map strV) rfl ?c1 (some ⟨w8.heap.size, 0, none⟩) 1 1 [strV E] rfl ?c2 ?c3 ?c4 ?c5 ?c6 ?c7 ?c8)
              case c1 => exact HO8.out.alloc _
              case c2 => exact Rd.newAt _ #[strV E] 9 1 1 _ (0, 0) rfl rfl
              case c3 => simp [strV, Value.oneCell']
              case c4 => omega
              case c5 => unfold maxLen; omega
              case c6 => simp; omega
              case c7 => exact fun h => nomatch h
              case c8 =>
                intro v9 w9 hown9 hg9 hat9
                obtain ⟨A9, c9, hv9⟩ := own_form hown9
                subst hv9
                have hdl := theap_lt HD8.out
                have hil := theap_lt HI8.out
                have hd9 := (hg9.block d (by simp; omega) (own_str_ne (HO8.out.alloc (.cells #[strV E] 9)) (row_al HD8.out _) (act_ne _ _))).trans (row_al HD8.out _)
                have y1 := cell_of_row _ _ 5 _ _ (0, 0) hd9
                have y2 := frozen_of_row _ _ 5 _ _ hd9
                have hi9 := (hg9.block it (by simp; omega) (own_str_ne (HO8.out.alloc (.cells #[strV E] 9)) (row_al HI8.out _) (iter_ne _ _))).trans (row_al HI8.out _)
                have hl9 : Below w3.heap.size w3 w9 := own_grown (Below.alloc HL8.out (by omega) _) (HO8.out.alloc (.cells #[strV E] 9)) hg9 (by simp; omega)
                have HDF := hide_ (heap_setCell_same w9 d 5 _ _ (.string ⟨#[]⟩) hd9)
                have HIF := hide_ ((Below.heap_setCell w9 ⟨d, 5, none⟩ (.string ⟨#[]⟩) it (fun e => hdit e.symm)).trans hi9)
                have HLF := hide_ (hl9.setCell (p := ⟨d, 5, none⟩) hd (.string ⟨#[]⟩))
                have HOF := hide_ (show (w9.setCell ⟨d, 5, none⟩ (.string ⟨#[]⟩)).ownsRow w3.heap.size 9 1 (.slice A9 (i + 1 + 1) c9) (i + 1 + 1) ((Wd :: (Pt.take (i + 1)).map (encP X)).map strV) by
                  have e : ((Wd :: (Pt.take (i + 1)).map (encP X)).map strV) = ((Wd :: (Pt.take i).map (encP X)).map strV) ++ [strV E] := by rw [HTK.out, HEN.out]; simp
                  rw [e]
                  exact own_put_ne (by simpa using hown9) hd9 (act_ne _ _))
                have HRF := hide_ (show ((Pt.take i).foldl lessP { X with kind := 0 }).row.setIfInBounds 5 (.string ⟨#[]⟩) = ((Pt.take (i + 1)).foldl lessP { X with kind := 0 }).row by
                  rw [HTK.out, List.foldl_append]; rfl)
                clear hown9 hg9 hat9 hd9 hi9 hl9
                go_wp2_with fail
                go_roundw
                case rel => exact ⟨i + 1, _, by omega, rfl, HOF, hide_ (by rw [← HRF.out]; exact HDF.out), HIF, HLF⟩
                case measure => simp only [World.iterPos, HIF.out, HI.out]; omega
          · obtain rfl : i = Pt.length := by omega
            have hnx := fun ty => Lib.run_next_end_at (P := Tryz.prog) wr it ⟨Pt.toArray⟩ Pt.length ty HI.out (by show ¬ Pt.length < Pt.toArray.size; simp)
            obtain ⟨Z, hZ⟩ : ∃ Z, Z = (Pt.take Pt.length).foldl lessP { X with kind := 0 } := ⟨_, rfl⟩
            have hDZ : wr.heap[d]? = some (.cells Z.row 40 (0, 0)) := by rw [hZ]; exact HD.out
            have hZ2 : Z = restF X k := by rw [hZ, List.take_length, HPT.out]; rfl
            have HZ := hide_ hZ2
            have HF := hide_ (show lineF X = if Z = AV.zero then some (joinW (Wd :: Pt.map (encP X))) else none by
              unfold lineF
              rw [HXV.out.1, if_pos (by omega), Int.toNat_natCast, ← HZ.out]; unfold wordsF; rw [← HWD.out, ← HPT.out])
            have HOW := hide_ (show wr.ownsRow w3.heap.size 9 1 (.slice Av (Pt.length + 1) cv) (Pt.length + 1) ((Wd :: Pt.map (encP X)).map strV) by
              have h := HO.out
              rwa [List.take_length] at h)
            have HLZ := hide_ (HL3.out.trans HL.out)
            obtain ⟨z1, z2, z3, z4, z5, z6⟩ := Z
            unfold AV.row at hDZ
            simp only at hDZ
            have y0 := cell_of_row _ _ 0 _ _ (0, 0) hDZ; have y1 := cell_of_row _ _ 1 _ _ (0, 0) hDZ; have y2 := cell_of_row _ _ 2 _ _ (0, 0) hDZ; have y3 := cell_of_row _ _ 3 _ _ (0, 0) hDZ; have y4 := cell_of_row _ _ 4 _ _ (0, 0) hDZ; have y5 := cell_of_row _ _ 5 _ _ (0, 0) hDZ
            simp only [List.getElem?_toArray, List.getElem?_cons_succ, List.getElem?_cons_zero] at y0 y1 y2 y3 y4 y5
            have hne : ∀ W : World, (binOp .neq 40 (.agg #[.int .i64 z1, .int .i64 z2, .int .i64 z3, .int .i64 z4, .string ⟨z5.toArray⟩, .string ⟨z6.toArray⟩]) (.agg #[.int .i64 0, .int .i64 0, .int .i64 0, .int .i64 0, .string ⟨#[]⟩, .string ⟨#[]⟩])).run Tryz.prog W = .ok (.bool (!decide ((⟨z1, z2, z3, z4, z5, z6⟩ : AV) = AV.zero))) W := neq_act ⟨z1, z2, z3, z4, z5, z6⟩ AV.zero
            have hgu := guard_act
            clear hZ hDZ hZ2 hlt
            by_cases hz : (⟨z1, z2, z3, z4, z5, z6⟩ : AV) = AV.zero
            · have HFS := hide_ (HF.out.trans (if_pos hz))
              rw [decide_eq_true hz, Bool.not_true] at hne
              clear hz
              go_wp2_with fail
              refine (join_any HOW.out (by omega) (by have := HPLEN.out.1; omega) (words_len X HXO.out Wd Pt HPLEN.out.2 HPLEN.out.1)).mono ?_
              rintro e w8 ⟨rfl, hl8⟩
              have HL8 := hide_ (HLZ.out.trans hl8)
              clear hl8
              go_wp2_with fail
              go_ret2
              have e : lineF ⟨k, a, b, n, key, val⟩ = some (joinW (Wd :: Pt.map (encP X))) := by rw [← HX5.out]; exact HFS.out
              exact ⟨by rw [e]; rfl, HL8.out⟩
            · have HFN := hide_ (HF.out.trans (if_neg hz))
              rw [decide_eq_false hz, Bool.not_false] at hne
              clear hz
              go_wp2_with fail
              go_ret2
              have e : lineF ⟨k, a, b, n, key, val⟩ = none := by rw [← HX5.out]; exact HFN.out
              exact ⟨by rw [e]; rfl, HLZ.out⟩

end Go.Proofs.YtjkopohmcabfjaaGreatDoor
