/-
  ChangeChecks: for any change the program's Check is the document's, and Weight is the number of bytes of any changes (100 at most); it writes nothing that was there.
  Conditions: none but the row's own.
-/
import Derived.Test.YtblljpdlmllceaaWeight
namespace Go.Proofs.Ytblljpdlmllceaa
open Go.ChangeShapes Go.WideShapes Go.ChangeAt Go.RowKit
set_option linter.unusedVariables false
set_option linter.unusedSimpArgs false
theorem later_on {w w1 : World} {p : Addr} {u : Value} (l : ∀ W, Later w W → W.cell? p = some u) (h : Later w w1) : ∀ W, Later w1 W → W.cell? p = some u := fun W hW => l W (h.trans hW)
set_option maxHeartbeats 1000000 in
theorem changeChecks_walk (x : Chg) (A : Option Addr) (n c : Nat) (C : List Chg) (w : World) (hr : Rd w 3 A n (crow C)) (hl : C.length = n) (hnc : n ≤ c) (hC : ∀ y, y ∈ C → y.2.1.size ≤ 140737488351232 ∧ y.2.2.size ≤ 140737488351232) :
    Calls Try.prog 5 #[.agg #[.int .i64 x.1, .string x.2.1, .string x.2.2], .slice A n c] w fun e w' => e = .returned (.bool true) ∧ Below w.heap.size w w' := by
  have HR := hide_ hr; have HL := hide_ hl; have HC := hide_ hC; have HNC := hide_ hnc
  have hck := hide_ (fun W => check_any x.1 x.2.1 x.2.2 W)
  have hrck := hide_ (fun W => rcheck_any x.1 x.2.1 x.2.2 W)
  clear hr hl hC hnc
  obtain ⟨W0, hW0⟩ : ∃ W0, W0 = w.alloc (.cells #[.int .i64 x.1, .string x.2.1, .string x.2.2] 32) := ⟨_, rfl⟩
  have hbx : W0.heap[w.heap.size]? = some (.cells #[.int .i64 x.1, .string x.2.1, .string x.2.2] 32 (0, 0)) := by rw [hW0]; exact heap_alloc_new w _
  have HB0 := hide_ (show Later w W0 by rw [hW0]; exact (Below.refl _ _).alloc (Nat.le_refl _) _)
  have HZ0 := hide_ (show W0.heap.size = w.heap.size + 1 by rw [hW0]; simp)
  have HBX := hide_ hbx
  have HW := hide_ hW0.symm
  clear hW0 hbx
  go_enter Try.func5, Try.ntmps5
  go_wp2_with (rw [HW.out])
  go_loopw [5, 6] (fun s5 s6 wr => ∃ (k : Nat), k ≤ n ∧ k ≤ 100 ∧ s5 = .int .i64 (wsum (C.take k) : Nat) ∧ s6 = .int .i64 k ∧ Hid (Later W0 wr)) (fun _ i _ => n - (intOf i).toNat)
  case atStart => exact ⟨0, Nat.zero_le _, by omega, rfl, rfl, hide_ (Below.refl _ _)⟩
  case round =>
    obtain ⟨k, hkp, hk1, rfl, rfl, HB⟩ := hrel
    by_cases hlt : k < n
    · by_cases hlt1 : k < 100
      · obtain ⟨s, hs⟩ : ∃ s, C[k]? = some s := ⟨_, List.getElem?_eq_getElem (by rw [HL.out]; exact hlt)⟩
        obtain ⟨b, o, rfl, l0, l1, l2⟩ := (HR.out.below (HB0.out.trans HB.out)).chg hs
        have q1 : (k : Int) < (n : Int) := by omega
        have q2 : (0 : Int) ≤ (k : Int) := by omega
        have q3 : (k : Int) < 100 := by omega
        have HT := hide_ (show wsum (C.take (k + 1)) = wsum (C.take k) + (s.2.1.size + s.2.2.size + 8) by rw [take_snoc hs, wsum_append]; simp [wsum])
        have hle := wsum_small (C := C.take (k + 1)) (b := 140737488351232) fun y hy => HC.out y (List.mem_of_mem_take hy)
        have hlen : (C.take (k + 1)).length ≤ 100 := by rw [List.length_take]; omega
        have hle2 : wsum (C.take (k + 1)) ≤ 36028797018963968 := by omega
        rw [HT.out] at hle2
        clear hle hlen
        obtain ⟨T, hT⟩ : ∃ T, wsum (C.take k) = T := ⟨_, rfl⟩
        obtain ⟨nk, hnk⟩ : ∃ nk, s.2.1.size = nk := ⟨_, rfl⟩
        obtain ⟨nv, hnv⟩ : ∃ nv, s.2.2.size = nv := ⟨_, rfl⟩
        rw [hT] at HT hle2 ⊢
        rw [hnk, hnv] at HT hle2
        have e1 := hide_ (show IntKind.i64.wrap ((nk : Int) + (nv : Int)) = (nk : Int) + (nv : Int) from IntWalk.i64_in _ (by omega))
        have e2 := hide_ (show IntKind.i64.wrap ((nk : Int) + (nv : Int) + 8) = (nk : Int) + (nv : Int) + 8 from IntWalk.i64_in _ (by omega))
        have hI : (T : Int) + ((nk : Int) + (nv : Int) + 8) ≤ 4611686018427387904 := by omega
        have e4 := hide_ (w_sum ((nk : Int) + (nv : Int) + 8) T (by omega) (by omega) hI)
        clear hs hT
        have lc1 := later_drew_cell l1
        have lc2 := later_drew_cell l2
        go_wp2_with fail
        refine wp_region_k (by kernel_rfl) ?_
        refine wpAnyK_take 0 (v := ?_) rfl (by kernel_rfl) (by kernel_rfl) (by kernel_rfl) (fun _ _ _ h => h) (by rfl) (by intro W hSw; go_simp; with_reducible rfl) ?_; try simp only [Act.put, List.setIfInBounds_toArray, List.set_cons_zero, List.set_cons_succ]
        refine wpAnyK_take 1 (v := ?_) rfl (by kernel_rfl) (by kernel_rfl) (by kernel_rfl) (fun _ _ _ h => h) (by rfl) (by intro W hSw; go_simp; with_reducible rfl) ?_; try simp only [Act.put, List.setIfInBounds_toArray, List.set_cons_zero, List.set_cons_succ]
        refine wpAnyK_take 2 (v := ?_) rfl (by kernel_rfl) (by kernel_rfl) (by kernel_rfl) (fun _ _ _ h => h) (by rfl) (by intro W hSw; go_simp; with_reducible rfl) ?_; try simp only [Act.put, List.setIfInBounds_toArray, List.set_cons_zero, List.set_cons_succ]
        refine wpAnyK_take 3 (v := ?_) rfl (by kernel_rfl) (by kernel_rfl) (by kernel_rfl) (fun _ _ _ h => h) (by rfl) (by intro W hSw; go_simp; with_reducible rfl) ?_; try simp only [Act.put, List.setIfInBounds_toArray, List.set_cons_zero, List.set_cons_succ]
        refine wpAnyK_take 4 (v := ?_) rfl (by kernel_rfl) (by kernel_rfl) (by kernel_rfl) (fun _ _ _ h => h) (by rfl) (by intro W hSw; go_simp; with_reducible rfl) ?_; try simp only [Act.put, List.setIfInBounds_toArray, List.set_cons_zero, List.set_cons_succ]
        refine wpAnyK_take 5 (v := ?_) rfl (by kernel_rfl) (by kernel_rfl) (by kernel_rfl) (fun _ _ _ h => h) (by rfl) (by intro W hSw; go_simp; with_reducible rfl) ?_; try simp only [Act.put, List.setIfInBounds_toArray, List.set_cons_zero, List.set_cons_succ]
        refine wpAnyK_take 6 (v := ?_) rfl (by kernel_rfl) (by kernel_rfl) (by kernel_rfl) (fun _ _ _ h => h) (by rfl) (by intro W hSw; go_simp; with_reducible rfl) ?_; try simp only [Act.put, List.setIfInBounds_toArray, List.set_cons_zero, List.set_cons_succ]
        refine wpAnyK_take 7 (v := ?_) rfl (by kernel_rfl) (by kernel_rfl) (by kernel_rfl) (fun _ _ _ h => h) (by rfl) (by intro W hSw; go_simp; with_reducible rfl) ?_; try simp only [Act.put, List.setIfInBounds_toArray, List.set_cons_zero, List.set_cons_succ]
        refine wpAnyK_take 8 (v := ?_) rfl (by kernel_rfl) (by kernel_rfl) (by kernel_rfl) (fun _ _ _ h => h) (by rfl) (by intro W hSw; go_simp; with_reducible rfl) ?_; try simp only [Act.put, List.setIfInBounds_toArray, List.set_cons_zero, List.set_cons_succ]
        refine wpAnyK_take 9 (v := ?_) rfl (by kernel_rfl) (by kernel_rfl) (by kernel_rfl) (fun _ _ _ h => h) (by rfl) (by intro W hSw; go_simp; with_reducible rfl) ?_; try simp only [Act.put, List.setIfInBounds_toArray, List.set_cons_zero, List.set_cons_succ]
        refine wpAnyK_take 10 (v := ?_) rfl (by kernel_rfl) (by kernel_rfl) (by kernel_rfl) (fun _ _ _ h => h) (by rfl) (by intro W hSw; go_simp; with_reducible rfl) ?_; try simp only [Act.put, List.setIfInBounds_toArray, List.set_cons_zero, List.set_cons_succ]
        refine wpAnyK_take 11 (v := ?_) rfl (by kernel_rfl) (by kernel_rfl) (by kernel_rfl) (fun _ _ _ h => h) (by rfl) (by intro W hSw; go_simp; with_reducible rfl) ?_; try simp only [Act.put, List.setIfInBounds_toArray, List.set_cons_zero, List.set_cons_succ]
        refine wpAnyK_take 12 (v := ?_) rfl (by kernel_rfl) (by kernel_rfl) (by kernel_rfl) (fun _ _ _ h => h) (by rfl) (by intro W hSw; go_simp; with_reducible rfl) ?_; try simp only [Act.put, List.setIfInBounds_toArray, List.set_cons_zero, List.set_cons_succ]
        refine wpAnyK_take 13 (v := ?_) rfl (by kernel_rfl) (by kernel_rfl) (by kernel_rfl) (fun _ _ _ h => h) (by rfl) (by intro W hSw; go_simp; with_reducible rfl) ?_; try simp only [Act.put, List.setIfInBounds_toArray, List.set_cons_zero, List.set_cons_succ]
        refine wpAnyK_take 14 (v := ?_) rfl (by kernel_rfl) (by kernel_rfl) (by kernel_rfl) (fun _ _ _ h => h) (by rfl) (by intro W hSw; go_simp; with_reducible rfl) ?_; try simp only [Act.put, List.setIfInBounds_toArray, List.set_cons_zero, List.set_cons_succ]
        refine wpAnyK_take 15 (v := ?_) rfl (by kernel_rfl) (by kernel_rfl) (by kernel_rfl) (fun _ _ _ h => h) (by rfl) (by intro W hSw; go_simp; with_reducible rfl) ?_; try simp only [Act.put, List.setIfInBounds_toArray, List.set_cons_zero, List.set_cons_succ]
        refine wpAnyK_take 16 (v := ?_) rfl (by kernel_rfl) (by kernel_rfl) (by kernel_rfl) (fun _ _ _ h => h) (by rfl) (by intro W hSw; go_simp; with_reducible rfl) ?_; try simp only [Act.put, List.setIfInBounds_toArray, List.set_cons_zero, List.set_cons_succ]
        refine wpAnyK_done (by kernel_rfl) ?_ _
        go_wp2_with (simp only [hnk, hnv, e1.out, e2.out, e4.out])
        go_roundw
        case rel => exact ⟨k + 1, by omega, by omega, by rw [HT.out]; go_num, by go_num, hide_ HB.out.drew⟩
        case measure => simp [intOf]; omega
      · have q1 : (k : Int) < (n : Int) := by omega
        have q3 : ¬ (k : Int) < 100 := by omega
        obtain rfl : k = 100 := by omega
        have hnc := HNC.out
        have q4 : (100 : Int) < (n : Int) := by omega
        have q5 : (100 : Int) ≤ (c : Int) := by omega
        have q6 : 100 ≤ c := by omega
        have d0 := later_drew_cell (cell_of_row _ _ 0 _ _ (0, 0) ((HB.out.block _ (by have := HZ0.out; omega)).trans HBX.out))
        have d1 := later_drew_cell (cell_of_row _ _ 1 _ _ (0, 0) ((HB.out.block _ (by have := HZ0.out; omega)).trans HBX.out))
        have d2 := later_drew_cell (cell_of_row _ _ 2 _ _ (0, 0) ((HB.out.block _ (by have := HZ0.out; omega)).trans HBX.out))
        have HWT := hide_ (show ∀ W, Later w W → Calls Try.prog 20 #[.slice A 100 c] W fun e w' => e = .returned (.int .i64 (wsum (C.take 100) : Nat)) ∧ Later W w' from fun W hW => by
          refine weight_any (C := C.take 100) ?_ ?_ (by omega) ?_
          · have h1 := (HR.out.below hW).take (k := 100) (by omega)
            rwa [show (crow C).take (100 * 3) = crow (C.take 100) from rec_take encC_len C 100] at h1
          · rw [List.length_take, HL.out]; omega
          · have h1 := wsum_small (C := C.take 100) (b := 140737488351232) fun y hy => HC.out y (List.mem_of_mem_take hy)
            have h2 : (C.take 100).length ≤ 100 := by rw [List.length_take]; omega
            omega)
        obtain ⟨T, hT⟩ : ∃ T, wsum (C.take 100) = T := ⟨_, rfl⟩
        rw [hT] at HWT ⊢
        clear hT
        have HBD := hide_ (show Later w wr.drew from Below.drew (HB0.out.trans HB.out))
        go_wp2_with fail
        refine wp_region_k (by kernel_rfl) ?_
        refine wpAnyK_one 0 (by kernel_rfl) rfl (fun K hK => ?_)
        go_simp
        refine (awake_yes _).mono ?_; rintro e w3 ⟨rfl, hb3⟩; have d0 := later_on d0 hb3; have d1 := later_on d1 hb3; have d2 := later_on d2 hb3
        refine hK.out _ _ (by assumption) ?_
        clear hK K; try simp only [Act.put, List.setIfInBounds_toArray, List.set_cons_zero, List.set_cons_succ]
        refine wpAnyK_take 1 (v := ?_) rfl (by kernel_rfl) (by kernel_rfl) (by kernel_rfl) (fun _ _ _ h => h) (by rfl) (by intro W hSw; go_simp; with_reducible rfl) ?_; try simp only [Act.put, List.setIfInBounds_toArray, List.set_cons_zero, List.set_cons_succ]
        refine wpAnyK_take 2 (v := ?_) rfl (by kernel_rfl) (by kernel_rfl) (by kernel_rfl) (fun _ _ _ h => h) (by rfl) (by intro W hSw; go_simp; with_reducible rfl) ?_; try simp only [Act.put, List.setIfInBounds_toArray, List.set_cons_zero, List.set_cons_succ]
        refine wpAnyK_take 4 (v := ?_) rfl (by kernel_rfl) (by kernel_rfl) (by kernel_rfl) (fun _ _ _ h => h) (by rfl) (by intro W hSw; go_simp; with_reducible rfl) ?_; try simp only [Act.put, List.setIfInBounds_toArray, List.set_cons_zero, List.set_cons_succ]
        refine wpAnyK_one 3 (by kernel_rfl) rfl (fun K hK => ?_)
        go_simp
        refine (hck.out _).mono ?_; rintro e w4 ⟨rfl, hb4⟩; have d0 := later_on d0 hb4; have d1 := later_on d1 hb4; have d2 := later_on d2 hb4; have hb34 := hb3.trans hb4
        refine hK.out _ _ (by assumption) ?_
        clear hK K; try simp only [Act.put, List.setIfInBounds_toArray, List.set_cons_zero, List.set_cons_succ]
        refine wpAnyK_one 5 (by kernel_rfl) rfl (fun K hK => ?_)
        go_simp
        refine (hrck.out _).mono ?_; rintro e w5 ⟨rfl, hb5⟩; have HB5 := hide_ (show Later w w5 from HBD.out.trans (hb34.trans hb5))
        refine hK.out _ _ (by assumption) ?_
        clear hK K; try simp only [Act.put, List.setIfInBounds_toArray, List.set_cons_zero, List.set_cons_succ]
        refine wpAnyK_take 6 (v := ?_) rfl (by kernel_rfl) (by kernel_rfl) (by kernel_rfl) (fun _ _ _ h => h) (by rfl) (by intro W hSw; go_simp; with_reducible rfl) ?_; try simp only [Act.put, List.setIfInBounds_toArray, List.set_cons_zero, List.set_cons_succ]
        refine wpAnyK_take 7 (v := ?_) rfl (by kernel_rfl) (by kernel_rfl) (by kernel_rfl) (fun _ _ _ h => h) (by rfl) (by intro W hSw; go_simp; with_reducible rfl) ?_; try simp only [Act.put, List.setIfInBounds_toArray, List.set_cons_zero, List.set_cons_succ]
        refine wpAnyK_take 8 (v := ?_) rfl (by kernel_rfl) (by kernel_rfl) (by kernel_rfl) (fun _ _ _ h => h) (by rfl) (by intro W hSw; go_simp; with_reducible rfl) ?_; try simp only [Act.put, List.setIfInBounds_toArray, List.set_cons_zero, List.set_cons_succ]
        refine wpAnyK_take 9 (v := ?_) rfl (by kernel_rfl) (by kernel_rfl) (by kernel_rfl) (fun _ _ _ h => h) (by rfl) (by intro W hSw; go_simp; with_reducible rfl) ?_; try simp only [Act.put, List.setIfInBounds_toArray, List.set_cons_zero, List.set_cons_succ]
        refine wpAnyK_take 11 (v := ?_) rfl (by kernel_rfl) (by kernel_rfl) (by kernel_rfl) (fun _ _ _ h => h) (by rfl) (by intro W hSw; go_simp; with_reducible rfl) ?_; try simp only [Act.put, List.setIfInBounds_toArray, List.set_cons_zero, List.set_cons_succ]
        refine wpAnyK_one 10 (by kernel_rfl) rfl (fun K hK => ?_)
        go_simp
        refine (HWT.out _ HB5.out).mono ?_; rintro e w6 ⟨rfl, hb6⟩; have HB6 := hide_ (HB5.out.trans hb6)
        refine hK.out _ _ (by assumption) ?_
        clear hK K; try simp only [Act.put, List.setIfInBounds_toArray, List.set_cons_zero, List.set_cons_succ]
        refine wpAnyK_take 12 (v := ?_) rfl (by kernel_rfl) (by kernel_rfl) (by kernel_rfl) (fun _ _ _ h => h) (by rfl) (by intro W hSw; go_simp; with_reducible rfl) ?_; try simp only [Act.put, List.setIfInBounds_toArray, List.set_cons_zero, List.set_cons_succ]
        refine wpAnyK_take 13 (v := ?_) rfl (by kernel_rfl) (by kernel_rfl) (by kernel_rfl) (fun _ _ _ h => h) (by rfl) (by intro W hSw; go_simp; with_reducible rfl) ?_; try simp only [Act.put, List.setIfInBounds_toArray, List.set_cons_zero, List.set_cons_succ]
        refine wpAnyK_take 14 (v := ?_) rfl (by kernel_rfl) (by kernel_rfl) (by kernel_rfl) (fun _ _ _ h => h) (by rfl) (by intro W hSw; go_simp; with_reducible rfl) ?_; try simp only [Act.put, List.setIfInBounds_toArray, List.set_cons_zero, List.set_cons_succ]
        refine wpAnyK_done (by kernel_rfl) ?_ _
        go_wp2_with fail
        go_ret
        exact ⟨rfl, HB6.out⟩
    · have q1 : ¬ (k : Int) < (n : Int) := by omega
      obtain rfl : k = n := by omega
      have q4 : ¬ (100 : Int) < (k : Int) := by omega
      have d0 := later_drew_cell (cell_of_row _ _ 0 _ _ (0, 0) ((HB.out.block _ (by have := HZ0.out; omega)).trans HBX.out))
      have d1 := later_drew_cell (cell_of_row _ _ 1 _ _ (0, 0) ((HB.out.block _ (by have := HZ0.out; omega)).trans HBX.out))
      have d2 := later_drew_cell (cell_of_row _ _ 2 _ _ (0, 0) ((HB.out.block _ (by have := HZ0.out; omega)).trans HBX.out))
      have HWT := hide_ (show ∀ W, Later w W → Calls Try.prog 20 #[.slice A k c] W fun e w' => e = .returned (.int .i64 (wsum (C.take k) : Nat)) ∧ Later W w' from fun W hW => by
        refine weight_any (C := C.take k) ?_ ?_ (by omega) ?_
        · have h1 := (HR.out.below hW).take (k := k) (by omega)
          rwa [show (crow C).take (k * 3) = crow (C.take k) from rec_take encC_len C k] at h1
        · rw [List.length_take, HL.out]; omega
        · have h1 := wsum_small (C := C.take k) (b := 140737488351232) fun y hy => HC.out y (List.mem_of_mem_take hy)
          have h2 : (C.take k).length ≤ 100 := by rw [List.length_take]; omega
          omega)
      obtain ⟨T, hT⟩ : ∃ T, wsum (C.take k) = T := ⟨_, rfl⟩
      rw [hT] at HWT ⊢
      clear hT
      have HBD := hide_ (show Later w wr.drew from Below.drew (HB0.out.trans HB.out))
      go_wp2_with fail
      refine wp_region_k (by kernel_rfl) ?_
      refine wpAnyK_one 0 (by kernel_rfl) rfl (fun K hK => ?_)
      go_simp
      refine (awake_yes _).mono ?_; rintro e w3 ⟨rfl, hb3⟩; have d0 := later_on d0 hb3; have d1 := later_on d1 hb3; have d2 := later_on d2 hb3
      refine hK.out _ _ (by assumption) ?_
      clear hK K; try simp only [Act.put, List.setIfInBounds_toArray, List.set_cons_zero, List.set_cons_succ]
      refine wpAnyK_take 1 (v := ?_) rfl (by kernel_rfl) (by kernel_rfl) (by kernel_rfl) (fun _ _ _ h => h) (by rfl) (by intro W hSw; go_simp; with_reducible rfl) ?_; try simp only [Act.put, List.setIfInBounds_toArray, List.set_cons_zero, List.set_cons_succ]
      refine wpAnyK_take 2 (v := ?_) rfl (by kernel_rfl) (by kernel_rfl) (by kernel_rfl) (fun _ _ _ h => h) (by rfl) (by intro W hSw; go_simp; with_reducible rfl) ?_; try simp only [Act.put, List.setIfInBounds_toArray, List.set_cons_zero, List.set_cons_succ]
      refine wpAnyK_take 4 (v := ?_) rfl (by kernel_rfl) (by kernel_rfl) (by kernel_rfl) (fun _ _ _ h => h) (by rfl) (by intro W hSw; go_simp; with_reducible rfl) ?_; try simp only [Act.put, List.setIfInBounds_toArray, List.set_cons_zero, List.set_cons_succ]
      refine wpAnyK_one 3 (by kernel_rfl) rfl (fun K hK => ?_)
      go_simp
      refine (hck.out _).mono ?_; rintro e w4 ⟨rfl, hb4⟩; have d0 := later_on d0 hb4; have d1 := later_on d1 hb4; have d2 := later_on d2 hb4; have hb34 := hb3.trans hb4
      refine hK.out _ _ (by assumption) ?_
      clear hK K; try simp only [Act.put, List.setIfInBounds_toArray, List.set_cons_zero, List.set_cons_succ]
      refine wpAnyK_one 5 (by kernel_rfl) rfl (fun K hK => ?_)
      go_simp
      refine (hrck.out _).mono ?_; rintro e w5 ⟨rfl, hb5⟩; have HB5 := hide_ (show Later w w5 from HBD.out.trans (hb34.trans hb5))
      refine hK.out _ _ (by assumption) ?_
      clear hK K; try simp only [Act.put, List.setIfInBounds_toArray, List.set_cons_zero, List.set_cons_succ]
      refine wpAnyK_take 6 (v := ?_) rfl (by kernel_rfl) (by kernel_rfl) (by kernel_rfl) (fun _ _ _ h => h) (by rfl) (by intro W hSw; go_simp; with_reducible rfl) ?_; try simp only [Act.put, List.setIfInBounds_toArray, List.set_cons_zero, List.set_cons_succ]
      refine wpAnyK_take 7 (v := ?_) rfl (by kernel_rfl) (by kernel_rfl) (by kernel_rfl) (fun _ _ _ h => h) (by rfl) (by intro W hSw; go_simp; with_reducible rfl) ?_; try simp only [Act.put, List.setIfInBounds_toArray, List.set_cons_zero, List.set_cons_succ]
      refine wpAnyK_take 8 (v := ?_) rfl (by kernel_rfl) (by kernel_rfl) (by kernel_rfl) (fun _ _ _ h => h) (by rfl) (by intro W hSw; go_simp; with_reducible rfl) ?_; try simp only [Act.put, List.setIfInBounds_toArray, List.set_cons_zero, List.set_cons_succ]
      refine wpAnyK_take 9 (v := ?_) rfl (by kernel_rfl) (by kernel_rfl) (by kernel_rfl) (fun _ _ _ h => h) (by rfl) (by intro W hSw; go_simp; with_reducible rfl) ?_; try simp only [Act.put, List.setIfInBounds_toArray, List.set_cons_zero, List.set_cons_succ]
      refine wpAnyK_take 11 (v := ?_) rfl (by kernel_rfl) (by kernel_rfl) (by kernel_rfl) (fun _ _ _ h => h) (by rfl) (by intro W hSw; go_simp; with_reducible rfl) ?_; try simp only [Act.put, List.setIfInBounds_toArray, List.set_cons_zero, List.set_cons_succ]
      refine wpAnyK_one 10 (by kernel_rfl) rfl (fun K hK => ?_)
      go_simp
      refine (HWT.out _ HB5.out).mono ?_; rintro e w6 ⟨rfl, hb6⟩; have HB6 := hide_ (HB5.out.trans hb6)
      refine hK.out _ _ (by assumption) ?_
      clear hK K; try simp only [Act.put, List.setIfInBounds_toArray, List.set_cons_zero, List.set_cons_succ]
      refine wpAnyK_take 12 (v := ?_) rfl (by kernel_rfl) (by kernel_rfl) (by kernel_rfl) (fun _ _ _ h => h) (by rfl) (by intro W hSw; go_simp; with_reducible rfl) ?_; try simp only [Act.put, List.setIfInBounds_toArray, List.set_cons_zero, List.set_cons_succ]
      refine wpAnyK_take 13 (v := ?_) rfl (by kernel_rfl) (by kernel_rfl) (by kernel_rfl) (fun _ _ _ h => h) (by rfl) (by intro W hSw; go_simp; with_reducible rfl) ?_; try simp only [Act.put, List.setIfInBounds_toArray, List.set_cons_zero, List.set_cons_succ]
      refine wpAnyK_take 14 (v := ?_) rfl (by kernel_rfl) (by kernel_rfl) (by kernel_rfl) (fun _ _ _ h => h) (by rfl) (by intro W hSw; go_simp; with_reducible rfl) ?_; try simp only [Act.put, List.setIfInBounds_toArray, List.set_cons_zero, List.set_cons_succ]
      refine wpAnyK_done (by kernel_rfl) ?_ _
      go_wp2_with fail
      go_ret
      exact ⟨rfl, HB6.out⟩
theorem opensQ_changes {H : Type} {enc : TypeId × Value → H} : OpensQ enc Try.prog 23 (SliceSh 3 (fun w cs (a : Int × ByteArray × ByteArray) => ∃ u0 u1 u2, cs = [u0, u1, u2] ∧ IntSh .i64 w [u0] a.1 ∧ StringSh w [u1] a.2.1 ∧ StringSh w [u2] a.2.2)) (fun xs => xs.length * Try.prog.bytesOf 32 ≤ reachBytes ∧ ∀ x, x ∈ xs → True ∧ x.2.1.size ≤ reachBytes ∧ x.2.2.size ≤ reachBytes) :=
  opensQ_slice (size := 3) Try.underlying23 (by kernel_rfl) (by omega) (opensQ_struct3 Try.underlying32 (by kernel_rfl) ⟨rfl, rfl, rfl⟩ ⟨by kernel_rfl, by kernel_rfl, by kernel_rfl⟩ (opensQ_int Try.underlying3) (opensQ_string Try.underlying9) (opensQ_string Try.underlying9))
set_option maxRecDepth 20000 in
theorem open_changesQ {H : Type} {enc : TypeId × Value → H} {W : World} {b base : Nat} {held : Bool} {r : Reach} {v : Value} {d : DataW H} {p : List MemPlace} (hv : Value.okWide Try.prog W r base 23 v) (h : DataW.Trod enc Try.prog W b (fun _ => true) held 23 v d p) (hs : ∀ n, n ∈ DataW.weights Try.prog 23 d → n ≤ reachBytes) :
    ∃ (A : Option Addr) (c : Nat) (L : List Chg), v = .slice A L.length c ∧ L.length ≤ c ∧ c ≤ maxLen ∧ (A = none → L.length = 0) ∧ Rd W 3 A L.length (crow L) ∧ ∀ x, x ∈ L → x.2.1.size ≤ 140737488351232 ∧ x.2.2.size ≤ 140737488351232 := by
  obtain ⟨L, hL, hb⟩ := open_shQ opensQ_changes Try.underlying23 hv h
  obtain ⟨A, c, h1, h2, h3, h4, h5⟩ := rd_of_sh (enc := encC) encC_len (by omega) (fun cs x hx => by
    obtain ⟨u0, u1, u2, rfl, ⟨e0, _⟩, ⟨e1, _⟩, ⟨e2, _⟩⟩ := hx
    injection e0 with e0; injection e1 with e1; injection e2 with e2
    subst e0 e1 e2; rfl) hL
  exact ⟨A, c, L, h1, h2, h3, h4, h5, fun x hx => ⟨((hb hs).2 x hx).2.1, ((hb hs).2 x hx).2.2⟩⟩
set_option maxRecDepth 20000 in
theorem changeChecks_contract (H : Type) (enc : TypeId × Value → H) (W : World) (base : Nat) (args : Array Value) (ds : List (DataW H)) (before : List MemPlace)
    (hval : ∀ (j : Nat) t v, Try.f5.params[j]? = some t → args[j]? = some v → Value.okWide Try.prog W .any base t v)
    (hA : DataW.TrodAll enc Try.prog W 0 (fun _ => true) true Try.f5.params.toList args.toList ds before)
    (_hsz : (DataW.weightsEach Try.prog (Try.f5.params.toList ++ Rows.changeChecksSpec.plain.varTypes Try.prog) (ds ++ [])).all (· ≤ reachBytes) = true) :
    Calls Try.prog 5 args W fun e W' => e = .returned (.bool true) ∧ Below W.heap.size W W' := by
  rw [Try.params5] at hA hval _hsz
  obtain ⟨v0, vs0, d0, ds0, p0, q0, hargs, rfl, rfl, h0, r0⟩ := trodAll_cons hA
  obtain ⟨v1, vs1, d1, ds1, p1, q1, rfl, rfl, rfl, h1, r1⟩ := trodAll_cons r0
  obtain ⟨rfl, rfl, rfl⟩ := trodAll_nil r1
  obtain rfl : args = #[v0, v1] := by cases args; simp_all
  obtain ⟨x, rfl, _, _⟩ := open_change (hval 0 32 v0 rfl rfl) h0
  obtain ⟨A, c, C, rfl, hlc, _, _, hR, hC⟩ := open_changesQ (hval 1 23 v1 rfl rfl) h1 (weightsEach_at _hsz (j := 1) rfl rfl)
  exact changeChecks_walk x A C.length c C W hR rfl hlc hC

set_option maxRecDepth 100000 in
theorem changeChecks_lifted (os : Os) (started : os.Started) (H : Type) (enc : TypeId × Value → H) :
    ReturnsInHanded {} Try.checked os 5 .any (Rows.changeChecksSpec.pre6 enc Try.prog Try.f5 Rows.changeChecksRow.domain false) (Rows.changeChecksSpec.post enc Try.prog Try.f5 false true false false) := by
  refine returnsInHanded_of_change_sized (C := Try.checked) own started (by kernel_rfl) Try.func5
    (ChangeSpec.witness6 (enc := enc) (C := Try.checked) false ⟨#[], #[.agg #[.int .i64 0, .string ByteArray.empty, .string ByteArray.empty], .slice none 0 0], []⟩ 8 (by kernel_rfl) (by kernel_rfl) (by kernel_rfl) (by kernel_rfl)) ?_
  intro W base args ds gs before hval hW _ hsz _
  have hW' := hW
  obtain ⟨p, q, hA0, hV, rfl, hfz, hnd⟩ := hW
  obtain ⟨rfl, rfl⟩ := trodVars_none hV
  have hA : DataW.TrodAll enc Try.prog W 0 (fun _ => true) true Try.f5.params.toList args.toList ds p := hA0
  refine (changeChecks_contract H enc W base args ds p hval hA hsz).mono fun e W' ⟨he, hb⟩ => ?_
  subst he
  have hds : ds.length = 2 := by
    rw [Try.params5] at hA
    obtain ⟨v0, vs0, d0, ds0, p0, q0, _, rfl, rfl, _, r0⟩ := trodAll_cons hA
    obtain ⟨v1, vs1, d1, ds1, p1, q1, _, rfl, rfl, _, r1⟩ := trodAll_cons r0
    obtain ⟨_, rfl, rfl⟩ := trodAll_nil r1
    rfl
  have hsh : ∃ d0 d1 : DataW H, ds = [d0, d1] := by
    match ds, hds with
    | [d0, d1], _ => exact ⟨d0, d1, rfl⟩
  obtain ⟨d0, d1, rfl⟩ := hsh
  exact ⟨_, rfl, post_law (s := Rows.changeChecksSpec) laidOut (by kernel_rfl) Try.underlying4 rfl (by kernel_rfl) hW' rfl rfl rfl hb⟩
theorem changeChecks_over : Rows.changeChecksRow.holds Try.pinned (OpenSpec.ofChange Rows.changeChecksSpec) :=
  OpenClaim.holds_of_wide 5 Try.f5 rfl rfl rfl rfl rfl rfl rfl ⟨rfl, rfl, rfl, rfl, rfl⟩ rfl rfl rfl rfl rfl (by kernel_rfl) Try.func5 (by kernel_rfl)
    (of_decide_eq_true (by kernel_rfl)) (by unfold Func.isWrapper; first | (rw [if_pos (by decide +kernel)]; kernel_rfl) | (rw [if_neg (by decide +kernel)]; exact ⟨rfl, rfl⟩))
    (fun os started H enc _ => changeChecks_lifted os started H enc)
/-- The statement. -/
theorem changeChecks_holds : Rows.ChangeChecksSaid := changeChecks_over
end Go.Proofs.Ytblljpdlmllceaa
