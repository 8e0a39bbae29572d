/-
  SpanMeets: for any two spans and any key the program's Meet is the document's, is the same in either order, and has the key just if both have it; it writes nothing that was there.
  Conditions: none but the row's own.
-/
import Derived.Test.YtlllcepoglklcaaMeet
namespace Go.Proofs.Ytlllcepoglklcaa
open Go.ChangeShapes Go.WideShapes Go.ChangeAt Go.RowKit
open Go.ChangeMaps (open_string)
set_option linter.unusedVariables false
set_option linter.unusedSimpArgs false
set_option maxHeartbeats 4000000 in
theorem spanMeets_walk (a b : Spn) (k : ByteArray) (w : World) :
    Calls Try.prog 7 #[.agg #[.string a.1, .string a.2], .agg #[.string b.1, .string b.2], .string k] w fun e w' => e = .returned (.bool true) ∧ Below w.heap.size w w' := by
  obtain ⟨m, hm⟩ : ∃ m, m = meetS a b := ⟨_, rfl⟩
  obtain ⟨ca, ha⟩ := inS_dec a k
  obtain ⟨cb, hb⟩ := inS_dec b k
  obtain ⟨cm, hcm⟩ := inS_dec m k
  have hin := meet_in a b k
  rw [← hm, ← ha, ← hb, ← hcm] at hin
  have hM := fun W => meet_any a b W
  have hM2 := fun W => meet_any b a W
  have hR := fun W => rmeet_any a b W
  rw [meet_comm b a] at hM2
  rw [← hm] at hM hM2 hR
  have h1 := fun W => has_b a k ca ha W
  have h2 := fun W => has_b b k cb hb W
  have h3 := fun W => has_b m k cm hcm W
  have q1 := fun W => eq_span m m W
  simp only [decide_true] at q1
  have q2 := guard_span
  clear hm ha hb hcm
  obtain ⟨W0, hW0⟩ : ∃ W0, W0 = (w.alloc (.cells #[.string a.1, .string a.2] 23)).alloc (.cells #[.string b.1, .string b.2] 23) := ⟨_, rfl⟩
  have hnew := heap_alloc_new (w.alloc (.cells #[.string a.1, .string a.2] 23)) (.cells #[.string b.1, .string b.2] 23)
  rw [show (w.alloc (.cells #[.string a.1, .string a.2] 23)).heap.size = w.heap.size + 1 by simp] at hnew
  have hsz : W0.heap.size = w.heap.size + 1 + 1 := by rw [hW0]; simp
  have c1 : W0.cell? ⟨w.heap.size, 0, none⟩ = some (.string a.1) := by rw [hW0]; exact cell_of_row _ _ 0 _ _ (0, 0) (row_alloc (heap_alloc_new w _) _)
  have c2 : W0.cell? ⟨w.heap.size, 1, none⟩ = some (.string a.2) := by rw [hW0]; exact cell_of_row _ _ 1 _ _ (0, 0) (row_alloc (heap_alloc_new w _) _)
  have c3 : W0.cell? ⟨w.heap.size + 1, 0, none⟩ = some (.string b.1) := by rw [hW0]; exact cell_of_row _ _ 0 _ _ (0, 0) hnew
  have c4 : W0.cell? ⟨w.heap.size + 1, 1, none⟩ = some (.string b.2) := by rw [hW0]; exact cell_of_row _ _ 1 _ _ (0, 0) hnew
  have HB := hide_ (show Below w.heap.size w W0 by rw [hW0]; exact ((Below.refl _ _).alloc (Nat.le_refl _) _).alloc (by simp) _)
  have H0 := hide_ hW0.symm
  have HZ := hide_ hsz
  clear hW0 hsz hnew
  go_enter Try.func7, Try.ntmps7
  go_wp2_with fail
  rw [H0.out]
  refine (hM _).mono ?_; rintro e w1 ⟨rfl, hb1⟩
  have d1 := (hb1.cell (p := ⟨w.heap.size, 0, none⟩) (cell_lt c1)).trans c1
  have d2 := (hb1.cell (p := ⟨w.heap.size, 1, none⟩) (cell_lt c2)).trans c2
  have d3 := (hb1.cell (p := ⟨w.heap.size + 1, 0, none⟩) (cell_lt c3)).trans c3
  have d4 := (hb1.cell (p := ⟨w.heap.size + 1, 1, none⟩) (cell_lt c4)).trans c4
  have HB1 := hide_ (below_step HB.out hb1)
  clear H0 c1 c2 c3 c4 hb1
  obtain ⟨W2, hW2⟩ : ∃ W2, W2 = w1.alloc (.cells #[.string m.1, .string m.2] 23) := ⟨_, rfl⟩
  have e1 := cell_alloc d1 (.cells #[.string m.1, .string m.2] 23)
  have e2 := cell_alloc d2 (.cells #[.string m.1, .string m.2] 23)
  have e3 := cell_alloc d3 (.cells #[.string m.1, .string m.2] 23)
  have e4 := cell_alloc d4 (.cells #[.string m.1, .string m.2] 23)
  have e5 := cell_of_row _ _ 0 _ _ (0, 0) (heap_alloc_new w1 (.cells #[.string m.1, .string m.2] 23))
  have e6 := cell_of_row _ _ 1 _ _ (0, 0) (heap_alloc_new w1 (.cells #[.string m.1, .string m.2] 23))
  rw [← hW2] at e1 e2 e3 e4 e5 e6
  have HB := hide_ (show Below w.heap.size w W2.drew by rw [hW2]; exact (HB1.out.alloc HB1.out.size _).drew)
  have l1 := later_drew_cell e1
  have l2 := later_drew_cell e2
  have l3 := later_drew_cell e3
  have l4 := later_drew_cell e4
  have l5 := later_drew_cell (show W2.cell? ⟨w1.heap.size, 0, none⟩ = some (.string m.1) from e5)
  have l6 := later_drew_cell (show W2.cell? ⟨w1.heap.size, 1, none⟩ = some (.string m.2) from e6)
  have H2 := hide_ hW2.symm
  clear hW2 e1 e2 e3 e4 e5 e6 d1 d2 d3 d4
  cases ca <;> cases cb <;> cases cm
  all_goals try (exfalso; revert hin; decide)
  all_goals clear hin
  all_goals go_wp2_with fail
  all_goals rw [H2.out]
  all_goals clear H2
  · skip
    refine wp_region_k (by kernel_rfl) ?_
    refine wpAnyK_one 0 (by kernel_rfl) rfl (fun K hK => ?_)
    go_simp
    refine (awake_any _).mono ?_; rintro e w3 ⟨rfl, hb3⟩; have l1 := later_step l1 hb3; have l2 := later_step l2 hb3; have l3 := later_step l3 hb3; have l4 := later_step l4 hb3; have l5 := later_step l5 hb3; have l6 := later_step l6 hb3; have HB := hide_ (below_step HB.out hb3)
    refine hK.out _ _ (by assumption) ?_
    clear hK K; try simp only [Act.put, List.setIfInBounds_toArray, List.set_cons_zero, List.set_cons_succ]
    refine wpAnyK_take 1 (v := ?_) rfl (by kernel_rfl) (by kernel_rfl) (by kernel_rfl) (fun _ _ _ h => h) (by rfl) (by intro W hSw; go_simp; with_reducible rfl) ?_; try simp only [Act.put, List.setIfInBounds_toArray, List.set_cons_zero, List.set_cons_succ]
    refine wpAnyK_take 2 (v := ?_) rfl (by kernel_rfl) (by kernel_rfl) (by kernel_rfl) (fun _ _ _ h => h) (by rfl) (by intro W hSw; go_simp; with_reducible rfl) ?_; try simp only [Act.put, List.setIfInBounds_toArray, List.set_cons_zero, List.set_cons_succ]
    refine wpAnyK_take 3 (v := ?_) rfl (by kernel_rfl) (by kernel_rfl) (by kernel_rfl) (fun _ _ _ h => h) (by rfl) (by intro W hSw; go_simp; with_reducible rfl) ?_; try simp only [Act.put, List.setIfInBounds_toArray, List.set_cons_zero, List.set_cons_succ]
    refine wpAnyK_take 4 (v := ?_) rfl (by kernel_rfl) (by kernel_rfl) (by kernel_rfl) (fun _ _ _ h => h) (by rfl) (by intro W hSw; go_simp; with_reducible rfl) ?_; try simp only [Act.put, List.setIfInBounds_toArray, List.set_cons_zero, List.set_cons_succ]
    refine wpAnyK_one 5 (by kernel_rfl) rfl (fun K hK => ?_)
    go_simp
    refine (hR _).mono ?_; rintro e w3 ⟨rfl, hb3⟩; have l1 := later_step l1 hb3; have l2 := later_step l2 hb3; have l3 := later_step l3 hb3; have l4 := later_step l4 hb3; have l5 := later_step l5 hb3; have l6 := later_step l6 hb3; have HB := hide_ (below_step HB.out hb3)
    refine hK.out _ _ (by assumption) ?_
    clear hK K; try simp only [Act.put, List.setIfInBounds_toArray, List.set_cons_zero, List.set_cons_succ]
    refine wpAnyK_take 6 (v := ?_) rfl (by kernel_rfl) (by kernel_rfl) (by kernel_rfl) (fun _ _ _ h => h) (by rfl) (by intro W hSw; go_simp; with_reducible rfl) ?_; try simp only [Act.put, List.setIfInBounds_toArray, List.set_cons_zero, List.set_cons_succ]
    refine wpAnyK_take 7 (v := ?_) rfl (by kernel_rfl) (by kernel_rfl) (by kernel_rfl) (fun _ _ _ h => h) (by rfl) (by intro W hSw; go_simp; with_reducible rfl) ?_; try simp only [Act.put, List.setIfInBounds_toArray, List.set_cons_zero, List.set_cons_succ]
    refine wpAnyK_take 8 (v := ?_) rfl (by kernel_rfl) (by kernel_rfl) (by kernel_rfl) (fun _ _ _ h => h) (by rfl) (by intro W hSw; go_simp; with_reducible rfl) ?_; try simp only [Act.put, List.setIfInBounds_toArray, List.set_cons_zero, List.set_cons_succ]
    refine wpAnyK_take 9 (v := ?_) rfl (by kernel_rfl) (by kernel_rfl) (by kernel_rfl) (fun _ _ _ h => h) (by rfl) (by intro W hSw; go_simp; with_reducible rfl) ?_; try simp only [Act.put, List.setIfInBounds_toArray, List.set_cons_zero, List.set_cons_succ]
    refine wpAnyK_take 10 (v := ?_) rfl (by kernel_rfl) (by kernel_rfl) (by kernel_rfl) (fun _ _ _ h => h) (by rfl) (by intro W hSw; go_simp; with_reducible rfl) ?_; try simp only [Act.put, List.setIfInBounds_toArray, List.set_cons_zero, List.set_cons_succ]
    refine wpAnyK_take 11 (v := ?_) rfl (by kernel_rfl) (by kernel_rfl) (by kernel_rfl) (fun _ _ _ h => h) (by rfl) (by intro W hSw; go_simp; with_reducible rfl) ?_; try simp only [Act.put, List.setIfInBounds_toArray, List.set_cons_zero, List.set_cons_succ]
    refine wpAnyK_one 12 (by kernel_rfl) rfl (fun K hK => ?_)
    go_simp
    refine (hM2 _).mono ?_; rintro e w3 ⟨rfl, hb3⟩; have l1 := later_step l1 hb3; have l2 := later_step l2 hb3; have l3 := later_step l3 hb3; have l4 := later_step l4 hb3; have l5 := later_step l5 hb3; have l6 := later_step l6 hb3; have HB := hide_ (below_step HB.out hb3)
    refine hK.out _ _ (by assumption) ?_
    clear hK K; try simp only [Act.put, List.setIfInBounds_toArray, List.set_cons_zero, List.set_cons_succ]
    refine wpAnyK_take 13 (v := ?_) rfl (by kernel_rfl) (by kernel_rfl) (by kernel_rfl) (fun _ _ _ h => h) (by rfl) (by intro W hSw; go_simp; with_reducible rfl) ?_; try simp only [Act.put, List.setIfInBounds_toArray, List.set_cons_zero, List.set_cons_succ]
    refine wpAnyK_take 14 (v := ?_) rfl (by kernel_rfl) (by kernel_rfl) (by kernel_rfl) (fun _ _ _ h => h) (by rfl) (by intro W hSw; go_simp; with_reducible rfl) ?_; try simp only [Act.put, List.setIfInBounds_toArray, List.set_cons_zero, List.set_cons_succ]
    refine wpAnyK_take 15 (v := ?_) rfl (by kernel_rfl) (by kernel_rfl) (by kernel_rfl) (fun _ _ _ h => h) (by rfl) (by intro W hSw; go_simp; with_reducible rfl) ?_; try simp only [Act.put, List.setIfInBounds_toArray, List.set_cons_zero, List.set_cons_succ]
    refine wpAnyK_take 16 (v := ?_) rfl (by kernel_rfl) (by kernel_rfl) (by kernel_rfl) (fun _ _ _ h => h) (by rfl) (by intro W hSw; go_simp; with_reducible rfl) ?_; try simp only [Act.put, List.setIfInBounds_toArray, List.set_cons_zero, List.set_cons_succ]
    refine wpAnyK_take 17 (v := ?_) rfl (by kernel_rfl) (by kernel_rfl) (by kernel_rfl) (fun _ _ _ h => h) (by rfl) (by intro W hSw; go_simp; with_reducible rfl) ?_; try simp only [Act.put, List.setIfInBounds_toArray, List.set_cons_zero, List.set_cons_succ]
    refine wpAnyK_take 19 (v := ?_) rfl (by kernel_rfl) (by kernel_rfl) (by kernel_rfl) (fun _ _ _ h => h) (by rfl) (by intro W hSw; go_simp; with_reducible rfl) ?_; try simp only [Act.put, List.setIfInBounds_toArray, List.set_cons_zero, List.set_cons_succ]
    refine wpAnyK_take 20 (v := ?_) rfl (by kernel_rfl) (by kernel_rfl) (by kernel_rfl) (fun _ _ _ h => h) (by rfl) (by intro W hSw; go_simp; with_reducible rfl) ?_; try simp only [Act.put, List.setIfInBounds_toArray, List.set_cons_zero, List.set_cons_succ]
    refine wpAnyK_one 18 (by kernel_rfl) rfl (fun K hK => ?_)
    go_simp
    (with_reducible refine (h3 _).mono ?_); rintro e w3 ⟨rfl, hb3⟩; have l1 := later_step l1 hb3; have l2 := later_step l2 hb3; have l3 := later_step l3 hb3; have l4 := later_step l4 hb3; have l5 := later_step l5 hb3; have l6 := later_step l6 hb3; have HB := hide_ (below_step HB.out hb3)
    refine hK.out _ _ (by assumption) ?_
    clear hK K; try simp only [Act.put, List.setIfInBounds_toArray, List.set_cons_zero, List.set_cons_succ]
    refine wpAnyK_one 21 (by kernel_rfl) rfl (fun K hK => ?_)
    go_simp
    (with_reducible refine (h1 _).mono ?_); rintro e w3 ⟨rfl, hb3⟩; have l1 := later_step l1 hb3; have l2 := later_step l2 hb3; have l3 := later_step l3 hb3; have l4 := later_step l4 hb3; have l5 := later_step l5 hb3; have l6 := later_step l6 hb3; have HB := hide_ (below_step HB.out hb3)
    refine hK.out _ _ (by assumption) ?_
    clear hK K; try simp only [Act.put, List.setIfInBounds_toArray, List.set_cons_zero, List.set_cons_succ]
    refine wpAnyK_take 22 (v := ?_) rfl (by kernel_rfl) (by kernel_rfl) (by kernel_rfl) (fun _ _ _ h => h) (by rfl) (by intro W hSw; go_simp; with_reducible rfl) ?_; try simp only [Act.put, List.setIfInBounds_toArray, List.set_cons_zero, List.set_cons_succ]
    refine wpAnyK_skip 23 rfl (by kernel_rfl) (by kernel_rfl) (by kernel_rfl) (fun _ _ _ h => h) (by rfl) ?_; try simp only [Act.put, List.setIfInBounds_toArray, List.set_cons_zero, List.set_cons_succ]
    refine wpAnyK_skip 24 rfl (by kernel_rfl) (by kernel_rfl) (by kernel_rfl) (fun _ _ _ h => h) (by rfl) ?_; try simp only [Act.put, List.setIfInBounds_toArray, List.set_cons_zero, List.set_cons_succ]
    refine wpAnyK_skip 25 rfl (by kernel_rfl) (by kernel_rfl) (by kernel_rfl) (fun _ _ _ h => h) (by rfl) ?_; try simp only [Act.put, List.setIfInBounds_toArray, List.set_cons_zero, List.set_cons_succ]
    refine wpAnyK_take 26 (v := ?_) rfl (by kernel_rfl) (by kernel_rfl) (by kernel_rfl) (fun _ _ _ h => h) (by rfl) (by intro W hSw; go_simp; with_reducible rfl) ?_; try simp only [Act.put, List.setIfInBounds_toArray, List.set_cons_zero, List.set_cons_succ]
    refine wpAnyK_take 27 (v := ?_) rfl (by kernel_rfl) (by kernel_rfl) (by kernel_rfl) (fun _ _ _ h => h) (by rfl) (by intro W hSw; go_simp; with_reducible rfl) ?_; try simp only [Act.put, List.setIfInBounds_toArray, List.set_cons_zero, List.set_cons_succ]
    refine wpAnyK_take 28 (v := ?_) rfl (by kernel_rfl) (by kernel_rfl) (by kernel_rfl) (fun _ _ _ h => h) (by rfl) (by intro W hSw; go_simp; with_reducible rfl) ?_; try simp only [Act.put, List.setIfInBounds_toArray, List.set_cons_zero, List.set_cons_succ]
    refine wpAnyK_take 29 (v := ?_) rfl (by kernel_rfl) (by kernel_rfl) (by kernel_rfl) (fun _ _ _ h => h) (by rfl) (by intro W hSw; go_simp; with_reducible rfl) ?_; try simp only [Act.put, List.setIfInBounds_toArray, List.set_cons_zero, List.set_cons_succ]
    refine wpAnyK_done (by kernel_rfl) ?_ _
    go_wp2_with fail
    go_ret
    exact ⟨rfl, HB.out⟩
  · skip
    refine wp_region_k (by kernel_rfl) ?_
    refine wpAnyK_one 0 (by kernel_rfl) rfl (fun K hK => ?_)
    go_simp
    refine (awake_any _).mono ?_; rintro e w3 ⟨rfl, hb3⟩; have l1 := later_step l1 hb3; have l2 := later_step l2 hb3; have l3 := later_step l3 hb3; have l4 := later_step l4 hb3; have l5 := later_step l5 hb3; have l6 := later_step l6 hb3; have HB := hide_ (below_step HB.out hb3)
    refine hK.out _ _ (by assumption) ?_
    clear hK K; try simp only [Act.put, List.setIfInBounds_toArray, List.set_cons_zero, List.set_cons_succ]
    refine wpAnyK_take 1 (v := ?_) rfl (by kernel_rfl) (by kernel_rfl) (by kernel_rfl) (fun _ _ _ h => h) (by rfl) (by intro W hSw; go_simp; with_reducible rfl) ?_; try simp only [Act.put, List.setIfInBounds_toArray, List.set_cons_zero, List.set_cons_succ]
    refine wpAnyK_take 2 (v := ?_) rfl (by kernel_rfl) (by kernel_rfl) (by kernel_rfl) (fun _ _ _ h => h) (by rfl) (by intro W hSw; go_simp; with_reducible rfl) ?_; try simp only [Act.put, List.setIfInBounds_toArray, List.set_cons_zero, List.set_cons_succ]
    refine wpAnyK_take 3 (v := ?_) rfl (by kernel_rfl) (by kernel_rfl) (by kernel_rfl) (fun _ _ _ h => h) (by rfl) (by intro W hSw; go_simp; with_reducible rfl) ?_; try simp only [Act.put, List.setIfInBounds_toArray, List.set_cons_zero, List.set_cons_succ]
    refine wpAnyK_take 4 (v := ?_) rfl (by kernel_rfl) (by kernel_rfl) (by kernel_rfl) (fun _ _ _ h => h) (by rfl) (by intro W hSw; go_simp; with_reducible rfl) ?_; try simp only [Act.put, List.setIfInBounds_toArray, List.set_cons_zero, List.set_cons_succ]
    refine wpAnyK_one 5 (by kernel_rfl) rfl (fun K hK => ?_)
    go_simp
    refine (hR _).mono ?_; rintro e w3 ⟨rfl, hb3⟩; have l1 := later_step l1 hb3; have l2 := later_step l2 hb3; have l3 := later_step l3 hb3; have l4 := later_step l4 hb3; have l5 := later_step l5 hb3; have l6 := later_step l6 hb3; have HB := hide_ (below_step HB.out hb3)
    refine hK.out _ _ (by assumption) ?_
    clear hK K; try simp only [Act.put, List.setIfInBounds_toArray, List.set_cons_zero, List.set_cons_succ]
    refine wpAnyK_take 6 (v := ?_) rfl (by kernel_rfl) (by kernel_rfl) (by kernel_rfl) (fun _ _ _ h => h) (by rfl) (by intro W hSw; go_simp; with_reducible rfl) ?_; try simp only [Act.put, List.setIfInBounds_toArray, List.set_cons_zero, List.set_cons_succ]
    refine wpAnyK_take 7 (v := ?_) rfl (by kernel_rfl) (by kernel_rfl) (by kernel_rfl) (fun _ _ _ h => h) (by rfl) (by intro W hSw; go_simp; with_reducible rfl) ?_; try simp only [Act.put, List.setIfInBounds_toArray, List.set_cons_zero, List.set_cons_succ]
    refine wpAnyK_take 8 (v := ?_) rfl (by kernel_rfl) (by kernel_rfl) (by kernel_rfl) (fun _ _ _ h => h) (by rfl) (by intro W hSw; go_simp; with_reducible rfl) ?_; try simp only [Act.put, List.setIfInBounds_toArray, List.set_cons_zero, List.set_cons_succ]
    refine wpAnyK_take 9 (v := ?_) rfl (by kernel_rfl) (by kernel_rfl) (by kernel_rfl) (fun _ _ _ h => h) (by rfl) (by intro W hSw; go_simp; with_reducible rfl) ?_; try simp only [Act.put, List.setIfInBounds_toArray, List.set_cons_zero, List.set_cons_succ]
    refine wpAnyK_take 10 (v := ?_) rfl (by kernel_rfl) (by kernel_rfl) (by kernel_rfl) (fun _ _ _ h => h) (by rfl) (by intro W hSw; go_simp; with_reducible rfl) ?_; try simp only [Act.put, List.setIfInBounds_toArray, List.set_cons_zero, List.set_cons_succ]
    refine wpAnyK_take 11 (v := ?_) rfl (by kernel_rfl) (by kernel_rfl) (by kernel_rfl) (fun _ _ _ h => h) (by rfl) (by intro W hSw; go_simp; with_reducible rfl) ?_; try simp only [Act.put, List.setIfInBounds_toArray, List.set_cons_zero, List.set_cons_succ]
    refine wpAnyK_one 12 (by kernel_rfl) rfl (fun K hK => ?_)
    go_simp
    refine (hM2 _).mono ?_; rintro e w3 ⟨rfl, hb3⟩; have l1 := later_step l1 hb3; have l2 := later_step l2 hb3; have l3 := later_step l3 hb3; have l4 := later_step l4 hb3; have l5 := later_step l5 hb3; have l6 := later_step l6 hb3; have HB := hide_ (below_step HB.out hb3)
    refine hK.out _ _ (by assumption) ?_
    clear hK K; try simp only [Act.put, List.setIfInBounds_toArray, List.set_cons_zero, List.set_cons_succ]
    refine wpAnyK_take 13 (v := ?_) rfl (by kernel_rfl) (by kernel_rfl) (by kernel_rfl) (fun _ _ _ h => h) (by rfl) (by intro W hSw; go_simp; with_reducible rfl) ?_; try simp only [Act.put, List.setIfInBounds_toArray, List.set_cons_zero, List.set_cons_succ]
    refine wpAnyK_take 14 (v := ?_) rfl (by kernel_rfl) (by kernel_rfl) (by kernel_rfl) (fun _ _ _ h => h) (by rfl) (by intro W hSw; go_simp; with_reducible rfl) ?_; try simp only [Act.put, List.setIfInBounds_toArray, List.set_cons_zero, List.set_cons_succ]
    refine wpAnyK_take 15 (v := ?_) rfl (by kernel_rfl) (by kernel_rfl) (by kernel_rfl) (fun _ _ _ h => h) (by rfl) (by intro W hSw; go_simp; with_reducible rfl) ?_; try simp only [Act.put, List.setIfInBounds_toArray, List.set_cons_zero, List.set_cons_succ]
    refine wpAnyK_take 16 (v := ?_) rfl (by kernel_rfl) (by kernel_rfl) (by kernel_rfl) (fun _ _ _ h => h) (by rfl) (by intro W hSw; go_simp; with_reducible rfl) ?_; try simp only [Act.put, List.setIfInBounds_toArray, List.set_cons_zero, List.set_cons_succ]
    refine wpAnyK_take 17 (v := ?_) rfl (by kernel_rfl) (by kernel_rfl) (by kernel_rfl) (fun _ _ _ h => h) (by rfl) (by intro W hSw; go_simp; with_reducible rfl) ?_; try simp only [Act.put, List.setIfInBounds_toArray, List.set_cons_zero, List.set_cons_succ]
    refine wpAnyK_take 19 (v := ?_) rfl (by kernel_rfl) (by kernel_rfl) (by kernel_rfl) (fun _ _ _ h => h) (by rfl) (by intro W hSw; go_simp; with_reducible rfl) ?_; try simp only [Act.put, List.setIfInBounds_toArray, List.set_cons_zero, List.set_cons_succ]
    refine wpAnyK_take 20 (v := ?_) rfl (by kernel_rfl) (by kernel_rfl) (by kernel_rfl) (fun _ _ _ h => h) (by rfl) (by intro W hSw; go_simp; with_reducible rfl) ?_; try simp only [Act.put, List.setIfInBounds_toArray, List.set_cons_zero, List.set_cons_succ]
    refine wpAnyK_one 18 (by kernel_rfl) rfl (fun K hK => ?_)
    go_simp
    (with_reducible refine (h3 _).mono ?_); rintro e w3 ⟨rfl, hb3⟩; have l1 := later_step l1 hb3; have l2 := later_step l2 hb3; have l3 := later_step l3 hb3; have l4 := later_step l4 hb3; have l5 := later_step l5 hb3; have l6 := later_step l6 hb3; have HB := hide_ (below_step HB.out hb3)
    refine hK.out _ _ (by assumption) ?_
    clear hK K; try simp only [Act.put, List.setIfInBounds_toArray, List.set_cons_zero, List.set_cons_succ]
    refine wpAnyK_one 21 (by kernel_rfl) rfl (fun K hK => ?_)
    go_simp
    (with_reducible refine (h1 _).mono ?_); rintro e w3 ⟨rfl, hb3⟩; have l1 := later_step l1 hb3; have l2 := later_step l2 hb3; have l3 := later_step l3 hb3; have l4 := later_step l4 hb3; have l5 := later_step l5 hb3; have l6 := later_step l6 hb3; have HB := hide_ (below_step HB.out hb3)
    refine hK.out _ _ (by assumption) ?_
    clear hK K; try simp only [Act.put, List.setIfInBounds_toArray, List.set_cons_zero, List.set_cons_succ]
    refine wpAnyK_take 22 (v := ?_) rfl (by kernel_rfl) (by kernel_rfl) (by kernel_rfl) (fun _ _ _ h => h) (by rfl) (by intro W hSw; go_simp; with_reducible rfl) ?_; try simp only [Act.put, List.setIfInBounds_toArray, List.set_cons_zero, List.set_cons_succ]
    refine wpAnyK_skip 23 rfl (by kernel_rfl) (by kernel_rfl) (by kernel_rfl) (fun _ _ _ h => h) (by rfl) ?_; try simp only [Act.put, List.setIfInBounds_toArray, List.set_cons_zero, List.set_cons_succ]
    refine wpAnyK_skip 24 rfl (by kernel_rfl) (by kernel_rfl) (by kernel_rfl) (fun _ _ _ h => h) (by rfl) ?_; try simp only [Act.put, List.setIfInBounds_toArray, List.set_cons_zero, List.set_cons_succ]
    refine wpAnyK_skip 25 rfl (by kernel_rfl) (by kernel_rfl) (by kernel_rfl) (fun _ _ _ h => h) (by rfl) ?_; try simp only [Act.put, List.setIfInBounds_toArray, List.set_cons_zero, List.set_cons_succ]
    refine wpAnyK_take 26 (v := ?_) rfl (by kernel_rfl) (by kernel_rfl) (by kernel_rfl) (fun _ _ _ h => h) (by rfl) (by intro W hSw; go_simp; with_reducible rfl) ?_; try simp only [Act.put, List.setIfInBounds_toArray, List.set_cons_zero, List.set_cons_succ]
    refine wpAnyK_take 27 (v := ?_) rfl (by kernel_rfl) (by kernel_rfl) (by kernel_rfl) (fun _ _ _ h => h) (by rfl) (by intro W hSw; go_simp; with_reducible rfl) ?_; try simp only [Act.put, List.setIfInBounds_toArray, List.set_cons_zero, List.set_cons_succ]
    refine wpAnyK_take 28 (v := ?_) rfl (by kernel_rfl) (by kernel_rfl) (by kernel_rfl) (fun _ _ _ h => h) (by rfl) (by intro W hSw; go_simp; with_reducible rfl) ?_; try simp only [Act.put, List.setIfInBounds_toArray, List.set_cons_zero, List.set_cons_succ]
    refine wpAnyK_take 29 (v := ?_) rfl (by kernel_rfl) (by kernel_rfl) (by kernel_rfl) (fun _ _ _ h => h) (by rfl) (by intro W hSw; go_simp; with_reducible rfl) ?_; try simp only [Act.put, List.setIfInBounds_toArray, List.set_cons_zero, List.set_cons_succ]
    refine wpAnyK_done (by kernel_rfl) ?_ _
    go_wp2_with fail
    go_ret
    exact ⟨rfl, HB.out⟩
  · skip
    refine wp_region_k (by kernel_rfl) ?_
    refine wpAnyK_one 0 (by kernel_rfl) rfl (fun K hK => ?_)
    go_simp
    refine (awake_any _).mono ?_; rintro e w3 ⟨rfl, hb3⟩; have l1 := later_step l1 hb3; have l2 := later_step l2 hb3; have l3 := later_step l3 hb3; have l4 := later_step l4 hb3; have l5 := later_step l5 hb3; have l6 := later_step l6 hb3; have HB := hide_ (below_step HB.out hb3)
    refine hK.out _ _ (by assumption) ?_
    clear hK K; try simp only [Act.put, List.setIfInBounds_toArray, List.set_cons_zero, List.set_cons_succ]
    refine wpAnyK_take 1 (v := ?_) rfl (by kernel_rfl) (by kernel_rfl) (by kernel_rfl) (fun _ _ _ h => h) (by rfl) (by intro W hSw; go_simp; with_reducible rfl) ?_; try simp only [Act.put, List.setIfInBounds_toArray, List.set_cons_zero, List.set_cons_succ]
    refine wpAnyK_take 2 (v := ?_) rfl (by kernel_rfl) (by kernel_rfl) (by kernel_rfl) (fun _ _ _ h => h) (by rfl) (by intro W hSw; go_simp; with_reducible rfl) ?_; try simp only [Act.put, List.setIfInBounds_toArray, List.set_cons_zero, List.set_cons_succ]
    refine wpAnyK_take 3 (v := ?_) rfl (by kernel_rfl) (by kernel_rfl) (by kernel_rfl) (fun _ _ _ h => h) (by rfl) (by intro W hSw; go_simp; with_reducible rfl) ?_; try simp only [Act.put, List.setIfInBounds_toArray, List.set_cons_zero, List.set_cons_succ]
    refine wpAnyK_take 4 (v := ?_) rfl (by kernel_rfl) (by kernel_rfl) (by kernel_rfl) (fun _ _ _ h => h) (by rfl) (by intro W hSw; go_simp; with_reducible rfl) ?_; try simp only [Act.put, List.setIfInBounds_toArray, List.set_cons_zero, List.set_cons_succ]
    refine wpAnyK_one 5 (by kernel_rfl) rfl (fun K hK => ?_)
    go_simp
    refine (hR _).mono ?_; rintro e w3 ⟨rfl, hb3⟩; have l1 := later_step l1 hb3; have l2 := later_step l2 hb3; have l3 := later_step l3 hb3; have l4 := later_step l4 hb3; have l5 := later_step l5 hb3; have l6 := later_step l6 hb3; have HB := hide_ (below_step HB.out hb3)
    refine hK.out _ _ (by assumption) ?_
    clear hK K; try simp only [Act.put, List.setIfInBounds_toArray, List.set_cons_zero, List.set_cons_succ]
    refine wpAnyK_take 6 (v := ?_) rfl (by kernel_rfl) (by kernel_rfl) (by kernel_rfl) (fun _ _ _ h => h) (by rfl) (by intro W hSw; go_simp; with_reducible rfl) ?_; try simp only [Act.put, List.setIfInBounds_toArray, List.set_cons_zero, List.set_cons_succ]
    refine wpAnyK_take 7 (v := ?_) rfl (by kernel_rfl) (by kernel_rfl) (by kernel_rfl) (fun _ _ _ h => h) (by rfl) (by intro W hSw; go_simp; with_reducible rfl) ?_; try simp only [Act.put, List.setIfInBounds_toArray, List.set_cons_zero, List.set_cons_succ]
    refine wpAnyK_take 8 (v := ?_) rfl (by kernel_rfl) (by kernel_rfl) (by kernel_rfl) (fun _ _ _ h => h) (by rfl) (by intro W hSw; go_simp; with_reducible rfl) ?_; try simp only [Act.put, List.setIfInBounds_toArray, List.set_cons_zero, List.set_cons_succ]
    refine wpAnyK_take 9 (v := ?_) rfl (by kernel_rfl) (by kernel_rfl) (by kernel_rfl) (fun _ _ _ h => h) (by rfl) (by intro W hSw; go_simp; with_reducible rfl) ?_; try simp only [Act.put, List.setIfInBounds_toArray, List.set_cons_zero, List.set_cons_succ]
    refine wpAnyK_take 10 (v := ?_) rfl (by kernel_rfl) (by kernel_rfl) (by kernel_rfl) (fun _ _ _ h => h) (by rfl) (by intro W hSw; go_simp; with_reducible rfl) ?_; try simp only [Act.put, List.setIfInBounds_toArray, List.set_cons_zero, List.set_cons_succ]
    refine wpAnyK_take 11 (v := ?_) rfl (by kernel_rfl) (by kernel_rfl) (by kernel_rfl) (fun _ _ _ h => h) (by rfl) (by intro W hSw; go_simp; with_reducible rfl) ?_; try simp only [Act.put, List.setIfInBounds_toArray, List.set_cons_zero, List.set_cons_succ]
    refine wpAnyK_one 12 (by kernel_rfl) rfl (fun K hK => ?_)
    go_simp
    refine (hM2 _).mono ?_; rintro e w3 ⟨rfl, hb3⟩; have l1 := later_step l1 hb3; have l2 := later_step l2 hb3; have l3 := later_step l3 hb3; have l4 := later_step l4 hb3; have l5 := later_step l5 hb3; have l6 := later_step l6 hb3; have HB := hide_ (below_step HB.out hb3)
    refine hK.out _ _ (by assumption) ?_
    clear hK K; try simp only [Act.put, List.setIfInBounds_toArray, List.set_cons_zero, List.set_cons_succ]
    refine wpAnyK_take 13 (v := ?_) rfl (by kernel_rfl) (by kernel_rfl) (by kernel_rfl) (fun _ _ _ h => h) (by rfl) (by intro W hSw; go_simp; with_reducible rfl) ?_; try simp only [Act.put, List.setIfInBounds_toArray, List.set_cons_zero, List.set_cons_succ]
    refine wpAnyK_take 14 (v := ?_) rfl (by kernel_rfl) (by kernel_rfl) (by kernel_rfl) (fun _ _ _ h => h) (by rfl) (by intro W hSw; go_simp; with_reducible rfl) ?_; try simp only [Act.put, List.setIfInBounds_toArray, List.set_cons_zero, List.set_cons_succ]
    refine wpAnyK_take 15 (v := ?_) rfl (by kernel_rfl) (by kernel_rfl) (by kernel_rfl) (fun _ _ _ h => h) (by rfl) (by intro W hSw; go_simp; with_reducible rfl) ?_; try simp only [Act.put, List.setIfInBounds_toArray, List.set_cons_zero, List.set_cons_succ]
    refine wpAnyK_take 16 (v := ?_) rfl (by kernel_rfl) (by kernel_rfl) (by kernel_rfl) (fun _ _ _ h => h) (by rfl) (by intro W hSw; go_simp; with_reducible rfl) ?_; try simp only [Act.put, List.setIfInBounds_toArray, List.set_cons_zero, List.set_cons_succ]
    refine wpAnyK_take 17 (v := ?_) rfl (by kernel_rfl) (by kernel_rfl) (by kernel_rfl) (fun _ _ _ h => h) (by rfl) (by intro W hSw; go_simp; with_reducible rfl) ?_; try simp only [Act.put, List.setIfInBounds_toArray, List.set_cons_zero, List.set_cons_succ]
    refine wpAnyK_take 19 (v := ?_) rfl (by kernel_rfl) (by kernel_rfl) (by kernel_rfl) (fun _ _ _ h => h) (by rfl) (by intro W hSw; go_simp; with_reducible rfl) ?_; try simp only [Act.put, List.setIfInBounds_toArray, List.set_cons_zero, List.set_cons_succ]
    refine wpAnyK_take 20 (v := ?_) rfl (by kernel_rfl) (by kernel_rfl) (by kernel_rfl) (fun _ _ _ h => h) (by rfl) (by intro W hSw; go_simp; with_reducible rfl) ?_; try simp only [Act.put, List.setIfInBounds_toArray, List.set_cons_zero, List.set_cons_succ]
    refine wpAnyK_one 18 (by kernel_rfl) rfl (fun K hK => ?_)
    go_simp
    (with_reducible refine (h3 _).mono ?_); rintro e w3 ⟨rfl, hb3⟩; have l1 := later_step l1 hb3; have l2 := later_step l2 hb3; have l3 := later_step l3 hb3; have l4 := later_step l4 hb3; have l5 := later_step l5 hb3; have l6 := later_step l6 hb3; have HB := hide_ (below_step HB.out hb3)
    refine hK.out _ _ (by assumption) ?_
    clear hK K; try simp only [Act.put, List.setIfInBounds_toArray, List.set_cons_zero, List.set_cons_succ]
    refine wpAnyK_one 21 (by kernel_rfl) rfl (fun K hK => ?_)
    go_simp
    (with_reducible refine (h1 _).mono ?_); rintro e w3 ⟨rfl, hb3⟩; have l1 := later_step l1 hb3; have l2 := later_step l2 hb3; have l3 := later_step l3 hb3; have l4 := later_step l4 hb3; have l5 := later_step l5 hb3; have l6 := later_step l6 hb3; have HB := hide_ (below_step HB.out hb3)
    refine hK.out _ _ (by assumption) ?_
    clear hK K; try simp only [Act.put, List.setIfInBounds_toArray, List.set_cons_zero, List.set_cons_succ]
    refine wpAnyK_take 22 (v := ?_) rfl (by kernel_rfl) (by kernel_rfl) (by kernel_rfl) (fun _ _ _ h => h) (by rfl) (by intro W hSw; go_simp; with_reducible rfl) ?_; try simp only [Act.put, List.setIfInBounds_toArray, List.set_cons_zero, List.set_cons_succ]
    refine wpAnyK_take 23 (v := ?_) rfl (by kernel_rfl) (by kernel_rfl) (by kernel_rfl) (fun _ _ _ h => h) (by rfl) (by intro W hSw; go_simp; with_reducible rfl) ?_; try simp only [Act.put, List.setIfInBounds_toArray, List.set_cons_zero, List.set_cons_succ]
    refine wpAnyK_take 24 (v := ?_) rfl (by kernel_rfl) (by kernel_rfl) (by kernel_rfl) (fun _ _ _ h => h) (by rfl) (by intro W hSw; go_simp; with_reducible rfl) ?_; try simp only [Act.put, List.setIfInBounds_toArray, List.set_cons_zero, List.set_cons_succ]
    refine wpAnyK_one 25 (by kernel_rfl) rfl (fun K hK => ?_)
    go_simp
    (with_reducible refine (h2 _).mono ?_); rintro e w3 ⟨rfl, hb3⟩; have l1 := later_step l1 hb3; have l2 := later_step l2 hb3; have l3 := later_step l3 hb3; have l4 := later_step l4 hb3; have l5 := later_step l5 hb3; have l6 := later_step l6 hb3; have HB := hide_ (below_step HB.out hb3)
    refine hK.out _ _ (by assumption) ?_
    clear hK K; try simp only [Act.put, List.setIfInBounds_toArray, List.set_cons_zero, List.set_cons_succ]
    refine wpAnyK_take 26 (v := ?_) rfl (by kernel_rfl) (by kernel_rfl) (by kernel_rfl) (fun _ _ _ h => h) (by rfl) (by intro W hSw; go_simp; with_reducible rfl) ?_; try simp only [Act.put, List.setIfInBounds_toArray, List.set_cons_zero, List.set_cons_succ]
    refine wpAnyK_take 27 (v := ?_) rfl (by kernel_rfl) (by kernel_rfl) (by kernel_rfl) (fun _ _ _ h => h) (by rfl) (by intro W hSw; go_simp; with_reducible rfl) ?_; try simp only [Act.put, List.setIfInBounds_toArray, List.set_cons_zero, List.set_cons_succ]
    refine wpAnyK_take 28 (v := ?_) rfl (by kernel_rfl) (by kernel_rfl) (by kernel_rfl) (fun _ _ _ h => h) (by rfl) (by intro W hSw; go_simp; with_reducible rfl) ?_; try simp only [Act.put, List.setIfInBounds_toArray, List.set_cons_zero, List.set_cons_succ]
    refine wpAnyK_take 29 (v := ?_) rfl (by kernel_rfl) (by kernel_rfl) (by kernel_rfl) (fun _ _ _ h => h) (by rfl) (by intro W hSw; go_simp; with_reducible rfl) ?_; try simp only [Act.put, List.setIfInBounds_toArray, List.set_cons_zero, List.set_cons_succ]
    refine wpAnyK_done (by kernel_rfl) ?_ _
    go_wp2_with fail
    go_ret
    exact ⟨rfl, HB.out⟩
  · skip
    refine wp_region_k (by kernel_rfl) ?_
    refine wpAnyK_one 0 (by kernel_rfl) rfl (fun K hK => ?_)
    go_simp
    refine (awake_any _).mono ?_; rintro e w3 ⟨rfl, hb3⟩; have l1 := later_step l1 hb3; have l2 := later_step l2 hb3; have l3 := later_step l3 hb3; have l4 := later_step l4 hb3; have l5 := later_step l5 hb3; have l6 := later_step l6 hb3; have HB := hide_ (below_step HB.out hb3)
    refine hK.out _ _ (by assumption) ?_
    clear hK K; try simp only [Act.put, List.setIfInBounds_toArray, List.set_cons_zero, List.set_cons_succ]
    refine wpAnyK_take 1 (v := ?_) rfl (by kernel_rfl) (by kernel_rfl) (by kernel_rfl) (fun _ _ _ h => h) (by rfl) (by intro W hSw; go_simp; with_reducible rfl) ?_; try simp only [Act.put, List.setIfInBounds_toArray, List.set_cons_zero, List.set_cons_succ]
    refine wpAnyK_take 2 (v := ?_) rfl (by kernel_rfl) (by kernel_rfl) (by kernel_rfl) (fun _ _ _ h => h) (by rfl) (by intro W hSw; go_simp; with_reducible rfl) ?_; try simp only [Act.put, List.setIfInBounds_toArray, List.set_cons_zero, List.set_cons_succ]
    refine wpAnyK_take 3 (v := ?_) rfl (by kernel_rfl) (by kernel_rfl) (by kernel_rfl) (fun _ _ _ h => h) (by rfl) (by intro W hSw; go_simp; with_reducible rfl) ?_; try simp only [Act.put, List.setIfInBounds_toArray, List.set_cons_zero, List.set_cons_succ]
    refine wpAnyK_take 4 (v := ?_) rfl (by kernel_rfl) (by kernel_rfl) (by kernel_rfl) (fun _ _ _ h => h) (by rfl) (by intro W hSw; go_simp; with_reducible rfl) ?_; try simp only [Act.put, List.setIfInBounds_toArray, List.set_cons_zero, List.set_cons_succ]
    refine wpAnyK_one 5 (by kernel_rfl) rfl (fun K hK => ?_)
    go_simp
    refine (hR _).mono ?_; rintro e w3 ⟨rfl, hb3⟩; have l1 := later_step l1 hb3; have l2 := later_step l2 hb3; have l3 := later_step l3 hb3; have l4 := later_step l4 hb3; have l5 := later_step l5 hb3; have l6 := later_step l6 hb3; have HB := hide_ (below_step HB.out hb3)
    refine hK.out _ _ (by assumption) ?_
    clear hK K; try simp only [Act.put, List.setIfInBounds_toArray, List.set_cons_zero, List.set_cons_succ]
    refine wpAnyK_take 6 (v := ?_) rfl (by kernel_rfl) (by kernel_rfl) (by kernel_rfl) (fun _ _ _ h => h) (by rfl) (by intro W hSw; go_simp; with_reducible rfl) ?_; try simp only [Act.put, List.setIfInBounds_toArray, List.set_cons_zero, List.set_cons_succ]
    refine wpAnyK_take 7 (v := ?_) rfl (by kernel_rfl) (by kernel_rfl) (by kernel_rfl) (fun _ _ _ h => h) (by rfl) (by intro W hSw; go_simp; with_reducible rfl) ?_; try simp only [Act.put, List.setIfInBounds_toArray, List.set_cons_zero, List.set_cons_succ]
    refine wpAnyK_take 8 (v := ?_) rfl (by kernel_rfl) (by kernel_rfl) (by kernel_rfl) (fun _ _ _ h => h) (by rfl) (by intro W hSw; go_simp; with_reducible rfl) ?_; try simp only [Act.put, List.setIfInBounds_toArray, List.set_cons_zero, List.set_cons_succ]
    refine wpAnyK_take 9 (v := ?_) rfl (by kernel_rfl) (by kernel_rfl) (by kernel_rfl) (fun _ _ _ h => h) (by rfl) (by intro W hSw; go_simp; with_reducible rfl) ?_; try simp only [Act.put, List.setIfInBounds_toArray, List.set_cons_zero, List.set_cons_succ]
    refine wpAnyK_take 10 (v := ?_) rfl (by kernel_rfl) (by kernel_rfl) (by kernel_rfl) (fun _ _ _ h => h) (by rfl) (by intro W hSw; go_simp; with_reducible rfl) ?_; try simp only [Act.put, List.setIfInBounds_toArray, List.set_cons_zero, List.set_cons_succ]
    refine wpAnyK_take 11 (v := ?_) rfl (by kernel_rfl) (by kernel_rfl) (by kernel_rfl) (fun _ _ _ h => h) (by rfl) (by intro W hSw; go_simp; with_reducible rfl) ?_; try simp only [Act.put, List.setIfInBounds_toArray, List.set_cons_zero, List.set_cons_succ]
    refine wpAnyK_one 12 (by kernel_rfl) rfl (fun K hK => ?_)
    go_simp
    refine (hM2 _).mono ?_; rintro e w3 ⟨rfl, hb3⟩; have l1 := later_step l1 hb3; have l2 := later_step l2 hb3; have l3 := later_step l3 hb3; have l4 := later_step l4 hb3; have l5 := later_step l5 hb3; have l6 := later_step l6 hb3; have HB := hide_ (below_step HB.out hb3)
    refine hK.out _ _ (by assumption) ?_
    clear hK K; try simp only [Act.put, List.setIfInBounds_toArray, List.set_cons_zero, List.set_cons_succ]
    refine wpAnyK_take 13 (v := ?_) rfl (by kernel_rfl) (by kernel_rfl) (by kernel_rfl) (fun _ _ _ h => h) (by rfl) (by intro W hSw; go_simp; with_reducible rfl) ?_; try simp only [Act.put, List.setIfInBounds_toArray, List.set_cons_zero, List.set_cons_succ]
    refine wpAnyK_take 14 (v := ?_) rfl (by kernel_rfl) (by kernel_rfl) (by kernel_rfl) (fun _ _ _ h => h) (by rfl) (by intro W hSw; go_simp; with_reducible rfl) ?_; try simp only [Act.put, List.setIfInBounds_toArray, List.set_cons_zero, List.set_cons_succ]
    refine wpAnyK_take 15 (v := ?_) rfl (by kernel_rfl) (by kernel_rfl) (by kernel_rfl) (fun _ _ _ h => h) (by rfl) (by intro W hSw; go_simp; with_reducible rfl) ?_; try simp only [Act.put, List.setIfInBounds_toArray, List.set_cons_zero, List.set_cons_succ]
    refine wpAnyK_take 16 (v := ?_) rfl (by kernel_rfl) (by kernel_rfl) (by kernel_rfl) (fun _ _ _ h => h) (by rfl) (by intro W hSw; go_simp; with_reducible rfl) ?_; try simp only [Act.put, List.setIfInBounds_toArray, List.set_cons_zero, List.set_cons_succ]
    refine wpAnyK_take 17 (v := ?_) rfl (by kernel_rfl) (by kernel_rfl) (by kernel_rfl) (fun _ _ _ h => h) (by rfl) (by intro W hSw; go_simp; with_reducible rfl) ?_; try simp only [Act.put, List.setIfInBounds_toArray, List.set_cons_zero, List.set_cons_succ]
    refine wpAnyK_take 19 (v := ?_) rfl (by kernel_rfl) (by kernel_rfl) (by kernel_rfl) (fun _ _ _ h => h) (by rfl) (by intro W hSw; go_simp; with_reducible rfl) ?_; try simp only [Act.put, List.setIfInBounds_toArray, List.set_cons_zero, List.set_cons_succ]
    refine wpAnyK_take 20 (v := ?_) rfl (by kernel_rfl) (by kernel_rfl) (by kernel_rfl) (fun _ _ _ h => h) (by rfl) (by intro W hSw; go_simp; with_reducible rfl) ?_; try simp only [Act.put, List.setIfInBounds_toArray, List.set_cons_zero, List.set_cons_succ]
    refine wpAnyK_one 18 (by kernel_rfl) rfl (fun K hK => ?_)
    go_simp
    (with_reducible refine (h3 _).mono ?_); rintro e w3 ⟨rfl, hb3⟩; have l1 := later_step l1 hb3; have l2 := later_step l2 hb3; have l3 := later_step l3 hb3; have l4 := later_step l4 hb3; have l5 := later_step l5 hb3; have l6 := later_step l6 hb3; have HB := hide_ (below_step HB.out hb3)
    refine hK.out _ _ (by assumption) ?_
    clear hK K; try simp only [Act.put, List.setIfInBounds_toArray, List.set_cons_zero, List.set_cons_succ]
    refine wpAnyK_one 21 (by kernel_rfl) rfl (fun K hK => ?_)
    go_simp
    (with_reducible refine (h1 _).mono ?_); rintro e w3 ⟨rfl, hb3⟩; have l1 := later_step l1 hb3; have l2 := later_step l2 hb3; have l3 := later_step l3 hb3; have l4 := later_step l4 hb3; have l5 := later_step l5 hb3; have l6 := later_step l6 hb3; have HB := hide_ (below_step HB.out hb3)
    refine hK.out _ _ (by assumption) ?_
    clear hK K; try simp only [Act.put, List.setIfInBounds_toArray, List.set_cons_zero, List.set_cons_succ]
    refine wpAnyK_take 22 (v := ?_) rfl (by kernel_rfl) (by kernel_rfl) (by kernel_rfl) (fun _ _ _ h => h) (by rfl) (by intro W hSw; go_simp; with_reducible rfl) ?_; try simp only [Act.put, List.setIfInBounds_toArray, List.set_cons_zero, List.set_cons_succ]
    refine wpAnyK_take 23 (v := ?_) rfl (by kernel_rfl) (by kernel_rfl) (by kernel_rfl) (fun _ _ _ h => h) (by rfl) (by intro W hSw; go_simp; with_reducible rfl) ?_; try simp only [Act.put, List.setIfInBounds_toArray, List.set_cons_zero, List.set_cons_succ]
    refine wpAnyK_take 24 (v := ?_) rfl (by kernel_rfl) (by kernel_rfl) (by kernel_rfl) (fun _ _ _ h => h) (by rfl) (by intro W hSw; go_simp; with_reducible rfl) ?_; try simp only [Act.put, List.setIfInBounds_toArray, List.set_cons_zero, List.set_cons_succ]
    refine wpAnyK_one 25 (by kernel_rfl) rfl (fun K hK => ?_)
    go_simp
    (with_reducible refine (h2 _).mono ?_); rintro e w3 ⟨rfl, hb3⟩; have l1 := later_step l1 hb3; have l2 := later_step l2 hb3; have l3 := later_step l3 hb3; have l4 := later_step l4 hb3; have l5 := later_step l5 hb3; have l6 := later_step l6 hb3; have HB := hide_ (below_step HB.out hb3)
    refine hK.out _ _ (by assumption) ?_
    clear hK K; try simp only [Act.put, List.setIfInBounds_toArray, List.set_cons_zero, List.set_cons_succ]
    refine wpAnyK_take 26 (v := ?_) rfl (by kernel_rfl) (by kernel_rfl) (by kernel_rfl) (fun _ _ _ h => h) (by rfl) (by intro W hSw; go_simp; with_reducible rfl) ?_; try simp only [Act.put, List.setIfInBounds_toArray, List.set_cons_zero, List.set_cons_succ]
    refine wpAnyK_take 27 (v := ?_) rfl (by kernel_rfl) (by kernel_rfl) (by kernel_rfl) (fun _ _ _ h => h) (by rfl) (by intro W hSw; go_simp; with_reducible rfl) ?_; try simp only [Act.put, List.setIfInBounds_toArray, List.set_cons_zero, List.set_cons_succ]
    refine wpAnyK_take 28 (v := ?_) rfl (by kernel_rfl) (by kernel_rfl) (by kernel_rfl) (fun _ _ _ h => h) (by rfl) (by intro W hSw; go_simp; with_reducible rfl) ?_; try simp only [Act.put, List.setIfInBounds_toArray, List.set_cons_zero, List.set_cons_succ]
    refine wpAnyK_take 29 (v := ?_) rfl (by kernel_rfl) (by kernel_rfl) (by kernel_rfl) (fun _ _ _ h => h) (by rfl) (by intro W hSw; go_simp; with_reducible rfl) ?_; try simp only [Act.put, List.setIfInBounds_toArray, List.set_cons_zero, List.set_cons_succ]
    refine wpAnyK_done (by kernel_rfl) ?_ _
    go_wp2_with fail
    go_ret
    exact ⟨rfl, HB.out⟩
theorem spanMeets_contract (H : Type) (enc : TypeId × Value → H) (W : World) (base : Nat) (args : Array Value) (ds : List (DataW H)) (before : List MemPlace)
    (hval : ∀ (j : Nat) t v, Try.f7.params[j]? = some t → args[j]? = some v → Value.okWide Try.prog W .any base t v)
    (hA : DataW.TrodAll enc Try.prog W 0 (fun _ => true) true Try.f7.params.toList args.toList ds before)
    (_hsz : (DataW.weightsEach Try.prog (Try.f7.params.toList ++ Rows.spanMeetsSpec.plain.varTypes Try.prog) (ds ++ [])).all (· ≤ reachBytes) = true) :
    Calls Try.prog 7 args W fun e W' => e = .returned (.bool true) ∧ Below W.heap.size W W' := by
  rw [Try.params7] at hA hval
  obtain ⟨v0, vs0, d0, ds0, p0, q0, hargs, rfl, rfl, h0, r0⟩ := trodAll_cons hA
  obtain ⟨v1, vs1, d1, ds1, p1, q1, rfl, rfl, rfl, h1, r1⟩ := trodAll_cons r0
  obtain ⟨v2, vs2, d2, ds2, p2, q2, rfl, rfl, rfl, h2, r2⟩ := trodAll_cons r1
  obtain ⟨rfl, rfl, rfl⟩ := trodAll_nil r2
  obtain rfl : args = #[v0, v1, v2] := by cases args; simp_all
  obtain ⟨a, rfl, _, _⟩ := open_span (hval 0 23 v0 rfl rfl) h0
  obtain ⟨b, rfl, _, _⟩ := open_span (hval 1 23 v1 rfl rfl) h1
  obtain ⟨k, rfl, rfl, rfl, hk⟩ := open_string Try.underlying9 (hval 2 9 v2 rfl rfl) h2
  exact spanMeets_walk a b k W

set_option maxRecDepth 100000 in
theorem spanMeets_lifted (os : Os) (started : os.Started) (H : Type) (enc : TypeId × Value → H) :
    ReturnsInHanded {} Try.checked os 7 .any (Rows.spanMeetsSpec.pre6 enc Try.prog Try.f7 Rows.spanMeetsRow.domain false) (Rows.spanMeetsSpec.post enc Try.prog Try.f7 false true false false) := by
  refine returnsInHanded_of_change_sized (C := Try.checked) own started (by kernel_rfl) Try.func7
    (ChangeSpec.witness6 (enc := enc) (C := Try.checked) false ⟨#[], #[.agg #[.string ByteArray.empty, .string ByteArray.empty], .agg #[.string ByteArray.empty, .string ByteArray.empty], .string ByteArray.empty], []⟩ 8 (by kernel_rfl) (by kernel_rfl) (by kernel_rfl) (by kernel_rfl)) ?_
  intro W base args ds gs before hval hW _ hsz _
  have hW' := hW
  obtain ⟨p, q, hA0, hV, rfl, hfz, hnd⟩ := hW
  obtain ⟨rfl, rfl⟩ := trodVars_none hV
  have hA : DataW.TrodAll enc Try.prog W 0 (fun _ => true) true Try.f7.params.toList args.toList ds p := hA0
  refine (spanMeets_contract H enc W base args ds p hval hA hsz).mono fun e W' ⟨he, hb⟩ => ?_
  subst he
  have hds : ds.length = 3 := by
    rw [Try.params7] at hA
    obtain ⟨v0, vs0, d0, ds0, p0, q0, _, rfl, rfl, _, r0⟩ := trodAll_cons hA
    obtain ⟨v1, vs1, d1, ds1, p1, q1, _, rfl, rfl, _, r1⟩ := trodAll_cons r0
    obtain ⟨v2, vs2, d2, ds2, p2, q2, _, rfl, rfl, _, r2⟩ := trodAll_cons r1
    obtain ⟨_, rfl, rfl⟩ := trodAll_nil r2
    rfl
  have hsh : ∃ d0 d1 d2 : DataW H, ds = [d0, d1, d2] := by
    match ds, hds with
    | [d0, d1, d2], _ => exact ⟨d0, d1, d2, rfl⟩
  obtain ⟨d0, d1, d2, rfl⟩ := hsh
  exact ⟨_, rfl, post_law (s := Rows.spanMeetsSpec) laidOut (by kernel_rfl) Try.underlying4 rfl (by kernel_rfl) hW' rfl rfl rfl hb⟩
theorem spanMeets_over : Rows.spanMeetsRow.holds Try.pinned (OpenSpec.ofChange Rows.spanMeetsSpec) :=
  OpenClaim.holds_of_wide 7 Try.f7 rfl rfl rfl rfl rfl rfl rfl ⟨rfl, rfl, rfl, rfl, rfl⟩ rfl rfl rfl rfl rfl (by kernel_rfl) Try.func7 (by kernel_rfl)
    (of_decide_eq_true (by kernel_rfl)) (by unfold Func.isWrapper; first | (rw [if_pos (by decide +kernel)]; kernel_rfl) | (rw [if_neg (by decide +kernel)]; exact ⟨rfl, rfl⟩))
    (fun os started H enc _ => spanMeets_lifted os started H enc)
/-- The statement. -/
theorem spanMeets_holds : Rows.SpanMeetsSaid := spanMeets_over
end Go.Proofs.Ytlllcepoglklcaa
