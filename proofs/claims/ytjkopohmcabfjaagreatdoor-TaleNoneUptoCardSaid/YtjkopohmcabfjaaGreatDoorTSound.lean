/-
  crown.Sound and tale.numbers: a setting's bounds and numbers.
-/
import Derived.Test.YtjkopohmcabfjaaGreatDoorTSet
import Derived.Test.YtjkopohmcabfjaaGreatDoorSplit
namespace Go.Proofs.YtjkopohmcabfjaaGreatDoor
open Go.RowKit
set_option linter.unusedVariables false
set_option linter.unusedSimpArgs false
def SV.val (s : SV) : Value := .agg #[.int .i64 s.n0, .int .i64 s.n1, .int .i64 s.n2, .int .i64 s.n3, .int .i64 s.n4, .int .i64 s.n5]
def SV.row (s : SV) : Array Value := #[.int .i64 s.n0, .int .i64 s.n1, .int .i64 s.n2, .int .i64 s.n3, .int .i64 s.n4, .int .i64 s.n5]
theorem six_nums {W : World} {d : Nat} {s : SV} {t : TypeId} (h : W.heap[d]? = some (.cells s.row t (0, 0))) :
    (W.cell? ⟨d, 0, none⟩ = some (.int .i64 s.n0) ∧ W.cell? ⟨d, 1, none⟩ = some (.int .i64 s.n1) ∧ W.cell? ⟨d, 2, none⟩ = some (.int .i64 s.n2) ∧ W.cell? ⟨d, 3, none⟩ = some (.int .i64 s.n3) ∧ W.cell? ⟨d, 4, none⟩ = some (.int .i64 s.n4) ∧ W.cell? ⟨d, 5, none⟩ = some (.int .i64 s.n5)) ∧
    W.frozen? ⟨d, 0, none⟩ = false ∧ W.frozen? ⟨d, 1, none⟩ = false ∧ W.frozen? ⟨d, 2, none⟩ = false ∧ W.frozen? ⟨d, 3, none⟩ = false ∧ W.frozen? ⟨d, 4, none⟩ = false ∧ W.frozen? ⟨d, 5, none⟩ = false :=
  ⟨⟨by rw [cell_of_row _ _ 0 _ _ _ h]; rfl, by rw [cell_of_row _ _ 1 _ _ _ h]; rfl, by rw [cell_of_row _ _ 2 _ _ _ h]; rfl, by rw [cell_of_row _ _ 3 _ _ _ h]; rfl, by rw [cell_of_row _ _ 4 _ _ _ h]; rfl, by rw [cell_of_row _ _ 5 _ _ _ h]; rfl⟩, frozen_of_row _ _ 0 _ _ h, frozen_of_row _ _ 1 _ _ h, frozen_of_row _ _ 2 _ _ h, frozen_of_row _ _ 3 _ _ h, frozen_of_row _ _ 4 _ _ h, frozen_of_row _ _ 5 _ _ h⟩
set_option maxHeartbeats 1000000 in
set_option maxRecDepth 100000 in
theorem in_any {w : World} (n a b : Int) : Calls Tryz.prog 57 #[.int .i64 n, .int .i64 a, .int .i64 b] w fun e w' => e = .returned (.bool (decide (a ≤ n) && decide (n ≤ b))) ∧ w' = w := by
  go_enter Tryz.func57, Tryz.ntmps57
  go_wp2_with fail
  all_goals go_ret
  all_goals refine ⟨?_, rfl⟩
  all_goals first | (simp_all; done) | (simp_all; omega)
set_option maxHeartbeats 2000000 in
set_option maxRecDepth 100000 in
theorem sound_any {w : World} (s : SV) : Calls Tryz.prog 27 #[s.val] w fun e w' => e = .returned (.bool (soundF s)) ∧ Later w w' := by
  rw [soundF_eq]
  unfold okN
  unfold SV.val
  obtain ⟨W1, hW1⟩ : ∃ W1, W1 = w.alloc (.cells s.row 23) := ⟨_, rfl⟩
  have hr1 : W1.heap[w.heap.size]? = some (.cells s.row 23 (0, 0)) := by rw [hW1]; exact heap_alloc_new w _
  have HL1 := hide_ (show Later w W1 by rw [hW1]; exact later_alloc _ _)
  have HW1 := hide_ hW1.symm
  unfold SV.row at HW1
  obtain ⟨⟨o0, o1, o2, o3, o4, o5⟩, _⟩ := six_nums hr1
  clear hW1 hr1
  go_enter Tryz.func27, Tryz.ntmps27
  go_wp2_with (rw [HW1.out])
  refine (in_any s.n0 1 7).mono ?_; rintro e _ ⟨rfl, rfl⟩
  cases b0 : (decide (1 ≤ s.n0) && decide (s.n0 ≤ 7))
  · go_wp2_with fail
    go_ret
    exact ⟨by simp only [b0]; simp, HL1.out⟩
  go_wp2_with fail
  refine (in_any s.n1 1 7).mono ?_; rintro e _ ⟨rfl, rfl⟩
  cases b1 : (decide (1 ≤ s.n1) && decide (s.n1 ≤ 7))
  · go_wp2_with fail
    go_ret
    exact ⟨by simp only [b0, b1]; simp, HL1.out⟩
  go_wp2_with fail
  refine (in_any s.n2 1 4).mono ?_; rintro e _ ⟨rfl, rfl⟩
  cases b2 : (decide (1 ≤ s.n2) && decide (s.n2 ≤ 4))
  · go_wp2_with fail
    go_ret
    exact ⟨by simp only [b0, b1, b2]; simp, HL1.out⟩
  go_wp2_with fail
  refine (in_any s.n3 1 4).mono ?_; rintro e _ ⟨rfl, rfl⟩
  cases b3 : (decide (1 ≤ s.n3) && decide (s.n3 ≤ 4))
  · go_wp2_with fail
    go_ret
    exact ⟨by simp only [b0, b1, b2, b3]; simp, HL1.out⟩
  go_wp2_with fail
  refine (in_any s.n4 1 4).mono ?_; rintro e _ ⟨rfl, rfl⟩
  cases b4 : (decide (1 ≤ s.n4) && decide (s.n4 ≤ 4))
  · go_wp2_with fail
    go_ret
    exact ⟨by simp only [b0, b1, b2, b3, b4]; simp, HL1.out⟩
  go_wp2_with fail
  refine (in_any s.n5 1 8).mono ?_; rintro e _ ⟨rfl, rfl⟩
  cases b5 : (decide (1 ≤ s.n5) && decide (s.n5 ≤ 8))
  · go_wp2_with fail
    go_ret
    exact ⟨by simp only [b0, b1, b2, b3, b4, b5]; simp, HL1.out⟩
  go_wp2_with fail
  go_ret
  exact ⟨by simp only [b0, b1, b2, b3, b4, b5]; simp, HL1.out⟩
set_option maxHeartbeats 2000000 in
set_option maxRecDepth 100000 in
theorem numbers_any {w : World} (s : SV) : Calls Tryz.prog 28 #[s.val] w fun e w' => ∃ b, e = .returned (.slice (some ⟨b, 0, none⟩) 6 6) ∧ w'.heap[b]? = some (.cells s.row 3 (0, 0)) ∧ w.heap.size ≤ b ∧ Later w w' := by
  unfold SV.val
  obtain ⟨W1, hW1⟩ : ∃ W1, W1 = w.alloc (.cells s.row 23) := ⟨_, rfl⟩
  have hr1 : W1.heap[w.heap.size]? = some (.cells s.row 23 (0, 0)) := by rw [hW1]; exact heap_alloc_new w _
  have HL1 := hide_ (show Later w W1 by rw [hW1]; exact later_alloc _ _)
  have HW1 := hide_ hW1.symm
  unfold SV.row at HW1
  obtain ⟨⟨o0, o1, o2, o3, o4, o5⟩, _⟩ := six_nums hr1
  clear hW1 hr1
  go_enter Tryz.func28, Tryz.ntmps28
  go_wp2_with (rw [HW1.out])
  go_ret
  exact ⟨_, rfl, heap_alloc_new W1 _, HL1.out.size, HL1.out.trans (later_alloc W1 _)⟩

end Go.Proofs.YtjkopohmcabfjaaGreatDoor
