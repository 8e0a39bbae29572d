/-
  The document's Check, All, Sound.
-/
import Derived.Test.YtblljpdlmllceaaKSound
namespace Go.Proofs.Ytblljpdlmllceaa
open Go.RowKit
set_option linter.unusedVariables false
set_option linter.unusedSimpArgs false
set_option maxHeartbeats 1000000 in
theorem rcheck_any (kind : Int) (k v : ByteArray) (w : World) : Calls Try.prog 19 #[.agg #[.int .i64 kind, .string k, .string v]] w fun e w' => e = .returned (.int .i64 (chk kind k v)) ∧ Later w w' := by
  obtain ⟨W0, hW0⟩ : ∃ W0, W0 = w.alloc (.cells #[.int .i64 kind, .string k, .string v] 32) := ⟨_, rfl⟩
  have hbx : W0.heap[w.heap.size]? = some (.cells #[.int .i64 kind, .string k, .string v] 32 (0, 0)) := by rw [hW0]; exact heap_alloc_new w _
  have HB0 := hide_ (show Later w W0 by rw [hW0]; exact (Below.refl _ _).alloc (Nat.le_refl _) _)
  have c0 : W0.cell? ⟨w.heap.size, 0, none⟩ = some (.int .i64 kind) := cell_of_row _ _ 0 _ _ (0, 0) hbx
  have c1 : W0.cell? ⟨w.heap.size, 1, none⟩ = some (.string k) := cell_of_row _ _ 1 _ _ (0, 0) hbx
  have c2 : W0.cell? ⟨w.heap.size, 2, none⟩ = some (.string v) := cell_of_row _ _ 2 _ _ (0, 0) hbx
  have HW := hide_ hW0.symm
  clear hW0 hbx
  obtain ⟨nv, hnv⟩ : ∃ nv, nv = v.size := ⟨_, rfl⟩
  obtain ⟨nk, hnk⟩ : ∃ nk, nk = k.size := ⟨_, rfl⟩
  have HNV := hide_ hnv; have HNK := hide_ hnk
  have s1 := hnv.symm; have s2 := hnk.symm
  clear hnv hnk
  go_enter Try.func19, Try.ntmps19
  go_wp2_with (rw [HW.out])
  go_quiet (fail)
  have HL := hide_ (below_drewN HB0.out nq)
  obtain ⟨W1, hW1⟩ : ∃ W1, W1 = W0.drewN nq := ⟨_, rfl⟩
  have d0 : W1.cell? ⟨w.heap.size, 0, none⟩ = some (.int .i64 kind) := by rw [hW1]; exact c0
  have d1 : W1.cell? ⟨w.heap.size, 1, none⟩ = some (.string k) := by rw [hW1]; exact c1
  have d2 : W1.cell? ⟨w.heap.size, 2, none⟩ = some (.string v) := by rw [hW1]; exact c2
  rw [← hW1] at HL
  rw [← hW1]
  clear hW1 c0 c1 c2
  by_cases e3 : kind = 3
  · subst e3
    by_cases a2 : 17 < nk
    · have p2 : (17 : Int) < (nk : Int) := by omega
      go_wp2_with fail
      go_ret
      exact ⟨congrArg (fun r => Ending.returned (.int .i64 r)) (by unfold chk; rw [← HNV.out, ← HNK.out]; simp [*]), HL.out⟩
    · have p2 : ¬ (17 : Int) < (nk : Int) := by omega
      by_cases a1 : 17 < nv
      · have p1 : (17 : Int) < (nv : Int) := by omega
        go_wp2_with fail
        go_ret
        exact ⟨congrArg (fun r => Ending.returned (.int .i64 r)) (by unfold chk; rw [← HNV.out, ← HNK.out]; simp [*]), HL.out⟩
      · have p1 : ¬ (17 : Int) < (nv : Int) := by omega
        by_cases a3 : v < k
        · have h1 : Op.bytesLess k.toList v.toList = false := by rw [bl]; simp; grind
          have h2 : (k.toList == v.toList) = false := by rw [beq_ba]; simp; grind
          go_wp2_with fail
          go_ret
          exact ⟨congrArg (fun r => Ending.returned (.int .i64 r)) (by unfold chk; rw [← HNV.out, ← HNK.out]; simp [*]), HL.out⟩
        · by_cases a4 : k < v
          · have h1 : Op.bytesLess k.toList v.toList = true := by rw [bl]; grind
            go_wp2_with fail
            go_ret
            exact ⟨congrArg (fun r => Ending.returned (.int .i64 r)) (by unfold chk; rw [← HNV.out, ← HNK.out]; simp [*]), HL.out⟩
          · have h1 : Op.bytesLess k.toList v.toList = false := by rw [bl]; grind
            have h2 : (k.toList == v.toList) = true := by rw [beq_ba]; grind
            go_wp2_with fail
            go_ret
            exact ⟨congrArg (fun r => Ending.returned (.int .i64 r)) (by unfold chk; rw [← HNV.out, ← HNK.out]; simp [*]), HL.out⟩
  · have e3' : ¬ (3 : Int) = kind := fun h => e3 h.symm
    by_cases e2 : kind = 2
    · subst e2
      by_cases a2 : 16 < nk
      · have p2 : (16 : Int) < (nk : Int) := by omega
        go_wp2_with fail
        go_ret
        exact ⟨congrArg (fun r => Ending.returned (.int .i64 r)) (by unfold chk; rw [← HNV.out, ← HNK.out]; simp [*]), HL.out⟩
      · have p2 : ¬ (16 : Int) < (nk : Int) := by omega
        by_cases a1 : 0 < nv
        · have p1 : (0 : Int) < (nv : Int) := by omega
          go_wp2_with fail
          go_ret
          exact ⟨congrArg (fun r => Ending.returned (.int .i64 r)) (by unfold chk; rw [← HNV.out, ← HNK.out]; simp [*]), HL.out⟩
        · have p1 : ¬ (0 : Int) < (nv : Int) := by omega
          go_wp2_with fail
          go_ret
          exact ⟨congrArg (fun r => Ending.returned (.int .i64 r)) (by unfold chk; rw [← HNV.out, ← HNK.out]; simp [*]), HL.out⟩
    · by_cases e1 : kind = 1
      · subst e1
        by_cases a2 : 16 < nk
        · have p2 : (16 : Int) < (nk : Int) := by omega
          go_wp2_with fail
          go_ret
          exact ⟨congrArg (fun r => Ending.returned (.int .i64 r)) (by unfold chk; rw [← HNV.out, ← HNK.out]; simp [*]), HL.out⟩
        · have p2 : ¬ (16 : Int) < (nk : Int) := by omega
          by_cases a1 : 64 < nv
          · have p1 : (64 : Int) < (nv : Int) := by omega
            go_wp2_with fail
            go_ret
            exact ⟨congrArg (fun r => Ending.returned (.int .i64 r)) (by unfold chk; rw [← HNV.out, ← HNK.out]; simp [*]), HL.out⟩
          · have p1 : ¬ (64 : Int) < (nv : Int) := by omega
            go_wp2_with fail
            go_ret
            exact ⟨congrArg (fun r => Ending.returned (.int .i64 r)) (by unfold chk; rw [← HNV.out, ← HNK.out]; simp [*]), HL.out⟩
      · have e2' : ¬ (2 : Int) = kind := fun h => e2 h.symm
        have e1' : ¬ (1 : Int) = kind := fun h => e1 h.symm
        go_wp2_with fail
        go_ret
        exact ⟨congrArg (fun r => Ending.returned (.int .i64 r)) (by unfold chk; rw [← HNV.out, ← HNK.out]; simp [*]), HL.out⟩
end Go.Proofs.Ytblljpdlmllceaa
