/-
  The contract of slices.Delete at the bag's letters.
-/
import Derived.Test.YtajhogjogkfioaaBagNew
import Derived.Test.YtajhogjogkfioaaBagPut
import Derived.Test.YtajhogjogkfioaaRows2
import Derived.Test.YtajhogjogkfioaaRegion
namespace Go.Proofs.Ytajhogjogkfioaa
open Go.RowKit
set_option linter.unusedVariables false
set_option linter.unusedSimpArgs false
/-- A row of letters that has been written twice in place. -/
theorem rows_close {w : World} {B g cap m : Nat} {cur X Y : Array Value} {xs : List Value} (hg : w.heap[g]? = some (.cells cur 54 (0, 0))) (hB : B ≤ g) (hm : m ≤ cap) (hcm : cap ≤ maxLen) (hY : Y.size = cap * 3)
    (ht : Y.toList.take (m * 3) = xs) (hl : xs.length = m * 3) :
    ((w.drew.setRow g X).setRow g Y).ownsRow B 54 3 (.slice (some ⟨g, 0, none⟩) m cap) m xs ∧ Below B w ((w.drew.setRow g X).setRow g Y) ∧ (∀ k, k ≠ g → ((w.drew.setRow g X).setRow g Y).heap[k]? = w.heap[k]?) ∧ ((w.drew.setRow g X).setRow g Y).heap.size = w.heap.size := by
  have h1 : (w.drew.setRow g X).heap[g]? = some (.cells X 54 (0, 0)) := setRow_heap w.drew _ _ _ _ _ hg
  have h2 := setRow_heap _ g X Y _ _ h1
  refine ⟨⟨hl, .inr ⟨g, cap, Y, rfl, hB, h2, hm, hcm, hY, ht⟩⟩, below_setRow (below_setRow (Below.refl _ _).drew hB _) hB _, fun k hne => ?_, by simp⟩
  rw [setRow_other _ _ _ _ hne, setRow_other _ _ _ _ hne]; exact rfl
theorem clear_size {o k n : Nat} {X : Array Value} {z : Array Value} (hz : z.size = 3) (h : o + k * 3 ≤ n) (hX : X.size = n) :
    (X.toList.take o ++ (Builtin.zeroCells z k).toList ++ X.toList.drop (o + (Builtin.zeroCells z k).toList.length)).toArray.size = n := by
  have e : (Builtin.zeroCells z k).toList.length = k * 3 := by rw [Array.length_toList, size_zeroCells, hz]
  simp only [List.size_toArray, List.length_append, List.length_take, List.length_drop, e, Array.length_toList, hX]
  omega
set_option maxHeartbeats 2000000 in
theorem delete_end {w : World} {B g n : Nat} {xs : List Value} (ho : w.ownsRow B 54 3 (.slice (some ⟨g, 0, none⟩) n n) n xs) (i : Nat) (hij : i < n) (hn : n ≤ 1048576) :
    Calls Try.prog 20 #[.slice (some ⟨g, 0, none⟩) n n, .int .i64 (i : Int), .int .i64 (n : Int)] w fun e w' =>
      e = .returned (.slice (some ⟨g, 0, none⟩) i n) ∧ w'.ownsRow B 54 3 (.slice (some ⟨g, 0, none⟩) i n) i (xs.take (i * 3)) ∧ Below B w w' ∧ (∀ k, k ≠ g → w'.heap[k]? = w.heap[k]?) ∧ w'.heap.size = w.heap.size := by
  obtain ⟨cur, hBg, hg, hnc, hcm, hcs, htk⟩ := own_row ho
  have q1 : (0 : Int) ≤ (i : Int) := by omega
  have q2 : (i : Int) ≤ (n : Int) := by omega
  have n1 : i ≤ n := by omega
  have qe : ((i : Int) == (n : Int)) = false := by rw [beq_eq_false_iff_ne]; omega
  have HC := Lib.hid hcs; have HT := Lib.hid htk; have HO := Lib.hid ho; have HM := Lib.hid hcm
  clear hcs htk ho hcm hnc
  go_enter Try.func20, Try.ntmps20
  go_wp2_with fail
  refine wp_region_t (by kernel_rfl) ?_
  refine wpAnyT_take 0 (v := ?_) rfl (by kernel_rfl) (by kernel_rfl) (by kernel_rfl) (fun _ _ _ h => h) (by rfl) (by intro W hSw; go_simp; with_reducible rfl) ?_; try simp only [Act.put, List.setIfInBounds_toArray, List.set_cons_zero, List.set_cons_succ]
  refine wpAnyT_take 1 (v := ?_) rfl (by kernel_rfl) (by kernel_rfl) (by kernel_rfl) (fun _ _ _ h => h) (by rfl) (by intro W hSw; go_simp; with_reducible rfl) ?_; try simp only [Act.put, List.setIfInBounds_toArray, List.set_cons_zero, List.set_cons_succ]
  refine wpAnyT_take 2 (v := ?_) rfl (by kernel_rfl) (by kernel_rfl) (by kernel_rfl) (fun _ _ _ h => h) (by rfl) (by intro W hSw; go_simp; with_reducible rfl) ?_; try simp only [Act.put, List.setIfInBounds_toArray, List.set_cons_zero, List.set_cons_succ]
  refine wpAnyT_take 3 (v := ?_) rfl (by kernel_rfl) (by kernel_rfl) (by kernel_rfl) (fun _ _ _ h => h) (by rfl) (by intro W hSw; go_simp; with_reducible rfl) ?_; try simp only [Act.put, List.setIfInBounds_toArray, List.set_cons_zero, List.set_cons_succ]
  refine wpAnyT_take 4 (v := ?_) rfl (by kernel_rfl) (by kernel_rfl) (by kernel_rfl) (fun _ _ _ h => h) (by rfl) (by intro W hSw; go_simp; with_reducible rfl) ?_; try simp only [Act.put, List.setIfInBounds_toArray, List.set_cons_zero, List.set_cons_succ]
  refine wpAnyT_take 5 (v := ?_) rfl (by kernel_rfl) (by kernel_rfl) (by kernel_rfl) (fun _ _ _ h => h) (by rfl) (by intro W hSw; go_simp; with_reducible rfl) ?_; try simp only [Act.put, List.setIfInBounds_toArray, List.set_cons_zero, List.set_cons_succ]
  refine wpAnyT_one 6 (by kernel_rfl) rfl (fun K hK => ?_)
  refine step_append_in (by rfl) (.tmp 22) (.tmp 25) 47 rfl 54 3 40 letterT g i n cur hg rfl ⟨g, 0, none⟩ 0 0 [] rfl (Rd.nil _ _ _) (fun u hu => by cases hu) (by omega) HC.out ?_
  refine hK.out _ _ trivial ?_
  clear hK K; try simp only [Act.put, List.setIfInBounds_toArray, List.set_cons_zero, List.set_cons_succ]
  refine wpAnyT_take 7 (v := ?_) rfl (by kernel_rfl) (by kernel_rfl) (by kernel_rfl) (fun _ _ _ h => h) (by rfl) (by intro W hSw; go_simp; with_reducible rfl) ?_; try simp only [Act.put, List.setIfInBounds_toArray, List.set_cons_zero]
  refine wpAnyT_done (by kernel_rfl) ?_ _
  obtain ⟨W2, hW2⟩ : ∃ W2, W2 = w.drew.setRow g (cur.toList.take (i * 3) ++ [] ++ cur.toList.drop (i * 3 + ([] : List Value).length)).toArray := ⟨_, rfl⟩
  rw [← hW2]
  have hg2 : W2.heap[g]? = some (.cells cur 54 (0, 0)) := by
    rw [hW2, setRow_heap _ _ _ _ _ _ (show w.drew.heap[g]? = _ from hg)]; simp
  have hclr : ∀ ty, (Builtin.clear_ #[47] ty #[.slice (some ⟨g, i * 3, none⟩) (n - i) (n - i)]).run Try.prog W2 = .ok (.tuple #[]) (W2.setRow g _) := fun ty =>
    run_clear_row 47 54 ty (.agg #[.int .i64 0, .slice none 0 0, .bool false]) 3 Try.underlying47 (fun w => by kernel_rfl) rfl (by intro u hu; simp [Value.cells] at hu; rcases hu with rfl | rfl | rfl <;> rfl) (by omega) W2 g (i * 3) (n - i) (n - i) cur (by omega) hg2 (by rw [HC.out]; omega)
  have HW2 := Lib.hid hW2
  clear hW2
  go_wp2_with fail
  go_ret
  refine ⟨rfl, ?_⟩
  rw [HW2.out]
  have ht : xs.take (i * 3) = cur.toList.take (i * 3) := by rw [← HT.out, List.take_take]; congr 1; omega
  refine rows_close hg hBg n1 HM.out ?_ ?_ ?_
  · simpa [Value.cells] using clear_size (o := i * 3) (k := n - i) (n := n * 3) (X := cur) (z := (Value.agg #[.int .i64 0, .slice none 0 0, .bool false]).cells) rfl (by omega) HC.out
  · rw [ht]; simp; rw [List.take_append_of_le_length (by simp [HC.out]; omega), List.take_take]; congr 1; omega
  · rw [List.length_take, HO.out.1]; omega
set_option maxHeartbeats 2000000 in
theorem delete_mid {w : World} {B g n cap : Nat} {xs : List Value} (ho : w.ownsRow B 54 3 (.slice (some ⟨g, 0, none⟩) n cap) n xs) (hone : ∀ u ∈ xs, u.oneCell' = true) (i j : Nat) (hij : i < j) (hjn : j ≤ n) (hn : n ≤ 1048576) (hcj : ¬ cap = j) :
    Calls Try.prog 20 #[.slice (some ⟨g, 0, none⟩) n cap, .int .i64 (i : Int), .int .i64 (j : Int)] w fun e w' =>
      e = .returned (.slice (some ⟨g, 0, none⟩) (i + (n - j)) cap) ∧ w'.ownsRow B 54 3 (.slice (some ⟨g, 0, none⟩) (i + (n - j)) cap) (i + (n - j)) (xs.take (i * 3) ++ xs.drop (j * 3)) ∧ Below B w w' ∧ (∀ k, k ≠ g → w'.heap[k]? = w.heap[k]?) ∧ w'.heap.size = w.heap.size := by
  obtain ⟨cur, hBg, hg, hnc, hcm, hcs, htk⟩ := own_row ho
  have hR := Rd.cut (Rd.of_own ho) (k := j) (cap := cap) (by omega) (by omega)
  simp only [hcj, if_false, Option.map_some, add_plain, Nat.zero_add] at hR
  have hmx : cap ≤ 9223372036854775807 := by simpa [maxLen] using hcm
  have q1 : (0 : Int) ≤ (i : Int) := by omega
  have q2 : (i : Int) ≤ (j : Int) := by omega
  have q3 : (j : Int) ≤ (n : Int) := by omega
  have q4 : (n : Int) ≤ (cap : Int) := by omega
  have n1 : i ≤ cap := by omega
  have n2 : j ≤ cap := by omega
  have n3 : j ≤ n := hjn
  have qe : ((i : Int) == (j : Int)) = false := by rw [beq_eq_false_iff_ne]; omega
  have HC := Lib.hid hcs; have HT := Lib.hid htk; have HO := Lib.hid ho; have HM := Lib.hid hcm
  clear hcs htk ho hcm
  go_enter Try.func20, Try.ntmps20
  go_wp2_with fail
  refine wp_region_t (by kernel_rfl) ?_
  refine wpAnyT_take 0 (v := ?_) rfl (by kernel_rfl) (by kernel_rfl) (by kernel_rfl) (fun _ _ _ h => h) (by rfl) (by intro W hSw; go_simp; with_reducible rfl) ?_; try simp only [Act.put, List.setIfInBounds_toArray, List.set_cons_zero, List.set_cons_succ]
  refine wpAnyT_take 1 (v := ?_) rfl (by kernel_rfl) (by kernel_rfl) (by kernel_rfl) (fun _ _ _ h => h) (by rfl) (by intro W hSw; go_simp; with_reducible rfl) ?_; try simp only [Act.put, List.setIfInBounds_toArray, List.set_cons_zero, List.set_cons_succ]
  refine wpAnyT_take 2 (v := ?_) rfl (by kernel_rfl) (by kernel_rfl) (by kernel_rfl) (fun _ _ _ h => h) (by rfl) (by intro W hSw; go_simp; with_reducible rfl) ?_; try simp only [Act.put, List.setIfInBounds_toArray, List.set_cons_zero, List.set_cons_succ]
  refine wpAnyT_take 3 (v := ?_) rfl (by kernel_rfl) (by kernel_rfl) (by kernel_rfl) (fun _ _ _ h => h) (by rfl) (by intro W hSw; go_simp; with_reducible rfl) ?_; try simp only [Act.put, List.setIfInBounds_toArray, List.set_cons_zero, List.set_cons_succ]
  refine wpAnyT_take 4 (v := ?_) rfl (by kernel_rfl) (by kernel_rfl) (by kernel_rfl) (fun _ _ _ h => h) (by rfl) (by intro W hSw; go_simp; with_reducible rfl) ?_; try simp only [Act.put, List.setIfInBounds_toArray, List.set_cons_zero, List.set_cons_succ]
  refine wpAnyT_take 5 (v := ?_) rfl (by kernel_rfl) (by kernel_rfl) (by kernel_rfl) (fun _ _ _ h => h) (by rfl) (by intro W hSw; go_simp; with_reducible rfl) ?_; try simp only [Act.put, List.setIfInBounds_toArray, List.set_cons_zero, List.set_cons_succ]
  refine wpAnyT_one 6 (by kernel_rfl) rfl (fun K hK => ?_)
  refine step_append_in (by rfl) (.tmp 22) (.tmp 25) 47 rfl 54 3 40 letterT g i cap cur hg rfl ⟨g, j * 3, none⟩ (n - j) (cap - j) (xs.drop (j * 3)) rfl hR.drew (fun u hu => hone u (List.mem_of_mem_drop hu)) (by omega) HC.out ?_
  refine hK.out _ _ trivial ?_
  clear hK K; try simp only [Act.put, List.setIfInBounds_toArray, List.set_cons_zero, List.set_cons_succ]
  refine wpAnyT_take 7 (v := ?_) rfl (by kernel_rfl) (by kernel_rfl) (by kernel_rfl) (fun _ _ _ h => h) (by rfl) (by intro W hSw; go_simp; with_reducible rfl) ?_; try simp only [Act.put, List.setIfInBounds_toArray, List.set_cons_zero, List.set_cons_succ]
  refine wpAnyT_done (by kernel_rfl) ?_ _
  obtain ⟨m, hm⟩ : ∃ m, m = i + (n - j) := ⟨_, rfl⟩
  have hmn : m < n := by omega
  have hX : (cur.toList.take (i * 3) ++ xs.drop (j * 3) ++ cur.toList.drop (i * 3 + (xs.drop (j * 3)).length)).length = cap * 3 := by
    have h1 := HO.out.1
    simp only [List.length_append, List.length_take, List.length_drop, Array.length_toList, HC.out, h1]
    omega
  have hXt : (cur.toList.take (i * 3) ++ xs.drop (j * 3) ++ cur.toList.drop (i * 3 + (xs.drop (j * 3)).length)).take (m * 3) = xs.take (i * 3) ++ xs.drop (j * 3) := by
    have h1 := HO.out.1
    have h2 : xs.take (i * 3) = cur.toList.take (i * 3) := by rw [← HT.out, List.take_take]; congr 1; omega
    rw [List.take_left' (by simp only [List.length_append, List.length_take, List.length_drop, Array.length_toList, HC.out, h1]; omega), h2]
  have hml : (xs.take (i * 3) ++ xs.drop (j * 3)).length = m * 3 := by
    have h1 := HO.out.1
    simp only [List.length_append, List.length_take, List.length_drop, h1]
    omega
  generalize cur.toList.take (i * 3) ++ xs.drop (j * 3) ++ cur.toList.drop (i * 3 + (xs.drop (j * 3)).length) = X at hX hXt ⊢
  rw [← hm]
  obtain ⟨W2, hW2⟩ : ∃ W2, W2 = w.drew.setRow g X.toArray := ⟨_, rfl⟩
  rw [← hW2]
  have hg2 : W2.heap[g]? = some (.cells X.toArray 54 (0, 0)) := by
    rw [hW2]; exact setRow_heap w.drew _ _ _ _ _ hg
  have hclr : ∀ ty, (Builtin.clear_ #[47] ty #[.slice (some ⟨g, m * 3, none⟩) (n - m) (cap - m)]).run Try.prog W2 = .ok (.tuple #[]) (W2.setRow g _) := fun ty =>
    run_clear_row 47 54 ty (.agg #[.int .i64 0, .slice none 0 0, .bool false]) 3 Try.underlying47 (fun w => by kernel_rfl) rfl (by intro u hu; simp [Value.cells] at hu; rcases hu with rfl | rfl | rfl <;> rfl) (by omega) W2 g (m * 3) (n - m) (cap - m) X.toArray (by omega) hg2 (by rw [List.size_toArray, hX]; omega)
  have r1 : (0 : Int) ≤ (m : Int) := by omega
  have r2 : (m : Int) ≤ (n : Int) := by omega
  have r3 : ¬ cap = m := by omega
  have HW2 := Lib.hid hW2; have HMM := Lib.hid hm; have HX := Lib.hid hX; have HXT := Lib.hid hXt; have HML := Lib.hid hml
  clear hW2 hm hX hXt hml
  go_wp2_with fail
  go_ret
  rw [← HMM.out]
  refine ⟨rfl, ?_⟩
  rw [HW2.out]
  refine rows_close hg hBg (by omega) HM.out ?_ ?_ HML.out
  · simpa [Value.cells] using clear_size (o := m * 3) (k := n - m) (n := cap * 3) (X := X.toArray) (z := (Value.agg #[.int .i64 0, .slice none 0 0, .bool false]).cells) rfl (by omega) (by rw [List.size_toArray, HX.out])
  · simp; rw [List.take_append_of_le_length (by simp [HX.out]; omega), List.take_take, Nat.min_self]; exact HXT.out
theorem rowOf_append (a b : List Ltr) : rowOf (a ++ b) = rowOf a ++ rowOf b := by simp [rowOf]
theorem rowOf_len (L : List Ltr) : (rowOf L).length = L.length * 3 := by
  induction L with
  | nil => rfl
  | cons y L ih =>
    have e : rowOf (y :: L) = y.cells ++ rowOf L := rfl
    rw [e, List.length_append, ih, List.length_cons]
    have : y.cells.length = 3 := rfl
    omega
theorem rowOf_take (L : List Ltr) (i : Nat) : (rowOf L).take (i * 3) = rowOf (L.take i) := by
  rcases Nat.lt_or_ge i L.length with hi | hi
  · have h : rowOf L = rowOf (L.take i) ++ rowOf (L.drop i) := by rw [← rowOf_append, List.take_append_drop]
    rw [h, List.take_left' (by rw [rowOf_len, List.length_take]; congr 1; omega)]
  · rw [List.take_of_length_le (by rw [rowOf_len]; omega), List.take_of_length_le hi]
theorem rowOf_drop (L : List Ltr) (i : Nat) : (rowOf L).drop (i * 3) = rowOf (L.drop i) := by
  rcases Nat.lt_or_ge i L.length with hi | hi
  · have h : rowOf L = rowOf (L.take i) ++ rowOf (L.drop i) := by rw [← rowOf_append, List.take_append_drop]
    rw [h, List.drop_left' (by rw [rowOf_len, List.length_take]; congr 1; omega)]
  · rw [List.drop_of_length_le (by rw [rowOf_len]; omega), List.drop_of_length_le hi]; rfl
theorem rowOf_one {w : World} {B : Nat} {L : List Ltr} (h : ∀ x ∈ L, w.ownsRow B 5 1 x.v x.text.length (bvs x.text)) : ∀ u ∈ rowOf L, u.oneCell' = true := by
  intro u hu
  obtain ⟨x, hx, hu⟩ := List.mem_flatMap.1 hu
  obtain ⟨A, c, hv⟩ := own_form (h x hx)
  simp only [Ltr.cells, List.mem_cons, List.not_mem_nil, or_false] at hu
  rcases hu with rfl | rfl | rfl
  · rfl
  · rw [hv]; rfl
  · rfl
/-- slices.Delete of one letter. -/
theorem delete_any {w : World} {B g cap : Nat} {L : List Ltr} (ho : w.ownsRow B 54 3 (.slice (some ⟨g, 0, none⟩) L.length cap) L.length (rowOf L)) (hL : ∀ x ∈ L, w.ownsRow B 5 1 x.v x.text.length (bvs x.text)) (i : Nat) (hi : i < L.length) (hn : L.length ≤ 1048576) :
    Calls Try.prog 20 #[.slice (some ⟨g, 0, none⟩) L.length cap, .int .i64 (i : Int), .int .i64 ((i : Int) + 1)] w fun e w' =>
      e = .returned (.slice (some ⟨g, 0, none⟩) (L.length - 1) cap) ∧ w'.ownsRow B 54 3 (.slice (some ⟨g, 0, none⟩) (L.length - 1) cap) (L.length - 1) (rowOf (L.eraseIdx i)) ∧ Below B w w' ∧ (∀ k, k ≠ g → w'.heap[k]? = w.heap[k]?) ∧ w'.heap.size = w.heap.size := by
  have hnc := (own_row ho).choose_spec.2.2.1
  have e0 : L.eraseIdx i = L.take i ++ L.drop (i + 1) := List.eraseIdx_eq_take_drop_succ _ _
  rw [e0, rowOf_append, ← rowOf_take, ← rowOf_drop]
  by_cases hc : cap = i + 1
  · have hl : L.length = i + 1 := by omega
    have hd : (rowOf L).drop ((i + 1) * 3) = [] := List.drop_of_length_le (by rw [rowOf_len]; omega)
    rw [hd, List.append_nil]
    generalize rowOf L = R at ho
    rw [hl, hc] at ho ⊢
    have := delete_end ho i (by omega) (by omega)
    simpa using this
  · have := delete_mid ho (rowOf_one hL) i (i + 1) (by omega) (by omega) hn hc
    rw [show i + (L.length - (i + 1)) = L.length - 1 from by omega] at this
    simpa using this
end Go.Proofs.Ytajhogjogkfioaa

