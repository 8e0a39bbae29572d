/-
  The contract of slices.Delete at pairs.
-/
import Derived.Test.YtblljpdlmllceaaKPair
import Derived.Test.YtblljpdlmllceaaG3
import Derived.Test.YtblljpdlmllceaaG2
namespace Go.Proofs.Ytblljpdlmllceaa
open Go.RowKit
set_option linter.unusedVariables false
set_option linter.unusedSimpArgs false
/-- A row of letters that has been written twice in place. -/
theorem rows_close {w : World} {B g cap m : Nat} {cur X Y : Array Value} {xs : List Value} (hg : w.heap[g]? = some (.cells cur 55 (0, 0))) (hB : B ≤ g) (hm : m ≤ cap) (hcm : cap ≤ maxLen) (hY : Y.size = cap * 2)
    (ht : Y.toList.take (m * 2) = xs) (hl : xs.length = m * 2) :
    ((w.drew.setRow g X).setRow g Y).ownsRow B 55 2 (.slice (some ⟨g, 0, none⟩) m cap) m xs ∧ Below B w ((w.drew.setRow g X).setRow g Y) ∧ (∀ k, k ≠ g → ((w.drew.setRow g X).setRow g Y).heap[k]? = w.heap[k]?) ∧ ((w.drew.setRow g X).setRow g Y).heap.size = w.heap.size := by
  have h1 : (w.drew.setRow g X).heap[g]? = some (.cells X 55 (0, 0)) := setRow_heap w.drew _ _ _ _ _ hg
  have h2 := setRow_heap _ g X Y _ _ h1
  refine ⟨⟨hl, .inr ⟨g, cap, Y, rfl, hB, h2, hm, hcm, hY, ht⟩⟩, below_setRow (below_setRow (Below.refl _ _).drew hB _) hB _, fun k hne => ?_, by simp⟩
  rw [setRow_other _ _ _ _ hne, setRow_other _ _ _ _ hne]; exact rfl
theorem clear_size {o k n : Nat} {X : Array Value} {z : Array Value} (hz : z.size = 2) (h : o + k * 2 ≤ n) (hX : X.size = n) :
    (X.toList.take o ++ (Builtin.zeroCells z k).toList ++ X.toList.drop (o + (Builtin.zeroCells z k).toList.length)).toArray.size = n := by
  have e : (Builtin.zeroCells z k).toList.length = k * 2 := by rw [Array.length_toList, size_zeroCells, hz]
  simp only [List.size_toArray, List.length_append, List.length_take, List.length_drop, e, Array.length_toList, hX]
  omega
set_option maxHeartbeats 2000000 in
theorem delete_end {w : World} {B g n : Nat} {xs : List Value} (ho : w.ownsRow B 55 2 (.slice (some ⟨g, 0, none⟩) n n) n xs) (i : Nat) (hij : i < n) (hn : n ≤ 4398046511104) :
    Calls Try.prog 48 #[.slice (some ⟨g, 0, none⟩) n n, .int .i64 (i : Int), .int .i64 (n : Int)] w fun e w' =>
      e = .returned (.slice (some ⟨g, 0, none⟩) i n) ∧ w'.ownsRow B 55 2 (.slice (some ⟨g, 0, none⟩) i n) i (xs.take (i * 2)) ∧ Below B w w' ∧ (∀ k, k ≠ g → w'.heap[k]? = w.heap[k]?) ∧ w'.heap.size = w.heap.size := by
  obtain ⟨cur, hBg, hg, hnc, hcm, hcs, htk⟩ := own_row ho
  have q1 : (0 : Int) ≤ (i : Int) := by omega
  have q2 : (i : Int) ≤ (n : Int) := by omega
  have n1 : i ≤ n := by omega
  have qe : ((i : Int) == (n : Int)) = false := by rw [beq_eq_false_iff_ne]; omega
  have HC := Lib.hid hcs; have HT := Lib.hid htk; have HO := Lib.hid ho; have HM := Lib.hid hcm
  clear hcs htk ho hcm hnc
  go_enter Try.func48, Try.ntmps48
  go_wp2_with fail
  refine wp_region_t (by kernel_rfl) ?_
  refine wpAnyT_take 0 (v := ?_) rfl (by kernel_rfl) (by kernel_rfl) (by kernel_rfl) (fun _ _ _ h => h) (by rfl) (by intro W hSw; go_simp; with_reducible rfl) ?_; try simp only [Act.put, List.setIfInBounds_toArray, List.set_cons_zero, List.set_cons_succ]
  refine wpAnyT_take 1 (v := ?_) rfl (by kernel_rfl) (by kernel_rfl) (by kernel_rfl) (fun _ _ _ h => h) (by rfl) (by intro W hSw; go_simp; with_reducible rfl) ?_; try simp only [Act.put, List.setIfInBounds_toArray, List.set_cons_zero, List.set_cons_succ]
  refine wpAnyT_take 2 (v := ?_) rfl (by kernel_rfl) (by kernel_rfl) (by kernel_rfl) (fun _ _ _ h => h) (by rfl) (by intro W hSw; go_simp; with_reducible rfl) ?_; try simp only [Act.put, List.setIfInBounds_toArray, List.set_cons_zero, List.set_cons_succ]
  refine wpAnyT_take 3 (v := ?_) rfl (by kernel_rfl) (by kernel_rfl) (by kernel_rfl) (fun _ _ _ h => h) (by rfl) (by intro W hSw; go_simp; with_reducible rfl) ?_; try simp only [Act.put, List.setIfInBounds_toArray, List.set_cons_zero, List.set_cons_succ]
  refine wpAnyT_take 4 (v := ?_) rfl (by kernel_rfl) (by kernel_rfl) (by kernel_rfl) (fun _ _ _ h => h) (by rfl) (by intro W hSw; go_simp; with_reducible rfl) ?_; try simp only [Act.put, List.setIfInBounds_toArray, List.set_cons_zero, List.set_cons_succ]
  refine wpAnyT_take 5 (v := ?_) rfl (by kernel_rfl) (by kernel_rfl) (by kernel_rfl) (fun _ _ _ h => h) (by rfl) (by intro W hSw; go_simp; with_reducible rfl) ?_; try simp only [Act.put, List.setIfInBounds_toArray, List.set_cons_zero, List.set_cons_succ]
  refine wpAnyT_one 6 (by kernel_rfl) rfl (fun K hK => ?_)
  refine step_append_in (by rfl) (.tmp 22) (.tmp 25) 22 rfl 55 2 32 pairT g i n cur hg rfl ⟨g, 0, none⟩ 0 0 [] rfl (Rd.nil _ _ _) (fun u hu => by cases hu) (by omega) HC.out ?_
  refine hK.out _ _ trivial ?_
  clear hK K; try simp only [Act.put, List.setIfInBounds_toArray, List.set_cons_zero, List.set_cons_succ]
  refine wpAnyT_take 7 (v := ?_) rfl (by kernel_rfl) (by kernel_rfl) (by kernel_rfl) (fun _ _ _ h => h) (by rfl) (by intro W hSw; go_simp; with_reducible rfl) ?_; try simp only [Act.put, List.setIfInBounds_toArray, List.set_cons_zero]
  refine wpAnyT_done (by kernel_rfl) ?_ _
  obtain ⟨W2, hW2⟩ : ∃ W2, W2 = w.drew.setRow g (cur.toList.take (i * 2) ++ [] ++ cur.toList.drop (i * 2 + ([] : List Value).length)).toArray := ⟨_, rfl⟩
  rw [← hW2]
  have hg2 : W2.heap[g]? = some (.cells cur 55 (0, 0)) := by
    rw [hW2, setRow_heap _ _ _ _ _ _ (show w.drew.heap[g]? = _ from hg)]; simp
  have hclr : ∀ ty, (Builtin.clear_ #[22] ty #[.slice (some ⟨g, i * 2, none⟩) (n - i) (n - i)]).run Try.prog W2 = .ok (.tuple #[]) (W2.setRow g _) := fun ty =>
    run_clear_row 22 55 ty (.agg #[.string ByteArray.empty, .string ByteArray.empty]) 2 Try.underlying22 (fun w => by kernel_rfl) rfl (by intro u hu; simp [Value.cells] at hu; rcases hu with rfl | rfl <;> rfl) (by omega) W2 g (i * 2) (n - i) (n - i) cur (by omega) hg2 (by rw [HC.out]; omega)
  have HW2 := Lib.hid hW2
  clear hW2
  go_wp2_with fail
  go_ret
  refine ⟨rfl, ?_⟩
  rw [HW2.out]
  have ht : xs.take (i * 2) = cur.toList.take (i * 2) := by rw [← HT.out, List.take_take]; congr 1; omega
  refine rows_close hg hBg n1 HM.out ?_ ?_ ?_
  · simpa [Value.cells] using clear_size (o := i * 2) (k := n - i) (n := n * 2) (X := cur) (z := (Value.agg #[.string ByteArray.empty, .string ByteArray.empty]).cells) rfl (by omega) HC.out
  · rw [ht]; simp; rw [List.take_append_of_le_length (by simp [HC.out]; omega), List.take_take]; congr 1; omega
  · rw [List.length_take, HO.out.1]; omega
set_option maxHeartbeats 2000000 in
theorem delete_mid {w : World} {B g n cap : Nat} {xs : List Value} (ho : w.ownsRow B 55 2 (.slice (some ⟨g, 0, none⟩) n cap) n xs) (hone : ∀ u ∈ xs, u.oneCell' = true) (i j : Nat) (hij : i < j) (hjn : j ≤ n) (hn : n ≤ 4398046511104) (hcj : ¬ cap = j) :
    Calls Try.prog 48 #[.slice (some ⟨g, 0, none⟩) n cap, .int .i64 (i : Int), .int .i64 (j : Int)] w fun e w' =>
      e = .returned (.slice (some ⟨g, 0, none⟩) (i + (n - j)) cap) ∧ w'.ownsRow B 55 2 (.slice (some ⟨g, 0, none⟩) (i + (n - j)) cap) (i + (n - j)) (xs.take (i * 2) ++ xs.drop (j * 2)) ∧ Below B w w' ∧ (∀ k, k ≠ g → w'.heap[k]? = w.heap[k]?) ∧ w'.heap.size = w.heap.size := by
  obtain ⟨cur, hBg, hg, hnc, hcm, hcs, htk⟩ := own_row ho
  have hR := Rd.cut (Rd.of_own ho) (k := j) (cap := cap) (by omega) (by omega)
  simp only [hcj, if_false, Option.map_some, add_plain, Nat.zero_add] at hR
  have hmx : cap ≤ 9223372036854775807 := by simpa [maxLen] using hcm
  have q1 : (0 : Int) ≤ (i : Int) := by omega
  have q2 : (i : Int) ≤ (j : Int) := by omega
  have q3 : (j : Int) ≤ (n : Int) := by omega
  have q4 : (n : Int) ≤ (cap : Int) := by omega
  have n1 : i ≤ cap := by omega
  have n2 : j ≤ cap := by omega
  have n3 : j ≤ n := hjn
  have qe : ((i : Int) == (j : Int)) = false := by rw [beq_eq_false_iff_ne]; omega
  have HC := Lib.hid hcs; have HT := Lib.hid htk; have HO := Lib.hid ho; have HM := Lib.hid hcm
  clear hcs htk ho hcm
  go_enter Try.func48, Try.ntmps48
  go_wp2_with fail
  refine wp_region_t (by kernel_rfl) ?_
  refine wpAnyT_take 0 (v := ?_) rfl (by kernel_rfl) (by kernel_rfl) (by kernel_rfl) (fun _ _ _ h => h) (by rfl) (by intro W hSw; go_simp; with_reducible rfl) ?_; try simp only [Act.put, List.setIfInBounds_toArray, List.set_cons_zero, List.set_cons_succ]
  refine wpAnyT_take 1 (v := ?_) rfl (by kernel_rfl) (by kernel_rfl) (by kernel_rfl) (fun _ _ _ h => h) (by rfl) (by intro W hSw; go_simp; with_reducible rfl) ?_; try simp only [Act.put, List.setIfInBounds_toArray, List.set_cons_zero, List.set_cons_succ]
  refine wpAnyT_take 2 (v := ?_) rfl (by kernel_rfl) (by kernel_rfl) (by kernel_rfl) (fun _ _ _ h => h) (by rfl) (by intro W hSw; go_simp; with_reducible rfl) ?_; try simp only [Act.put, List.setIfInBounds_toArray, List.set_cons_zero, List.set_cons_succ]
  refine wpAnyT_take 3 (v := ?_) rfl (by kernel_rfl) (by kernel_rfl) (by kernel_rfl) (fun _ _ _ h => h) (by rfl) (by intro W hSw; go_simp; with_reducible rfl) ?_; try simp only [Act.put, List.setIfInBounds_toArray, List.set_cons_zero, List.set_cons_succ]
  refine wpAnyT_take 4 (v := ?_) rfl (by kernel_rfl) (by kernel_rfl) (by kernel_rfl) (fun _ _ _ h => h) (by rfl) (by intro W hSw; go_simp; with_reducible rfl) ?_; try simp only [Act.put, List.setIfInBounds_toArray, List.set_cons_zero, List.set_cons_succ]
  refine wpAnyT_take 5 (v := ?_) rfl (by kernel_rfl) (by kernel_rfl) (by kernel_rfl) (fun _ _ _ h => h) (by rfl) (by intro W hSw; go_simp; with_reducible rfl) ?_; try simp only [Act.put, List.setIfInBounds_toArray, List.set_cons_zero, List.set_cons_succ]
  refine wpAnyT_one 6 (by kernel_rfl) rfl (fun K hK => ?_)
  refine step_append_in (by rfl) (.tmp 22) (.tmp 25) 22 rfl 55 2 32 pairT g i cap cur hg rfl ⟨g, j * 2, none⟩ (n - j) (cap - j) (xs.drop (j * 2)) rfl hR.drew (fun u hu => hone u (List.mem_of_mem_drop hu)) (by omega) HC.out ?_
  refine hK.out _ _ trivial ?_
  clear hK K; try simp only [Act.put, List.setIfInBounds_toArray, List.set_cons_zero, List.set_cons_succ]
  refine wpAnyT_take 7 (v := ?_) rfl (by kernel_rfl) (by kernel_rfl) (by kernel_rfl) (fun _ _ _ h => h) (by rfl) (by intro W hSw; go_simp; with_reducible rfl) ?_; try simp only [Act.put, List.setIfInBounds_toArray, List.set_cons_zero, List.set_cons_succ]
  refine wpAnyT_done (by kernel_rfl) ?_ _
  obtain ⟨m, hm⟩ : ∃ m, m = i + (n - j) := ⟨_, rfl⟩
  have hmn : m < n := by omega
  have hX : (cur.toList.take (i * 2) ++ xs.drop (j * 2) ++ cur.toList.drop (i * 2 + (xs.drop (j * 2)).length)).length = cap * 2 := by
    have h1 := HO.out.1
    simp only [List.length_append, List.length_take, List.length_drop, Array.length_toList, HC.out, h1]
    omega
  have hXt : (cur.toList.take (i * 2) ++ xs.drop (j * 2) ++ cur.toList.drop (i * 2 + (xs.drop (j * 2)).length)).take (m * 2) = xs.take (i * 2) ++ xs.drop (j * 2) := by
    have h1 := HO.out.1
    have h2 : xs.take (i * 2) = cur.toList.take (i * 2) := by rw [← HT.out, List.take_take]; congr 1; omega
    rw [List.take_left' (by simp only [List.length_append, List.length_take, List.length_drop, Array.length_toList, HC.out, h1]; omega), h2]
  have hml : (xs.take (i * 2) ++ xs.drop (j * 2)).length = m * 2 := by
    have h1 := HO.out.1
    simp only [List.length_append, List.length_take, List.length_drop, h1]
    omega
  generalize cur.toList.take (i * 2) ++ xs.drop (j * 2) ++ cur.toList.drop (i * 2 + (xs.drop (j * 2)).length) = X at hX hXt ⊢
  rw [← hm]
  obtain ⟨W2, hW2⟩ : ∃ W2, W2 = w.drew.setRow g X.toArray := ⟨_, rfl⟩
  rw [← hW2]
  have hg2 : W2.heap[g]? = some (.cells X.toArray 55 (0, 0)) := by
    rw [hW2]; exact setRow_heap w.drew _ _ _ _ _ hg
  have hclr : ∀ ty, (Builtin.clear_ #[22] ty #[.slice (some ⟨g, m * 2, none⟩) (n - m) (cap - m)]).run Try.prog W2 = .ok (.tuple #[]) (W2.setRow g _) := fun ty =>
    run_clear_row 22 55 ty (.agg #[.string ByteArray.empty, .string ByteArray.empty]) 2 Try.underlying22 (fun w => by kernel_rfl) rfl (by intro u hu; simp [Value.cells] at hu; rcases hu with rfl | rfl <;> rfl) (by omega) W2 g (m * 2) (n - m) (cap - m) X.toArray (by omega) hg2 (by rw [List.size_toArray, hX]; omega)
  have r1 : (0 : Int) ≤ (m : Int) := by omega
  have r2 : (m : Int) ≤ (n : Int) := by omega
  have r3 : ¬ cap = m := by omega
  have HW2 := Lib.hid hW2; have HMM := Lib.hid hm; have HX := Lib.hid hX; have HXT := Lib.hid hXt; have HML := Lib.hid hml
  clear hW2 hm hX hXt hml
  go_wp2_with fail
  go_ret
  rw [← HMM.out]
  refine ⟨rfl, ?_⟩
  rw [HW2.out]
  refine rows_close hg hBg (by omega) HM.out ?_ ?_ HML.out
  · simpa [Value.cells] using clear_size (o := m * 2) (k := n - m) (n := cap * 2) (X := X.toArray) (z := (Value.agg #[.string ByteArray.empty, .string ByteArray.empty]).cells) rfl (by omega) (by rw [List.size_toArray, HX.out])
  · simp; rw [List.take_append_of_le_length (by simp [HX.out]; omega), List.take_take, Nat.min_self]; exact HXT.out
theorem own_cases {w : World} {base n size c : Nat} {e : TypeId} {A : Option Addr} {xs : List Value} (h : w.ownsRow base e size (.slice A n c) n xs) : (A = none ∧ n = 0 ∧ c = 0 ∧ xs = []) ∨ ∃ g, A = some ⟨g, 0, none⟩ := by
  rcases h.2 with ⟨hv, h0⟩ | ⟨g, cap, cur, hv, _⟩
  · injection hv with h1 h2 h3
    exact .inl ⟨h1, h2, h3, List.eq_nil_of_length_eq_zero (by rw [h.1, h0, Nat.zero_mul])⟩
  · injection hv with h1
    exact .inr ⟨g, h1⟩
set_option maxHeartbeats 400000 in
theorem delete_same (A : Option Addr) (n c i : Nat) (hi : i ≤ n) (hnc : n ≤ c) (hA : (A = none ∧ n = 0 ∧ c = 0) ∨ ∃ g, A = some ⟨g, 0, none⟩) (w : World) :
    Calls Try.prog 48 #[.slice A n c, .int .i64 (i : Int), .int .i64 (i : Int)] w fun e w' => e = .returned (.slice A n c) ∧ w = w' := by
  have q1 : (0 : Int) ≤ (i : Int) := by omega
  have q2 : (i : Int) ≤ (n : Int) := by omega
  have q3 : (n : Int) ≤ (c : Int) := by omega
  have q4 : (i : Int) ≤ (c : Int) := by omega
  have n1 : i ≤ c := by omega
  rcases hA with ⟨rfl, rfl, rfl⟩ | ⟨g, rfl⟩
  · obtain rfl : i = 0 := by omega
    go_enter Try.func48, Try.ntmps48
    go_wp2_with fail
    all_goals (go_ret; exact ⟨rfl, rfl⟩)
  · go_enter Try.func48, Try.ntmps48
    go_wp2_with fail
    all_goals (go_ret; exact ⟨rfl, rfl⟩)
/-- slices.Delete of a slice of the call's own. -/
theorem delete_own {w : World} {B n c : Nat} {A : Option Addr} {L : List Pr} (ho : w.ownsRow B 55 2 (.slice A n c) n (prow L)) (hl : L.length = n) (i j : Nat) (hij : i ≤ j) (hjn : j ≤ n) (hn : n ≤ 4398046511104) :
    Calls Try.prog 48 #[.slice A n c, .int .i64 (i : Int), .int .i64 (j : Int)] w fun e w' =>
      (∃ (v : Value) (m : Nat), e = .returned v ∧ (L.take i ++ L.drop j).length = m ∧ m ≤ n ∧ w'.ownsRow B 55 2 v m (prow (L.take i ++ L.drop j))) ∧ Below B w w' ∧ w.grownBy w' (Value.slice A n c).ownBlock := by
  have hnc := own_cap ho
  rcases Nat.lt_or_ge i j with hlt | hge
  · rcases own_cases ho with ⟨_, h0, _⟩ | ⟨g, rfl⟩
    · omega
    · have e : prow (L.take i ++ L.drop j) = (prow L).take (i * 2) ++ (prow L).drop (j * 2) := by
        have h1 : (prow L).take (i * 2) = prow (L.take i) := rec_take encP_len L i
        have h2 : (prow L).drop (j * 2) = prow (L.drop j) := rec_drop encP_len L j
        rw [h1, h2]; exact rec_append _ _
      have hlen : (L.take i ++ L.drop j).length = i + (n - j) := by rw [List.length_append, List.length_take, List.length_drop, hl]; omega
      by_cases hc : c = j
      · have hjn' : j = n := by omega
        have hcn : c = n := by omega
        subst hjn' hcn
        refine (delete_end ho i hlt hn).mono fun e' w' ⟨he, h1, h2, h3, _⟩ => ⟨⟨_, i, he, by rw [hlen]; omega, by omega, ?_⟩, h2, grown_blocks h2 h3⟩
        rw [e, List.drop_of_length_le (by rw [prow_len, hl]; omega), List.append_nil]; exact h1
      · refine (delete_mid ho (prow_one L) i j hlt hjn hn hc).mono fun e' w' ⟨he, h1, h2, h3, _⟩ => ⟨⟨_, i + (n - j), he, hlen, by omega, ?_⟩, h2, grown_blocks h2 h3⟩
        rw [e]; exact h1
  · obtain rfl : i = j := by omega
    refine (delete_same A n c i hjn hnc (by rcases own_cases ho with ⟨a, b, d, _⟩ | h; exact .inl ⟨a, b, d⟩; exact .inr h) w).mono fun e' w' ⟨he, hw⟩ => ?_
    subst hw
    rw [List.take_append_drop]
    exact ⟨⟨_, n, he, hl, Nat.le_refl _, ho⟩, Below.refl _ _, World.grownBy.refl _ _⟩
/-- slices.Delete of a slice of the call's own. -/
theorem delete_all {w : World} {B n c : Nat} {A : Option Addr} {L : List Pr} (ho : w.ownsRow B 55 2 (.slice A n c) n (prow L)) (hl : L.length = n) (i j : Nat) (hij : i ≤ j) (hjn : j ≤ n) (hn : n ≤ 4398046511104) :
    Calls Try.prog 48 #[.slice A n c, .int .i64 (i : Int), .int .i64 (j : Int)] w fun e w' =>
      (∃ (v : Value) (m : Nat), e = .returned v ∧ (L.take i ++ L.drop j).length = m ∧ m ≤ n ∧ w'.ownsRow B 55 2 v m (prow (L.take i ++ L.drop j))) ∧ Below B w w' :=
  (delete_own (c := c) ho hl i j hij hjn hn).mono fun e w' ⟨h1, h2, _⟩ => ⟨h1, h2⟩
end Go.Proofs.Ytblljpdlmllceaa
