/-
  Texts of this seat in one: PInsert, PairMath, One, Check, All, Sound, RefCheck, RefAll.
-/
import Derived.IntWalk
import Derived.Test.YtblljpdlmllceaaG2
/-
  slices.Insert of one pair.
-/
namespace Go.Proofs.Ytblljpdlmllceaa
open Go.RowKit
set_option linter.unusedVariables false
set_option linter.unusedSimpArgs false
theorem heap_lt0 {w : World} {k : Nat} {o : Obj} (h : w.heap[k]? = some o) : k < w.heap.size := by
  rcases Nat.lt_or_ge k w.heap.size with hlt | hge
  · exact hlt
  · rw [Array.getElem?_eq_none hge] at h; cases h
theorem pairSize : (Try.prog.info? 55).map (·.size) = some 2 := by kernel_rfl
set_option maxHeartbeats 2000000 in
/-- At the end. -/
theorem insert_end {w : World} {B n c vb : Nat} {A : Option Addr} {L : List Pr} (x : Pr) (ho : w.ownsRow B 55 2 (.slice A n c) n (prow L)) (hl : L.length = n) (hv : w.heap[vb]? = some (.cells #[.string x.1, .string x.2] 55 (0, 0))) (hn : n ≤ 2199023255552) (hBw : B ≤ w.heap.size) :
    Calls Try.prog 49 #[.slice A n c, .int .i64 (n : Int), .slice (some ⟨vb, 0, none⟩) 1 1] w fun e w' =>
      (∃ v, e = .returned v ∧ w'.ownsRow B 55 2 v (n + 1) (prow (L ++ [x]))) ∧ Below B w w' ∧ w.grownBy w' (Value.slice A n c).ownBlock := by
  have hcap := own_cap ho
  have q1 : (0 : Int) ≤ (n : Int) := by omega
  have q2 : (n : Int) ≤ (c : Int) := by omega
  have hRv := hide_ (show Rd w 2 (some ⟨vb, 0, none⟩) 1 (encP x) from ⟨rfl, fun _ => ⟨vb, 0, rfl, fun j u hu => by rw [Nat.zero_add, cell_of_row _ _ j _ _ (0, 0) hv]; simpa [encP] using hu⟩⟩)
  have hcs := own_cases ho
  have HO := hide_ ho
  have HL := hide_ hl
  clear ho hv hl
  rcases hcs with ⟨rfl, rfl, rfl, _⟩ | ⟨g, rfl⟩
  · go_enter Try.func49, Try.ntmps49
    go_wp2_with (at_builtin; (refine wpList_append_rd _ rfl (.tmp 23) (.tmp 24) 22 rfl B 55 2 32 pairT _ 0 (prow L) rfl HO.out _ 1 _ (encP x) rfl hRv.out (encP_one x) (by omega) (by unfold maxLen; omega) hBw (fun h => nomatch h) ?_; intro v2 w2 ho2 hg2 hat2; have HO2 := hide_ ho2; have HB2 := hide_ (own_grown (Below.refl B w) HO.out hg2 hBw); have HG2 := hide_ hg2; clear ho2 hg2 hat2))
    go_ret
    exact ⟨⟨_, rfl, by have := HO2.out; simpa [prow] using this⟩, HB2.out, HG2.out⟩
  · by_cases hce : c = n
    all_goals
      go_enter Try.func49, Try.ntmps49
      go_wp2_with (at_builtin; (refine wpList_append_rd _ rfl (.tmp 23) (.tmp 24) 22 rfl B 55 2 32 pairT _ n (prow L) rfl HO.out _ 1 _ (encP x) rfl hRv.out (encP_one x) (by omega) (by unfold maxLen; omega) hBw (fun h => nomatch h) ?_; intro v2 w2 ho2 hg2 hat2; have HO2 := hide_ ho2; have HB2 := hide_ (own_grown (Below.refl B w) HO.out hg2 hBw); have HG2 := hide_ hg2; clear ho2 hg2 hat2))
      go_ret
      exact ⟨⟨_, rfl, by have := HO2.out; simpa [prow] using this⟩, HB2.out, HG2.out⟩
set_option maxHeartbeats 2000000 in
/-- In its room. -/
theorem insert_room {w : World} {B n c vb g i : Nat} {L : List Pr} (x : Pr) (ho : w.ownsRow B 55 2 (.slice (some ⟨g, 0, none⟩) n c) n (prow L)) (hl : L.length = n) (hi : i < n) (hroom : n + 1 ≤ c) (hv : w.heap[vb]? = some (.cells #[.string x.1, .string x.2] 55 (0, 0))) (hvg : vb ≠ g) (hn : n ≤ 2199023255552) :
    Calls Try.prog 49 #[.slice (some ⟨g, 0, none⟩) n c, .int .i64 (i : Int), .slice (some ⟨vb, 0, none⟩) 1 1] w fun e w' =>
      (∃ v, e = .returned v ∧ w'.ownsRow B 55 2 v (n + 1) (prow (L.take i ++ [x] ++ L.drop i))) ∧ Below B w w' ∧ w.grownBy w' (some g) := by
  obtain ⟨cur, hgB, hg, hnc, hcm, hcs, htk⟩ := own_row ho
  have q1 : (0 : Int) ≤ (i : Int) := by omega
  have q2 : (i : Int) ≤ (n : Int) := by omega
  have q3 : (n : Int) + 1 ≤ (c : Int) := by omega
  have q4 : (i : Int) ≤ (c : Int) := by omega
  have q5 : ((i : Int) == (n : Int)) = false := by rw [beq_eq_false_iff_ne]; omega
  have q6 : ¬ c = i := by omega
  have q7 : ¬ c = i + 1 := by omega
  have q8 : i ≤ n := by omega
  have q9 : i ≤ c := by omega
  have q10 : n + 1 ≤ c := hroom
  have q11 : ¬ (c : Int) < (n : Int) + 1 := by omega
  have q12 : (i : Int) + 1 ≤ (n : Int) + 1 := by omega
  have q13 : (n : Int) ≤ 2199023255552 := by omega
  have q14 : (i : Int) ≤ 2199023255552 := by omega
  have hov : ∀ o lb cb, (callFunc 59 #[.slice (some ⟨vb, 0, none⟩) 1 1, .slice (some ⟨g, o, none⟩) lb cb]).run Try.prog w = .ok (.value (.bool false)) w := fun o lb cb => by
    rw [run_callFunc_extern Try.func59 (by kernel_rfl) (by kernel_rfl) (by kernel_rfl) (e := Extern.SlicesOverlaps.overlaps #[22, 22] #[4]) (by kernel_rfl),
      Lib.run_overlaps_apart w 22 4 55 Try.underlying22 2 Try.sizeOf55 ⟨vb, 0, none⟩ ⟨g, o, none⟩ 1 1 lb cb hvg 55 55 2 cur.size (by simp [World.shape?, hv]) (by simp [World.shape?, hg]) (by rw [hcs]; omega) (frozen_of_row _ _ 0 _ _ hv) (frozen_of_row _ _ 2 _ _ hv)]
    rfl
  have HC := hide_ hcs; have HT := hide_ htk; have HO := hide_ ho; have HM := hide_ hcm; have HL := hide_ hl; have HG := hide_ hg; have HV := hide_ hv
  clear hcs htk ho hcm hnc hl hg hv
  go_enter Try.func49, Try.ntmps49
  go_wp2_with (simp only [hov])
  have hdl : (prow (L.drop i)).length = (n - i) * 2 := by rw [prow_len, List.length_drop, HL.out]
  have hcl := HC.out
  obtain ⟨X1, hX1⟩ : ∃ X1, X1 = (cur.toList.take ((i + 1) * 2) ++ prow (L.drop i) ++ cur.toList.drop ((i + 1) * 2 + (prow (L.drop i)).length)).toArray := ⟨_, rfl⟩
  have hcp1 : ∀ ty dc sc, (Builtin.copy_ #[22, 22] ty #[.slice (some ⟨g, (i + 1) * 2, none⟩) (n - i) dc, .slice (some ⟨g, i * 2, none⟩) (n + 1 - i) sc]).run Try.prog w.drew = .ok (goInt ((n - i : Nat) : Int)) (w.drew.setRow g X1) := fun ty dc sc => by
    rw [hX1]
    refine run_copy_rowk w.drew _ _ ty 55 2 g ((i + 1) * 2) (n - i) dc ⟨g, i * 2, none⟩ (n + 1 - i) sc cur 55 (prow (L.drop i)) (n - i) Try.underlying22 pairSize HG.out (by simp only [Nat.min_def]; split <;> omega) hdl (fun j v hj => ?_) (by omega) (prow_one _)
    rw [add_plain]
    have h1 : (prow L)[i * 2 + j]? = some v := by
      have e : (prow L).drop (i * 2) = prow (L.drop i) := rec_drop encP_len L i
      rw [← e, List.getElem?_drop] at hj; exact hj
    exact (HO.out.cellAt (i * 2 + j) (by have := (List.getElem?_eq_some_iff.1 h1).1; rw [prow_len, HL.out] at this; omega)).trans h1
  have hx1l : X1.size = c * 2 := by rw [hX1, List.size_toArray]; simp only [List.length_append, List.length_take, List.length_drop, Array.length_toList, hcl, hdl]; omega
  obtain ⟨W1, hW1⟩ : ∃ W1, W1 = w.drew.setRow g X1 := ⟨_, rfl⟩
  have hg1 : W1.heap[g]? = some (.cells X1 55 (0, 0)) := by rw [hW1]; exact setRow_heap w.drew _ _ _ _ _ HG.out
  have hv1 : W1.heap[vb]? = some (.cells #[.string x.1, .string x.2] 55 (0, 0)) := by rw [hW1, setRow_other _ _ _ _ hvg]; exact HV.out
  obtain ⟨X2, hX2⟩ : ∃ X2, X2 = (X1.toList.take (i * 2) ++ encP x ++ X1.toList.drop (i * 2 + (encP x).length)).toArray := ⟨_, rfl⟩
  have hcp2 : ∀ ty dc, (Builtin.copy_ #[22, 22] ty #[.slice (some ⟨g, i * 2, none⟩) (n + 1 - i) dc, .slice (some ⟨vb, 0, none⟩) 1 1]).run Try.prog W1 = .ok (goInt 1) (W1.setRow g X2) := fun ty dc => by
    rw [hX2]
    refine run_copy_rowk W1 _ _ ty 55 2 g (i * 2) (n + 1 - i) dc ⟨vb, 0, none⟩ 1 1 X1 55 (encP x) 1 Try.underlying22 pairSize hg1 (by simp only [Nat.min_def]; split <;> omega) rfl (fun j v hj => ?_) (by rw [hx1l]; simp [encP]; omega) (encP_one x)
    rw [add_plain, Nat.zero_add, cell_of_row _ _ j _ _ (0, 0) hv1]
    simpa [encP] using hj
  rw [← hW1] at hcp1
  have HX1 := hide_ hX1; have HX2 := hide_ hX2; have HXL := hide_ hx1l; have HG1 := hide_ hg1; have HW1 := hide_ hW1; have HDL := hide_ hdl
  have kw : IntKind.i64.wrap ((i : Int) + 1) = (i : Int) + 1 := IntWalk.i64_in _ (by omega)
  have k1 : (0 : Int) ≤ (i : Int) + 1 := by omega
  have k2 : ((i : Int) + 1).toNat = i + 1 := by omega
  have k3 : (i : Int) ≤ (n : Int) + 1 := by omega
  have k4 : i ≤ n + 1 := by omega
  have k5 : (n : Int) + 1 ≤ (c : Int) := by omega
  clear hX1 hX2 hx1l hg1 hv1 hW1 hdl hcl hov
  refine wp_region_t (by kernel_rfl) ?_
  refine wpAnyT_take 0 (v := ?_) rfl (by kernel_rfl) (by kernel_rfl) (by kernel_rfl) (fun _ _ _ h => h) (by rfl) (by intro W hSw; go_simp; with_reducible rfl) ?_; try simp only [Act.put, List.setIfInBounds_toArray, List.set_cons_zero, List.set_cons_succ]
  refine wpAnyT_take 1 (v := ?_) rfl (by kernel_rfl) (by kernel_rfl) (by kernel_rfl) (fun _ _ _ h => h) (by rfl) (by intro W hSw; go_simp; with_reducible rfl) ?_; try simp only [Act.put, List.setIfInBounds_toArray, List.set_cons_zero, List.set_cons_succ]
  refine wpAnyT_take 2 (v := ?_) rfl (by kernel_rfl) (by kernel_rfl) (by kernel_rfl) (fun _ _ _ h => h) (by rfl) (by intro W hSw; go_simp; with_reducible rfl) ?_; try simp only [Act.put, List.setIfInBounds_toArray, List.set_cons_zero, List.set_cons_succ]
  refine wpAnyT_take 3 (v := ?_) rfl (by kernel_rfl) (by kernel_rfl) (by kernel_rfl) (fun _ _ _ h => h) (by rfl) (by intro W hSw; go_simp; with_reducible rfl) ?_; try simp only [Act.put, List.setIfInBounds_toArray, List.set_cons_zero, List.set_cons_succ]
  refine wpAnyT_take 4 (v := ?_) rfl (by kernel_rfl) (by kernel_rfl) (by kernel_rfl) (fun _ _ _ h => h) (by rfl) (by intro W hSw; go_simp; with_reducible rfl) ?_; try simp only [Act.put, List.setIfInBounds_toArray, List.set_cons_zero, List.set_cons_succ]
  refine wpAnyT_take 5 (v := ?_) rfl (by kernel_rfl) (by kernel_rfl) (by kernel_rfl) (fun _ _ _ h => h) (by rfl) (by intro W hSw; go_simp; with_reducible rfl) ?_; try simp only [Act.put, List.setIfInBounds_toArray, List.set_cons_zero, List.set_cons_succ]
  refine wpAnyT_take 6 (v := ?_) rfl (by kernel_rfl) (by kernel_rfl) (by kernel_rfl) (fun _ _ _ h => h) (by rfl) (by intro W hSw; go_simp; with_reducible rfl) ?_; try simp only [Act.put, List.setIfInBounds_toArray, List.set_cons_zero, List.set_cons_succ]
  refine wpAnyT_take 7 (v := ?_) rfl (by kernel_rfl) (by kernel_rfl) (by kernel_rfl) (fun _ _ _ h => h) (by rfl) (by intro W hSw; go_simp; with_reducible rfl) ?_; try simp only [Act.put, List.setIfInBounds_toArray, List.set_cons_zero, List.set_cons_succ]
  refine wpAnyT_one 8 (by kernel_rfl) rfl (fun K hK => ?_)
  go_simp
  refine hK.out _ _ trivial ?_
  clear hK K; try simp only [Act.put, List.setIfInBounds_toArray, List.set_cons_zero, List.set_cons_succ]
  refine wpAnyT_done (by kernel_rfl) ?_ _
  clear kw k2
  go_wp2_with fail
  go_ret
  have hl2 : X2.size = c * 2 := by rw [HX2.out, List.size_toArray]; simp only [List.length_append, List.length_take, List.length_drop, Array.length_toList, HXL.out, encP, List.length_cons, List.length_nil]; omega
  have e1 : prow (L.take i ++ [x] ++ L.drop i) = (prow L).take (i * 2) ++ encP x ++ prow (L.drop i) := by
    have h1 : (prow L).take (i * 2) = prow (L.take i) := rec_take encP_len L i
    rw [h1]; simp [prow]
  have hX1t : X1.toList = cur.toList.take ((i + 1) * 2) ++ prow (L.drop i) ++ cur.toList.drop ((i + 1) * 2 + (prow (L.drop i)).length) := by rw [HX1.out]
  have hX2t : X2.toList = X1.toList.take (i * 2) ++ encP x ++ X1.toList.drop (i * 2 + (encP x).length) := by rw [HX2.out]
  have hcl := HC.out
  have hdl := HDL.out
  have ht : X2.toList.take ((n + 1) * 2) = prow (L.take i ++ [x] ++ L.drop i) := by
    have a1 : X1.toList.take (i * 2) = (prow L).take (i * 2) := by
      rw [hX1t, List.append_assoc, List.take_append_of_le_length (by rw [List.length_take, Array.length_toList, hcl]; omega), List.take_take, ← HT.out, List.take_take]
      congr 1; omega
    have a2 : X1.toList.drop (i * 2 + (encP x).length) = prow (L.drop i) ++ cur.toList.drop ((i + 1) * 2 + (prow (L.drop i)).length) := by
      rw [hX1t, List.append_assoc, List.drop_left' (by rw [List.length_take, Array.length_toList, hcl]; simp [encP]; omega)]
    rw [hX2t, a1, a2, e1, ← List.append_assoc, List.take_left' (by simp only [List.length_append, List.length_take, prow_len, HL.out, List.length_drop, encP, List.length_cons, List.length_nil]; omega)]
  have hw : (W1.setRow g X2).heap[g]? = some (.cells X2 55 (0, 0)) := setRow_heap W1 _ _ _ _ _ HG1.out
  refine ⟨⟨_, rfl, ⟨by rw [prow_len]; simp [HL.out]; omega, .inr ⟨g, c, X2, rfl, hgB, hw, by omega, HM.out, hl2, ht⟩⟩⟩, ?_⟩
  rw [HW1.out]
  exact ⟨below_setRow (below_setRow (Below.refl _ _).drew hgB _) hgB _, grown_setRow (grown_setRow (grown_drew (World.grownBy.refl w _)) (.inl rfl) _) (.inl rfl) _⟩
set_option maxHeartbeats 2000000 in
/-- Without room. -/
theorem insert_grow {w : World} {B n c vb g i : Nat} {L : List Pr} (x : Pr) (ho : w.ownsRow B 55 2 (.slice (some ⟨g, 0, none⟩) n c) n (prow L)) (hl : L.length = n) (hi : i < n) (hroom : c < n + 1) (hv : w.heap[vb]? = some (.cells #[.string x.1, .string x.2] 55 (0, 0))) (hn : n ≤ 2199023255552) (hBw : B ≤ w.heap.size) :
    Calls Try.prog 49 #[.slice (some ⟨g, 0, none⟩) n c, .int .i64 (i : Int), .slice (some ⟨vb, 0, none⟩) 1 1] w fun e w' =>
      (∃ v, e = .returned v ∧ w'.ownsRow B 55 2 v (n + 1) (prow (L.take i ++ [x] ++ L.drop i))) ∧ Below B w w' ∧ w.grownBy w' (some g) := by
  obtain ⟨cur, hgB, hg, hnc, hcm, hcs, htk⟩ := own_row ho
  have hglt := heap_lt0 hg
  have hvlt := heap_lt0 hv
  have q1 : (0 : Int) ≤ (i : Int) := by omega
  have q2 : (i : Int) ≤ (n : Int) := by omega
  have q4 : (i : Int) ≤ (c : Int) := by omega
  have q5 : ((i : Int) == (n : Int)) = false := by rw [beq_eq_false_iff_ne]; omega
  have q6 : ¬ c = i := by omega
  have q8 : i ≤ n := by omega
  have q9 : i ≤ c := by omega
  have q11 : (c : Int) < (n : Int) + 1 := by omega
  have q12 : (i : Int) + 1 ≤ (n : Int) + 1 := by omega
  have q13 : (n : Int) ≤ 2199023255552 := by omega
  have q14 : (i : Int) ≤ 2199023255552 := by omega
  have qc : (n : Int) ≤ (c : Int) := by omega
  obtain ⟨i0, hi0, hz0, hzs, hzb⟩ := info_parts (show (Try.prog.info? 55).map (fun i => (i.zero, i.size, i.bytes)) = some (some (.agg #[.string ByteArray.empty, .string ByteArray.empty]), 2, 32) by kernel_rfl)
  obtain ⟨G, hG⟩ : ∃ G, G = grownCap w (n + 1) c 55 := ⟨_, rfl⟩
  have hG1 : n + 1 ≤ G := by rw [hG]; exact grownCap_ge _ _ _ _
  have hG2 : G ≤ maxLen := by rw [hG]; exact grownCap_le_maxLen _ _ _ _ (by unfold maxLen; omega)
  obtain ⟨ROW, hROW⟩ : ∃ ROW : Array Value, ROW = ((prow L).take (i * 2)).toArray ++ Builtin.zeroCells (Value.agg #[.string ByteArray.empty, .string ByteArray.empty]).cells (n + 1 - i) ++ Builtin.zeroCells (Value.agg #[.string ByteArray.empty, .string ByteArray.empty]).cells (G - (n + 1)) := ⟨_, rfl⟩
  have hpl : (prow L).length = n * 2 := by rw [prow_len, hl]
  have hz2 : (Value.agg #[.string ByteArray.empty, .string ByteArray.empty]).cells.size = 2 := rfl
  have hRs : ROW.size = G * 2 := by rw [hROW]; simp only [Array.size_append, List.size_toArray, List.length_take, size_zeroCells, hz2, hpl]; omega
  have hrz : ∀ ty, (Builtin.append_ #[22, 3] ty #[.slice (some ⟨g, 0, none⟩) i c, .int .i64 ((n : Int) + 1 - (i : Int))]).run Try.prog w = .ok (.slice (some ⟨w.heap.size, 0, none⟩) (n + 1) G) (w.drew.alloc (.cells ROW 55)) := fun ty => by
    have hold : (Builtin.firstCells i0.size i (.slice (some ⟨g, 0, none⟩) i c)).run Try.prog w.drew = .ok ((prow L).take (i * 2)).toArray w.drew := by
      rw [hzs]
      exact run_firstCells_some w.drew 2 i ⟨g, 0, none⟩ i c ((prow L).take (i * 2)) (by rw [List.length_take, hpl]; omega) (fun j v hj => by
        rw [add_plain, Nat.zero_add]
        rw [List.getElem?_take] at hj
        split at hj
        · exact (ho.cellAt j (by omega)).trans hj
        · cases hj)
    have h := Lib.run_append_grow_zeros w 22 3 ty 55 i0 _ .i64 .i64 Try.underlying22 Try.underlying3 hi0 hz0 (some ⟨g, 0, none⟩) i c ((prow L).take (i * 2)) hold (n + 1 - i) (by omega) (by omega) (by omega) (by omega) (by rw [hzb]; omega) (by rw [hzb, show i + (n + 1 - i) = n + 1 by omega]; exact growslice_fits hroom (by omega))
    rw [show i + (n + 1 - i) = n + 1 by omega] at h
    rw [show (n : Int) + 1 - (i : Int) = ((n + 1 - i : Nat) : Int) by omega, hROW, hG]
    exact h
  obtain ⟨W1, hW1⟩ : ∃ W1, W1 = w.drew.alloc (.cells ROW 55) := ⟨_, rfl⟩
  rw [← hW1] at hrz
  have hn1 : W1.heap[w.heap.size]? = some (.cells ROW 55 (0, 0)) := by rw [hW1]; exact heap_alloc_new w.drew _
  have hv1 : W1.heap[vb]? = some (.cells #[.string x.1, .string x.2] 55 (0, 0)) := by rw [hW1, Below.heap_alloc w.drew _ _ hvlt]; exact hv
  have hg1 : W1.heap[g]? = some (.cells cur 55 (0, 0)) := by rw [hW1, Below.heap_alloc w.drew _ _ hglt]; exact hg
  obtain ⟨X1, hX1⟩ : ∃ X1, X1 = (ROW.toList.take (i * 2) ++ encP x ++ ROW.toList.drop (i * 2 + (encP x).length)).toArray := ⟨_, rfl⟩
  have hcp1 : ∀ ty dc, (Builtin.copy_ #[22, 22] ty #[.slice (some ⟨w.heap.size, i * 2, none⟩) (n + 1 - i) dc, .slice (some ⟨vb, 0, none⟩) 1 1]).run Try.prog W1 = .ok (goInt 1) (W1.setRow w.heap.size X1) := fun ty dc => by
    rw [hX1]
    refine run_copy_rowk W1 _ _ ty 55 2 w.heap.size (i * 2) (n + 1 - i) dc ⟨vb, 0, none⟩ 1 1 ROW 55 (encP x) 1 Try.underlying22 pairSize hn1 (by simp only [Nat.min_def]; split <;> omega) rfl (fun j v hj => ?_) (by rw [hRs]; simp [encP]; omega) (encP_one x)
    rw [add_plain, Nat.zero_add, cell_of_row _ _ j _ _ (0, 0) hv1]
    simpa [encP] using hj
  have hx1s : X1.size = G * 2 := by rw [hX1, List.size_toArray]; simp only [List.length_append, List.length_take, List.length_drop, Array.length_toList, hRs, encP, List.length_cons, List.length_nil]; omega
  obtain ⟨W2, hW2⟩ : ∃ W2, W2 = W1.setRow w.heap.size X1 := ⟨_, rfl⟩
  have hn2 : W2.heap[w.heap.size]? = some (.cells X1 55 (0, 0)) := by rw [hW2]; exact setRow_heap W1 _ _ _ _ _ hn1
  have hg2 : W2.heap[g]? = some (.cells cur 55 (0, 0)) := by rw [hW2, setRow_other _ _ _ _ (Nat.ne_of_lt hglt)]; exact hg1
  have hdl : (prow (L.drop i)).length = (n - i) * 2 := by rw [prow_len, List.length_drop, hl]
  obtain ⟨X2, hX2⟩ : ∃ X2, X2 = (X1.toList.take ((i + 1) * 2) ++ prow (L.drop i) ++ X1.toList.drop ((i + 1) * 2 + (prow (L.drop i)).length)).toArray := ⟨_, rfl⟩
  have hcp2 : ∀ ty dc sc, (Builtin.copy_ #[22, 22] ty #[.slice (some ⟨w.heap.size, (i + 1) * 2, none⟩) (n - i) dc, .slice (some ⟨g, i * 2, none⟩) (n - i) sc]).run Try.prog W2.drew = .ok (goInt ((n - i : Nat) : Int)) (W2.drew.setRow w.heap.size X2) := fun ty dc sc => by
    rw [hX2]
    refine run_copy_rowk W2.drew _ _ ty 55 2 w.heap.size ((i + 1) * 2) (n - i) dc ⟨g, i * 2, none⟩ (n - i) sc X1 55 (prow (L.drop i)) (n - i) Try.underlying22 pairSize hn2 (by simp only [Nat.min_def]; split <;> omega) hdl (fun j v hj => ?_) (by rw [hx1s]; omega) (prow_one _)
    rw [add_plain]
    have h1 : (prow L)[i * 2 + j]? = some v := by
      have e : (prow L).drop (i * 2) = prow (L.drop i) := rec_drop encP_len L i
      rw [← e, List.getElem?_drop] at hj; exact hj
    have hjl : i * 2 + j < n * 2 := by have := (List.getElem?_eq_some_iff.1 h1).1; rw [hpl] at this; exact this
    have h2 := (cell_of_row w g (i * 2 + j) _ _ (0, 0) hg).symm.trans ((ho.cellAt (i * 2 + j) hjl).trans h1)
    show W2.cell? _ = _
    rw [cell_of_row W2 g (i * 2 + j) _ _ (0, 0) hg2]
    exact h2
  rw [← hW2] at hcp1
  have HO := hide_ ho; have HL := hide_ hl; have HX1 := hide_ hX1; have HX2 := hide_ hX2; have HXS := hide_ hx1s; have HRS := hide_ hRs; have HROW := hide_ hROW; have HW1 := hide_ hW1; have HW2 := hide_ hW2; have HN2 := hide_ hn2; have HG2 := hide_ hG2; have HPL := hide_ hpl; have HDL := hide_ hdl
  have kw : IntKind.i64.wrap ((i : Int) + 1) = (i : Int) + 1 := IntWalk.i64_in _ (by omega)
  have k1 : (0 : Int) ≤ (i : Int) + 1 := by omega
  have k2 : ((i : Int) + 1).toNat = i + 1 := by omega
  have k3 : (i : Int) ≤ (n : Int) + 1 := by omega
  have k4 : i ≤ n + 1 := by omega
  have k5 : (n : Int) + 1 ≤ (G : Int) := by omega
  have k6 : ¬ G = i := by omega
  have k7 : ¬ G = i + 1 := by omega
  have k8 : (i : Int) + 1 ≤ (G : Int) := by omega
  have k9 : (i : Int) ≤ (G : Int) := by omega
  have k10 : i ≤ G := by omega
  have k11 : i + 1 ≤ G := by omega
  have k12 : (0 : Int) ≤ (n : Int) + 1 - (i : Int) := by omega
  clear ho hl hX1 hX2 hx1s hRs hROW hW1 hW2 hn2 hG2 hpl hdl hn1 hv1 hg1 hg2 hz0 hzs hzb hi0 hG hv hg htk hcs hcm kw k2
  go_enter Try.func49, Try.ntmps49
  go_wp2_with (at_builtin; refine Lib.wpList_append_run _ rfl _ _ _ _ rfl _ _ rfl rfl _ _ (hrz _) ?_)
  have kw : IntKind.i64.wrap ((i : Int) + 1) = (i : Int) + 1 := IntWalk.i64_in _ (by omega)
  have k2 : ((i : Int) + 1).toNat = i + 1 := by omega
  refine wp_region_t (by kernel_rfl) ?_
  refine wpAnyT_take 0 (v := ?_) rfl (by kernel_rfl) (by kernel_rfl) (by kernel_rfl) (fun _ _ _ h => h) (by rfl) (by intro W hSw; go_simp; with_reducible rfl) ?_; try simp only [Act.put, List.setIfInBounds_toArray, List.set_cons_zero, List.set_cons_succ]
  refine wpAnyT_take 1 (v := ?_) rfl (by kernel_rfl) (by kernel_rfl) (by kernel_rfl) (fun _ _ _ h => h) (by rfl) (by intro W hSw; go_simp; with_reducible rfl) ?_; try simp only [Act.put, List.setIfInBounds_toArray, List.set_cons_zero, List.set_cons_succ]
  refine wpAnyT_take 2 (v := ?_) rfl (by kernel_rfl) (by kernel_rfl) (by kernel_rfl) (fun _ _ _ h => h) (by rfl) (by intro W hSw; go_simp; with_reducible rfl) ?_; try simp only [Act.put, List.setIfInBounds_toArray, List.set_cons_zero, List.set_cons_succ]
  refine wpAnyT_take 3 (v := ?_) rfl (by kernel_rfl) (by kernel_rfl) (by kernel_rfl) (fun _ _ _ h => h) (by rfl) (by intro W hSw; go_simp; with_reducible rfl) ?_; try simp only [Act.put, List.setIfInBounds_toArray, List.set_cons_zero, List.set_cons_succ]
  refine wpAnyT_take 4 (v := ?_) rfl (by kernel_rfl) (by kernel_rfl) (by kernel_rfl) (fun _ _ _ h => h) (by rfl) (by intro W hSw; go_simp; with_reducible rfl) ?_; try simp only [Act.put, List.setIfInBounds_toArray, List.set_cons_zero, List.set_cons_succ]
  refine wpAnyT_take 5 (v := ?_) rfl (by kernel_rfl) (by kernel_rfl) (by kernel_rfl) (fun _ _ _ h => h) (by rfl) (by intro W hSw; go_simp; with_reducible rfl) ?_; try simp only [Act.put, List.setIfInBounds_toArray, List.set_cons_zero, List.set_cons_succ]
  refine wpAnyT_take 6 (v := ?_) rfl (by kernel_rfl) (by kernel_rfl) (by kernel_rfl) (fun _ _ _ h => h) (by rfl) (by intro W hSw; go_simp; with_reducible rfl) ?_; try simp only [Act.put, List.setIfInBounds_toArray, List.set_cons_zero, List.set_cons_succ]
  refine wpAnyT_take 7 (v := ?_) rfl (by kernel_rfl) (by kernel_rfl) (by kernel_rfl) (fun _ _ _ h => h) (by rfl) (by intro W hSw; go_simp; with_reducible rfl) ?_; try simp only [Act.put, List.setIfInBounds_toArray, List.set_cons_zero, List.set_cons_succ]
  refine wpAnyT_one 8 (by kernel_rfl) rfl (fun K hK => ?_)
  go_simp
  refine hK.out _ _ trivial ?_
  clear hK K; try simp only [Act.put, List.setIfInBounds_toArray, List.set_cons_zero, List.set_cons_succ]
  refine wpAnyT_done (by kernel_rfl) ?_ _
  clear kw k2
  go_wp2_with fail
  go_ret
  have hX1t : X1.toList = ROW.toList.take (i * 2) ++ encP x ++ ROW.toList.drop (i * 2 + (encP x).length) := by rw [HX1.out]
  have hX2t : X2.toList = X1.toList.take ((i + 1) * 2) ++ prow (L.drop i) ++ X1.toList.drop ((i + 1) * 2 + (prow (L.drop i)).length) := by rw [HX2.out]
  have hRt : ROW.toList.take (i * 2) = (prow L).take (i * 2) := by
    rw [HROW.out, Array.append_assoc, Array.toList_append]
    exact List.take_left' (by simp [HPL.out]; omega)
  have hrs := HRS.out
  have hdl := HDL.out
  have hl2 : X2.size = G * 2 := by rw [HX2.out, List.size_toArray]; simp only [List.length_append, List.length_take, List.length_drop, Array.length_toList, HXS.out, hdl]; omega
  have e1 : prow (L.take i ++ [x] ++ L.drop i) = (prow L).take (i * 2) ++ encP x ++ prow (L.drop i) := by
    have h1 : (prow L).take (i * 2) = prow (L.take i) := rec_take encP_len L i
    rw [h1]; simp [prow]
  have a1 : X1.toList.take ((i + 1) * 2) = (prow L).take (i * 2) ++ encP x := by
    rw [hX1t, List.take_left' (by simp only [List.length_append, List.length_take, Array.length_toList, hrs, encP, List.length_cons, List.length_nil]; omega), hRt]
  have ht : X2.toList.take ((n + 1) * 2) = prow (L.take i ++ [x] ++ L.drop i) := by
    rw [hX2t, a1, e1, List.take_left' (by simp only [List.length_append, List.length_take, HPL.out, hdl, encP, List.length_cons, List.length_nil]; omega)]
  have hw : (W2.drew.setRow w.heap.size X2).heap[w.heap.size]? = some (.cells X2 55 (0, 0)) := setRow_heap W2.drew _ _ _ _ _ HN2.out
  refine ⟨⟨_, rfl, ⟨by rw [prow_len]; simp [HL.out]; omega, .inr ⟨w.heap.size, G, X2, rfl, hBw, hw, by omega, HG2.out, hl2, ht⟩⟩⟩, ?_⟩
  rw [HW2.out, HW1.out]
  exact ⟨below_setRow (below_setRow ((Below.refl _ _).drew.alloc hBw _) hBw _).drew hBw _, grown_setRow (grown_drew (grown_setRow (grown_alloc (grown_drew (World.grownBy.refl w _)) _) (.inr (Nat.le_refl _)) _)) (.inr (Nat.le_refl _)) _⟩
theorem insert_own {w : World} {B n c vb : Nat} {A : Option Addr} {L : List Pr} (x : Pr) (ho : w.ownsRow B 55 2 (.slice A n c) n (prow L)) (hl : L.length = n) (i : Nat) (hi : i ≤ n) (hv : w.heap[vb]? = some (.cells #[.string x.1, .string x.2] 55 (0, 0))) (hvn : ∀ g, A = some ⟨g, 0, none⟩ → vb ≠ g) (hn : n ≤ 2199023255552) (hBw : B ≤ w.heap.size) :
    Calls Try.prog 49 #[.slice A n c, .int .i64 (i : Int), .slice (some ⟨vb, 0, none⟩) 1 1] w fun e w' =>
      (∃ v, e = .returned v ∧ w'.ownsRow B 55 2 v (n + 1) (prow (L.take i ++ [x] ++ L.drop i))) ∧ Below B w w' ∧ w.grownBy w' (Value.slice A n c).ownBlock := by
  rcases Nat.lt_or_ge i n with hlt | hge
  · rcases own_cases ho with ⟨_, h0, _⟩ | ⟨g, rfl⟩
    · omega
    · rcases Nat.lt_or_ge c (n + 1) with h | h
      · exact insert_grow x ho hl hlt h hv hn hBw
      · exact insert_room x ho hl hlt h hv (hvn g rfl) hn
  · obtain rfl : i = n := by omega
    rw [← hl, List.take_length, List.drop_length, List.append_nil, hl]
    exact insert_end x ho hl hv hn hBw
theorem insert_all {w : World} {B n c vb : Nat} {A : Option Addr} {L : List Pr} (x : Pr) (ho : w.ownsRow B 55 2 (.slice A n c) n (prow L)) (hl : L.length = n) (i : Nat) (hi : i ≤ n) (hv : w.heap[vb]? = some (.cells #[.string x.1, .string x.2] 55 (0, 0))) (hvn : ∀ g, A = some ⟨g, 0, none⟩ → vb ≠ g) (hn : n ≤ 2199023255552) (hBw : B ≤ w.heap.size) :
    Calls Try.prog 49 #[.slice A n c, .int .i64 (i : Int), .slice (some ⟨vb, 0, none⟩) 1 1] w fun e w' =>
      (∃ v, e = .returned v ∧ w'.ownsRow B 55 2 v (n + 1) (prow (L.take i ++ [x] ++ L.drop i))) ∧ Below B w w' :=
  (insert_own (c := c) x ho hl i hi hv hvn hn hBw).mono fun e w' ⟨h1, h2, _⟩ => ⟨h1, h2⟩

end Go.Proofs.Ytblljpdlmllceaa
/-
  Plain mathematics of pairs and changes: what one change makes of rising pairs is told by its members alone.
-/
namespace Go.Proofs.Ytblljpdlmllceaa
section
variable {α : Type} [LT α] [LE α] [DecidableEq α] [Std.IsLinearOrder α] [Std.LawfulOrderLT α]
/-- Rising keys. -/
def Ris (L : List (α × α)) : Prop := L.Pairwise fun a b => a.1 < b.1
end
section
variable {α : Type} [LT α] [LE α] [Std.IsLinearOrder α] [Std.LawfulOrderLT α]
theorem ris_key {L : List (α × α)} (h : Ris L) {p q : α × α} (hp : p ∈ L) (hq : q ∈ L) (he : p.1 = q.1) : p = q := by
  induction L with
  | nil => cases hp
  | cons a L ih =>
    have h1 := List.pairwise_cons.1 h
    rcases List.mem_cons.1 hp with hp1 | hp1
    · rcases List.mem_cons.1 hq with hq1 | hq1
      · rw [hp1, hq1]
      · have := h1.1 q hq1; grind
    · rcases List.mem_cons.1 hq with hq1 | hq1
      · have := h1.1 p hp1; grind
      · exact ih h1.2 hp1 hq1
end
section
variable {α : Type} [LT α] [LE α] [DecidableEq α] [Std.IsLinearOrder α] [Std.LawfulOrderLT α]
end
section
variable {α : Type} [LT α] [LE α] [Std.IsLinearOrder α] [Std.LawfulOrderLT α]
theorem ris_uniq {A B : List (α × α)} (hA : Ris A) (hB : Ris B) (h : ∀ p, p ∈ A ↔ p ∈ B) : A = B := by
  induction A generalizing B with
  | nil =>
    cases B with
    | nil => rfl
    | cons b B => exact absurd ((h b).2 (by simp)) (by simp)
  | cons a A ih =>
    cases B with
    | nil => exact absurd ((h a).1 (by simp)) (by simp)
    | cons b B =>
      have h1 := List.pairwise_cons.1 hA
      have h2 := List.pairwise_cons.1 hB
      have e : a = b := by
        have ha := (h a).1 (by simp)
        have hb := (h b).2 (by simp)
        rcases List.mem_cons.1 ha with e | ha
        · exact e
        · rcases List.mem_cons.1 hb with e | hb
          · exact e.symm
          · have := h2.1 a ha; have := h1.1 b hb; grind
      subst e
      congr 1
      refine ih h1.2 h2.2 fun p => ?_
      have hp := h p
      simp only [List.mem_cons] at hp
      constructor
      · intro hx
        rcases hp.1 (.inr hx) with rfl | h3
        · have := h1.1 p hx; grind
        · exact h3
      · intro hx
        rcases hp.2 (.inr hx) with rfl | h3
        · have := h2.1 p hx; grind
        · exact h3
end
section
variable {α : Type} [LT α] [LE α] [DecidableEq α] [Std.IsLinearOrder α] [Std.LawfulOrderLT α]
/-- The keys that a change names. -/
def Named (kind : Int) (k v x : α) : Prop := if kind = 3 then k ≤ x ∧ x < v else x = k
/-- What one change makes of pairs. -/
def OneOf (L : List (α × α)) (kind : Int) (k v : α) (L' : List (α × α)) : Prop :=
  Ris L' ∧ ∀ p, p ∈ L' ↔ (p ∈ L ∧ ¬ Named kind k v p.1) ∨ (kind = 1 ∧ p = (k, v))
/-- Where a key is, or would be. -/
def At (L : List (α × α)) (k : α) (i : Nat) : Prop := (∀ p, p ∈ L.take i → p.1 < k) ∧ ∀ p, p ∈ L.drop i → ¬ p.1 < k
end
section
variable {α : Type} [LT α]
theorem at_take {L : List (α × α)} {k : α} {i : Nat} (h : At L k i) (p : α × α) : p ∈ L.take i ↔ p ∈ L ∧ p.1 < k := by
  constructor
  · intro hp; exact ⟨List.mem_of_mem_take hp, h.1 p hp⟩
  · rintro ⟨hp, hk⟩
    rw [← List.take_append_drop i L] at hp
    rcases List.mem_append.1 hp with hp | hp
    · exact hp
    · exact absurd hk (h.2 p hp)
end
section
variable {α : Type} [LT α] [LE α] [DecidableEq α] [Std.IsLinearOrder α] [Std.LawfulOrderLT α]
end
section
variable {α : Type} [LT α]
theorem at_drop {L : List (α × α)} {k : α} {i : Nat} (h : At L k i) (p : α × α) : p ∈ L.drop i ↔ p ∈ L ∧ ¬ p.1 < k := by
  constructor
  · intro hp; exact ⟨List.mem_of_mem_drop hp, h.2 p hp⟩
  · rintro ⟨hp, hk⟩
    rw [← List.take_append_drop i L] at hp
    rcases List.mem_append.1 hp with hp | hp
    · exact absurd (h.1 p hp) hk
    · exact hp
end
section
variable {α : Type} [LT α] [LE α] [DecidableEq α] [Std.IsLinearOrder α] [Std.LawfulOrderLT α]
end
section
variable {α : Type} [LT α]
theorem ris_cut {L : List (α × α)} (h : Ris L) {i j : Nat} (hij : i ≤ j) : Ris (L.take i ++ L.drop j) := by
  have hs : List.Sublist (L.take i ++ L.drop j) L := by
    have h1 : List.Sublist (L.drop j) (L.drop i) := List.drop_sublist_drop_left L hij
    have h2 : List.Sublist (L.take i ++ L.drop j) (L.take i ++ L.drop i) := List.Sublist.append_left h1 _
    rwa [List.take_append_drop] at h2
  exact List.Pairwise.sublist hs h
end
section
variable {α : Type} [LT α] [LE α] [DecidableEq α] [Std.IsLinearOrder α] [Std.LawfulOrderLT α]
end
section
variable {α : Type} [LT α] [LE α] [Std.IsLinearOrder α] [Std.LawfulOrderLT α]
theorem one_wipe {L : List (α × α)} (hL : Ris L) {k v : α} {i j m : Nat} (hi : At L k i) (hj : At L v j) (hm : m = if j > i then j else i) : OneOf L 3 k v (L.take i ++ L.drop m) := by
  have him : i ≤ m := by rw [hm]; split <;> omega
  refine ⟨ris_cut hL him, fun p => ?_⟩
  rw [List.mem_append, at_take hi]
  have hd : p ∈ L.drop m ↔ p ∈ L ∧ ¬ p.1 < k ∧ ¬ p.1 < v := by
    rw [hm]
    split
    · rename_i hlt
      rw [at_drop hj]
      constructor
      · rintro ⟨a, b⟩
        refine ⟨a, fun hk => ?_, b⟩
        have h1 : p ∈ L.take i := (at_take hi p).2 ⟨a, hk⟩
        have h2 : p ∈ L.take j := (List.take_sublist_take_left (by omega)).subset h1
        exact b ((at_take hj p).1 h2).2
      · rintro ⟨a, b, c⟩; exact ⟨a, c⟩
    · rename_i hlt
      rw [at_drop hi]
      constructor
      · rintro ⟨a, b⟩
        refine ⟨a, b, fun hv => ?_⟩
        have h1 : p ∈ L.take j := (at_take hj p).2 ⟨a, hv⟩
        have h2 : p ∈ L.take i := (List.take_sublist_take_left (by omega)).subset h1
        exact b ((at_take hi p).1 h2).2
      · rintro ⟨a, b, c⟩; exact ⟨a, b⟩
  rw [hd]
  unfold Named
  simp only [if_true]
  constructor
  · rintro (⟨a, b⟩ | ⟨a, b, c⟩)
    · exact .inl ⟨a, fun h => by have := h.1; grind⟩
    · exact .inl ⟨a, fun h => c h.2⟩
  · rintro (⟨a, b⟩ | ⟨a, _⟩)
    · by_cases h : p.1 < k
      · exact .inl ⟨a, h⟩
      · exact .inr ⟨a, h, fun h2 => b ⟨by grind, h2⟩⟩
    · omega
end
section
variable {α : Type} [LT α] [LE α] [DecidableEq α] [Std.IsLinearOrder α] [Std.LawfulOrderLT α]
end
section
variable {α : Type} 
theorem at_split {L : List (α × α)} {i : Nat} {x : α × α} (hx : L[i]? = some x) : L = L.take i ++ x :: L.drop (i + 1) := by
  have e := List.getElem?_eq_some_iff.1 hx
  conv => lhs; rw [← List.take_append_drop i L]
  rw [List.drop_eq_getElem_cons e.1, e.2]
end
section
variable {α : Type} [LT α] [LE α] [DecidableEq α] [Std.IsLinearOrder α] [Std.LawfulOrderLT α]
end
section
variable {α : Type} [LT α]
theorem ris_mid {L M : List (α × α)} {x : α × α} (h : Ris (L ++ x :: M)) : (∀ p, p ∈ L → p.1 < x.1) ∧ (∀ p, p ∈ M → x.1 < p.1) ∧ Ris (L ++ M) := by
  unfold Ris at *
  rw [List.pairwise_append] at h
  obtain ⟨h1, h2, h3⟩ := h
  rw [List.pairwise_cons] at h2
  refine ⟨fun p hp => h3 p hp x (by simp), h2.1, ?_⟩
  rw [List.pairwise_append]
  exact ⟨h1, h2.2, fun a ha b hb => h3 a ha b (by simp [hb])⟩
end
section
variable {α : Type} [LT α] [LE α] [DecidableEq α] [Std.IsLinearOrder α] [Std.LawfulOrderLT α]
end
section
variable {α : Type} [LT α]
theorem ris_put {L M : List (α × α)} {x : α × α} (h : Ris (L ++ M)) (h1 : ∀ p, p ∈ L → p.1 < x.1) (h2 : ∀ p, p ∈ M → x.1 < p.1) : Ris (L ++ x :: M) := by
  unfold Ris at *
  rw [List.pairwise_append] at h ⊢
  rw [List.pairwise_cons]
  refine ⟨h.1, ⟨h2, h.2.1⟩, fun a ha b hb => ?_⟩
  rcases List.mem_cons.1 hb with rfl | hb
  · exact h1 a ha
  · exact h.2.2 a ha b hb
end
section
variable {α : Type} [LT α] [LE α] [DecidableEq α] [Std.IsLinearOrder α] [Std.LawfulOrderLT α]
end
section
variable {α : Type} [LT α] [LE α] [Std.IsLinearOrder α] [Std.LawfulOrderLT α]
theorem one_clear {L : List (α × α)} (hL : Ris L) {k v : α} {i : Nat} {x : α × α} (hx : L[i]? = some x) (hk : x.1 = k) : OneOf L 2 k v (L.take i ++ L.drop (i + 1)) := by
  have e := at_split hx
  have hm := ris_mid (by rw [← e]; exact hL)
  refine ⟨hm.2.2, fun p => ?_⟩
  have hp : p ∈ L ↔ p ∈ L.take i ∨ p = x ∨ p ∈ L.drop (i + 1) := by
    conv => lhs; rw [e]
    simp
  rw [hp, List.mem_append]
  unfold Named
  simp only [show ¬ (2 : Int) = 3 from by decide, if_false, show ¬ (2 : Int) = 1 from by decide, false_and, or_false]
  constructor
  · rintro (h | h)
    · exact ⟨.inl h, by have := hm.1 p h; grind⟩
    · exact ⟨.inr (.inr h), by have := hm.2.1 p h; grind⟩
  · rintro ⟨h | rfl | h, h2⟩
    · exact .inl h
    · exact absurd hk h2
    · exact .inr h
end
section
variable {α : Type} [LT α] [LE α] [DecidableEq α] [Std.IsLinearOrder α] [Std.LawfulOrderLT α]
end
section
variable {α : Type} [LT α] [LE α]
theorem one_clear_not {L : List (α × α)} (hL : Ris L) {k v : α} (hn : ∀ p, p ∈ L → p.1 ≠ k) : OneOf L 2 k v L := by
  refine ⟨hL, fun p => ?_⟩
  unfold Named
  simp only [show ¬ (2 : Int) = 3 from by decide, if_false, show ¬ (2 : Int) = 1 from by decide, false_and, or_false]
  exact ⟨fun h => ⟨h, hn p h⟩, fun h => h.1⟩
end
section
variable {α : Type} [LT α] [LE α] [DecidableEq α] [Std.IsLinearOrder α] [Std.LawfulOrderLT α]
end
section
variable {α : Type} [LT α] [LE α] [Std.IsLinearOrder α] [Std.LawfulOrderLT α]
theorem one_put_there {L : List (α × α)} (hL : Ris L) {k v : α} {i : Nat} {x : α × α} (hx : L[i]? = some x) (hk : x.1 = k) : OneOf L 1 k v (L.take i ++ (x.1, v) :: L.drop (i + 1)) := by
  have e := at_split hx
  have hm := ris_mid (by rw [← e]; exact hL)
  refine ⟨ris_put hm.2.2 hm.1 hm.2.1, fun p => ?_⟩
  have hp : p ∈ L ↔ p ∈ L.take i ∨ p = x ∨ p ∈ L.drop (i + 1) := by
    conv => lhs; rw [e]
    simp
  rw [hp, List.mem_append, List.mem_cons]
  unfold Named
  simp only [show ¬ (1 : Int) = 3 from by decide, if_false, true_and]
  constructor
  · rintro (h | h | h)
    · exact .inl ⟨.inl h, by have := hm.1 p h; grind⟩
    · exact .inr (by rw [h, hk])
    · exact .inl ⟨.inr (.inr h), by have := hm.2.1 p h; grind⟩
  · rintro (⟨h | rfl | h, h2⟩ | h)
    · exact .inl h
    · exact absurd hk h2
    · exact .inr (.inr h)
    · exact .inr (.inl (by rw [h, hk]))
end
section
variable {α : Type} [LT α] [LE α] [DecidableEq α] [Std.IsLinearOrder α] [Std.LawfulOrderLT α]
end
section
variable {α : Type} [LT α] [LE α] [Std.IsLinearOrder α] [Std.LawfulOrderLT α]
theorem one_put_new {L : List (α × α)} (hL : Ris L) {k v : α} {i : Nat} (hi : At L k i) (hn : ∀ p, p ∈ L → p.1 ≠ k) : OneOf L 1 k v (L.take i ++ [(k, v)] ++ L.drop i) := by
  have hr : Ris (L.take i ++ L.drop i) := by rw [List.take_append_drop]; exact hL
  rw [List.append_assoc]
  refine ⟨ris_put hr hi.1 fun p hp => by have := hi.2 p hp; have := hn p (List.mem_of_mem_drop hp); grind, fun p => ?_⟩
  have hp : p ∈ L ↔ p ∈ L.take i ∨ p ∈ L.drop i := by rw [← List.mem_append, List.take_append_drop]
  rw [hp]
  unfold Named
  simp only [show ¬ (1 : Int) = 3 from by decide, if_false, true_and, List.mem_append, List.mem_cons, List.not_mem_nil, or_false]
  constructor
  · rintro (h | h | h)
    · exact .inl ⟨.inl h, hn p (List.mem_of_mem_take h)⟩
    · exact .inr h
    · exact .inl ⟨.inr h, hn p (List.mem_of_mem_drop h)⟩
  · rintro (⟨h | h, _⟩ | h)
    · exact .inl h
    · exact .inr (.inr h)
    · exact .inr (.inl h)
end
section
variable {α : Type} [LT α] [LE α] [DecidableEq α] [Std.IsLinearOrder α] [Std.LawfulOrderLT α]
end
end Go.Proofs.Ytblljpdlmllceaa
/-
  One: pairs behind a change.
-/
namespace Go.Proofs.Ytblljpdlmllceaa
open Go.RowKit
set_option linter.unusedVariables false
set_option linter.unusedSimpArgs false
theorem rise_iff {L : List Pr} : Rise L ↔ Ris L := by
  unfold Rise Ris
  rw [List.pairwise_iff_getElem]
  constructor
  · intro h i j hi hj hij
    exact h i j _ _ hij (List.getElem?_eq_getElem hi) (List.getElem?_eq_getElem hj)
  · intro h i j x y hij hx hy
    obtain ⟨hi, rfl⟩ := List.getElem?_eq_some_iff.1 hx
    obtain ⟨hj, rfl⟩ := List.getElem?_eq_some_iff.1 hy
    exact h i j hi hj hij
theorem at_of {L : List Pr} {k : ByteArray} {i : Nat} {there : Bool} (h : FindAt L k i there) : At L k i := by
  refine ⟨fun p hp => ?_, fun p hp => ?_⟩
  · obtain ⟨j, hj⟩ := List.getElem?_of_mem hp
    rw [List.getElem?_take] at hj
    split at hj
    · rename_i hji; exact h.2.1 j p hji hj
    · cases hj
  · obtain ⟨j, hj⟩ := List.getElem?_of_mem hp
    rw [List.getElem?_drop] at hj
    exact h.2.2.1 (i + j) p (by omega) hj
theorem none_of {L : List Pr} {k : ByteArray} {i : Nat} (hL : Ris L) (h : FindAt L k i false) : ∀ p, p ∈ L → p.1 ≠ k := by
  intro p hp hk
  have hat := at_of h
  have hd : p ∈ L.drop i := (at_drop hat p).2 ⟨hp, by rw [hk]; grind⟩
  cases hl : L[i]? with
  | none =>
    rw [List.drop_of_length_le (List.getElem?_eq_none_iff.1 hl)] at hd; cases hd
  | some x =>
    have e := List.getElem?_eq_some_iff.1 hl
    have hnx : x.1 ≠ k := fun h2 => by have := h.2.2.2.2 ⟨x, hl, h2⟩; cases this
    have h3 := h.2.2.1 i x (Nat.le_refl _) hl
    have hs := at_split hl
    have hm := ris_mid (by rw [← hs]; exact hL)
    rw [List.drop_eq_getElem_cons e.1, e.2] at hd
    rcases List.mem_cons.1 hd with rfl | hd
    · exact hnx hk
    · have := hm.2.1 p hd
      grind
/-- What One leaves. -/
def OnePost (B n : Nat) (L : List Pr) (kind : Int) (k v : ByteArray) (w : World) (e : Ending) (w' : World) : Prop :=
  (∃ (u : Value) (L' : List Pr) (m : Nat), e = .returned u ∧ L'.length = m ∧ m ≤ n + 1 ∧ OneOf L kind k v L' ∧ w'.ownsRow B 55 2 u m (prow L')) ∧ Below B w w'
def OnePost2 (B n : Nat) (L : List Pr) (kind : Int) (k v : ByteArray) (A : Option Addr) (c : Nat) (w : World) (e : Ending) (w' : World) : Prop :=
  OnePost B n L kind k v w e w' ∧ w.grownBy w' (Value.slice A n c).ownBlock
set_option maxHeartbeats 2000000 in
theorem one_wipe_any {w : World} {B n c : Nat} {A : Option Addr} {L : List Pr} (k v : ByteArray) (ho : w.ownsRow B 55 2 (.slice A n c) n (prow L)) (hl : L.length = n) (hL : Ris L) (hn : n ≤ 2199023255552) (hBw : B ≤ w.heap.size) :
    Calls Try.prog 35 #[.slice A n c, .agg #[.int .i64 3, .string k, .string v]] w (OnePost2 B n L 3 k v A c w) := by
  obtain ⟨W0, hW0⟩ : ∃ W0, W0 = w.alloc (.cells #[.int .i64 3, .string k, .string v] 32) := ⟨_, rfl⟩
  have hbx : W0.heap[w.heap.size]? = some (.cells #[.int .i64 3, .string k, .string v] 32 (0, 0)) := by rw [hW0]; exact heap_alloc_new w _
  have ho0 : W0.ownsRow B 55 2 (.slice A n c) n (prow L) := by rw [hW0]; exact ho.alloc _
  have HG0 := hide_ (show w.grownBy W0 (Value.slice A n c).ownBlock by rw [hW0]; exact World.grownBy_alloc _ _ _)
  have HB0 := hide_ (show Below B w W0 by rw [hW0]; exact (Below.refl _ _).alloc hBw _)
  have HZ0 := hide_ (show B ≤ W0.heap.size from Nat.le_trans hBw HB0.out.size)
  have hf := hide_ (find_any (c := c) k (Rd.of_own ho0) hl (rise_iff.2 hL) (by omega))
  have HO0 := hide_ ho0; have HBX := hide_ hbx; have HL := hide_ hl; have HRI := hide_ hL; have HW := hide_ hW0.symm
  clear hW0 hbx ho0 ho hl hL
  go_enter Try.func35, Try.ntmps35
  go_wp2_with fail
  rw [HW.out]
  clear HW
  refine hf.out.mono ?_; rintro e w1 ⟨⟨i, there, rfl, hfi⟩, hb1⟩
  have HF1 := hide_ hfi
  have HO1 := hide_ (own_below HO0.out hb1)
  have HB1 := hide_ (HB0.out.trans (hb1.mono HZ0.out))
  have HG1 := hide_ (grown_trans HG0.out (grown_later hb1 _) (.inl rfl))
  have hx1 := (hb1.block w.heap.size (heap_lt0 HBX.out)).trans HBX.out
  have HZ1 := hide_ (Nat.le_trans HZ0.out hb1.size)
  have c0 := cell_of_row _ _ 0 _ _ (0, 0) hx1
  have c1 := cell_of_row _ _ 1 _ _ (0, 0) hx1
  have c2 := cell_of_row _ _ 2 _ _ (0, 0) hx1
  have hf2 := hide_ (find_any (c := c) v (Rd.of_own HO1.out) HL.out (rise_iff.2 HRI.out) (by omega))
  have hin : i ≤ n := by have := hfi.1; have := HL.out; omega
  clear hfi hb1 hx1 hf
  go_wp2_with fail
  refine hf2.out.mono ?_; rintro e w2 ⟨⟨j, th2, rfl, hfj⟩, hb2⟩
  have hjn : j ≤ n := by have := hfj.1; have := HL.out; omega
  have HO2 := hide_ (own_below HO1.out hb2)
  have HB2 := hide_ (HB1.out.trans (hb2.mono HZ1.out))
  have HG2 := hide_ (grown_trans HG1.out (grown_later hb2 _) (.inl rfl))
  have HF2 := hide_ hfj
  clear hfj hb2 hf2 c0 c1 c2
  by_cases hji : i < j
  · have q1 : (i : Int) < (j : Int) := by omega
    have hd := hide_ (delete_own HO2.out HL.out i j (by omega) hjn (by omega))
    have HP := hide_ (one_wipe HRI.out (at_of HF1.out) (at_of HF2.out) (m := j) (by rw [if_pos hji]))
    clear hji
    go_wp2_with fail
    refine hd.out.mono ?_; rintro e w3 ⟨⟨u, m, rfl, hm, hmn, ho3⟩, hb3, hg3⟩
    have HM := hide_ hm; have HO3 := hide_ ho3; have HB3 := hide_ (HB2.out.trans hb3); have HG3 := hide_ (grown_trans HG2.out hg3 (.inl rfl))
    obtain ⟨A3, c3, rfl⟩ := own_form ho3
    clear hm ho3 hb3 hg3
    go_wp2_with fail
    go_ret
    exact ⟨⟨⟨_, _, m, rfl, HM.out, by omega, HP.out, HO3.out⟩, HB3.out⟩, HG3.out⟩
  · have q1 : ¬ (i : Int) < (j : Int) := by omega
    have hd := hide_ (delete_own HO2.out HL.out i i (Nat.le_refl _) hin (by omega))
    have HP := hide_ (one_wipe HRI.out (at_of HF1.out) (at_of HF2.out) (m := i) (by rw [if_neg hji]))
    clear hji
    go_wp2_with fail
    refine hd.out.mono ?_; rintro e w3 ⟨⟨u, m, rfl, hm, hmn, ho3⟩, hb3, hg3⟩
    have HM := hide_ hm; have HO3 := hide_ ho3; have HB3 := hide_ (HB2.out.trans hb3); have HG3 := hide_ (grown_trans HG2.out hg3 (.inl rfl))
    obtain ⟨A3, c3, rfl⟩ := own_form ho3
    clear hm ho3 hb3 hg3
    go_wp2_with fail
    go_ret
    exact ⟨⟨⟨_, _, m, rfl, HM.out, by omega, HP.out, HO3.out⟩, HB3.out⟩, HG3.out⟩
set_option maxHeartbeats 2000000 in
theorem one_clear_any {w : World} {B n c : Nat} {A : Option Addr} {L : List Pr} (k v : ByteArray) (ho : w.ownsRow B 55 2 (.slice A n c) n (prow L)) (hl : L.length = n) (hL : Ris L) (hn : n ≤ 2199023255552) (hBw : B ≤ w.heap.size) :
    Calls Try.prog 35 #[.slice A n c, .agg #[.int .i64 2, .string k, .string v]] w (OnePost2 B n L 2 k v A c w) := by
  obtain ⟨W0, hW0⟩ : ∃ W0, W0 = w.alloc (.cells #[.int .i64 2, .string k, .string v] 32) := ⟨_, rfl⟩
  have hbx : W0.heap[w.heap.size]? = some (.cells #[.int .i64 2, .string k, .string v] 32 (0, 0)) := by rw [hW0]; exact heap_alloc_new w _
  have ho0 : W0.ownsRow B 55 2 (.slice A n c) n (prow L) := by rw [hW0]; exact ho.alloc _
  have HG0 := hide_ (show w.grownBy W0 (Value.slice A n c).ownBlock by rw [hW0]; exact World.grownBy_alloc _ _ _)
  have HB0 := hide_ (show Below B w W0 by rw [hW0]; exact (Below.refl _ _).alloc hBw _)
  have HZ0 := hide_ (show B ≤ W0.heap.size from Nat.le_trans hBw HB0.out.size)
  have hf := hide_ (find_any (c := c) k (Rd.of_own ho0) hl (rise_iff.2 hL) (by omega))
  have HO0 := hide_ ho0; have HBX := hide_ hbx; have HL := hide_ hl; have HRI := hide_ hL; have HW := hide_ hW0.symm
  clear hW0 hbx ho0 ho hl hL
  go_enter Try.func35, Try.ntmps35
  go_wp2_with fail
  rw [HW.out]
  clear HW
  refine hf.out.mono ?_; rintro e w1 ⟨⟨i, there, rfl, hfi⟩, hb1⟩
  have HF1 := hide_ hfi
  have HO1 := hide_ (own_below HO0.out hb1)
  have HB1 := hide_ (HB0.out.trans (hb1.mono HZ0.out))
  have HG1 := hide_ (grown_trans HG0.out (grown_later hb1 _) (.inl rfl))
  have hx1 := (hb1.block w.heap.size (heap_lt0 HBX.out)).trans HBX.out
  have HZ1 := hide_ (Nat.le_trans HZ0.out hb1.size)
  have c0 := cell_of_row _ _ 0 _ _ (0, 0) hx1
  have c1 := cell_of_row _ _ 1 _ _ (0, 0) hx1
  have c2 := cell_of_row _ _ 2 _ _ (0, 0) hx1
  have hin : i ≤ n := by have := hfi.1; have := HL.out; omega
  clear hfi hb1 hx1 hf
  cases there with
  | true =>
    obtain ⟨x, hx, hxk⟩ := HF1.out.2.2.2.1 rfl
    have hi1 : i + 1 ≤ n := by have := (List.getElem?_eq_some_iff.1 hx).1; have := HL.out; omega
    have hd := hide_ (delete_own HO1.out HL.out i (i + 1) (by omega) hi1 (by omega))
    have HP := hide_ (one_clear (v := v) HRI.out hx hxk)
    have ew : IntKind.i64.wrap ((i : Int) + 1) = ((i + 1 : Nat) : Int) := by rw [show ((i : Int) + 1) = ((i + 1 : Nat) : Int) from by omega]; exact IntWalk.i64_in _ (by omega)
    clear hx hxk
    go_wp2_with (simp only [ew])
    refine hd.out.mono ?_; rintro e w3 ⟨⟨u, m, rfl, hm, hmn, ho3⟩, hb3, hg3⟩
    have HM := hide_ hm; have HO3 := hide_ ho3; have HB3 := hide_ (HB1.out.trans hb3); have HG3 := hide_ (grown_trans HG1.out hg3 (.inl rfl))
    obtain ⟨A3, c3, rfl⟩ := own_form ho3
    clear hm ho3 hb3 hg3
    go_wp2_with fail
    go_ret
    exact ⟨⟨⟨_, _, m, rfl, HM.out, by omega, HP.out, HO3.out⟩, HB3.out⟩, HG3.out⟩
  | false =>
    have HP := hide_ (one_clear_not (v := v) HRI.out (none_of HRI.out HF1.out))
    go_wp2_with fail
    go_ret
    exact ⟨⟨⟨_, _, n, rfl, HL.out, by omega, HP.out, HO1.out⟩, HB1.out⟩, HG1.out⟩
theorem own_setCell_below {w w1 : World} {B size n cap : Nat} {e : TypeId} {g : Nat} {xs : List Value} (h : Below B w w1) (ho : w1.ownsRow B e size (.slice (some ⟨g, 0, none⟩) n cap) n xs) (j : Nat) (u : Value) : Below B w (w1.setCell ⟨g, j, none⟩ u) := by
  rcases ho.2 with ⟨h, _⟩ | ⟨g', cap', cur, hv, hb, _⟩
  · cases h
  · injection hv with h1
    injection h1 with h1
    injection h1 with h1
    subst h1
    exact h.setCell (p := ⟨g, j, none⟩) hb u
theorem prow_set {L : List Pr} {i : Nat} {x : Pr} (hx : L[i]? = some x) (v : ByteArray) : (prow L).set (i * 2 + 1) (.string v) = prow (L.take i ++ (x.1, v) :: L.drop (i + 1)) := by
  have e := at_split hx
  have hi := (List.getElem?_eq_some_iff.1 hx).1
  have e1 : prow L = prow (L.take i) ++ ([.string x.1, .string x.2] ++ prow (L.drop (i + 1))) := by
    conv => lhs; rw [e]
    rw [show L.take i ++ x :: L.drop (i + 1) = L.take i ++ ([x] ++ L.drop (i + 1)) from rfl]
    unfold prow
    rw [List.flatMap_append, List.flatMap_append]
    simp [encP]
  have e2 : prow (L.take i ++ (x.1, v) :: L.drop (i + 1)) = prow (L.take i) ++ ([.string x.1, .string v] ++ prow (L.drop (i + 1))) := by
    unfold prow
    rw [List.flatMap_append, List.flatMap_cons]
    simp [encP]
  have hlen : (prow (L.take i)).length = i * 2 := by rw [prow_len, List.length_take]; omega
  rw [e1, e2, List.set_append_right _ _ (by omega), hlen, show i * 2 + 1 - i * 2 = 1 from by omega]
  rfl
set_option maxHeartbeats 2000000 in
theorem one_put_any {w : World} {B n c : Nat} {A : Option Addr} {L : List Pr} (k v : ByteArray) (ho : w.ownsRow B 55 2 (.slice A n c) n (prow L)) (hl : L.length = n) (hL : Ris L) (hn : n ≤ 2199023255552) (hBw : B ≤ w.heap.size) :
    Calls Try.prog 35 #[.slice A n c, .agg #[.int .i64 1, .string k, .string v]] w (OnePost2 B n L 1 k v A c w) := by
  obtain ⟨W0, hW0⟩ : ∃ W0, W0 = w.alloc (.cells #[.int .i64 1, .string k, .string v] 32) := ⟨_, rfl⟩
  have hbx : W0.heap[w.heap.size]? = some (.cells #[.int .i64 1, .string k, .string v] 32 (0, 0)) := by rw [hW0]; exact heap_alloc_new w _
  have ho0 : W0.ownsRow B 55 2 (.slice A n c) n (prow L) := by rw [hW0]; exact ho.alloc _
  have HG0 := hide_ (show w.grownBy W0 (Value.slice A n c).ownBlock by rw [hW0]; exact World.grownBy_alloc _ _ _)
  have HB0 := hide_ (show Below B w W0 by rw [hW0]; exact (Below.refl _ _).alloc hBw _)
  have HZ0 := hide_ (show B ≤ W0.heap.size from Nat.le_trans hBw HB0.out.size)
  have hf := hide_ (find_any (c := c) k (Rd.of_own ho0) hl (rise_iff.2 hL) (by omega))
  have HO0 := hide_ ho0; have HBX := hide_ hbx; have HL := hide_ hl; have HRI := hide_ hL; have HW := hide_ hW0.symm
  clear hW0 hbx ho0 ho hl hL
  go_enter Try.func35, Try.ntmps35
  go_wp2_with fail
  rw [HW.out]
  clear HW
  refine hf.out.mono ?_; rintro e w1 ⟨⟨i, there, rfl, hfi⟩, hb1⟩
  have HF1 := hide_ hfi
  have HO1 := hide_ (own_below HO0.out hb1)
  have HB1 := hide_ (HB0.out.trans (hb1.mono HZ0.out))
  have HG1 := hide_ (grown_trans HG0.out (grown_later hb1 _) (.inl rfl))
  have hx1 := (hb1.block w.heap.size (heap_lt0 HBX.out)).trans HBX.out
  have HZ1 := hide_ (Nat.le_trans HZ0.out hb1.size)
  have c0 := cell_of_row _ _ 0 _ _ (0, 0) hx1
  have c1 := cell_of_row _ _ 1 _ _ (0, 0) hx1
  have c2 := cell_of_row _ _ 2 _ _ (0, 0) hx1
  have hin : i ≤ n := by have := hfi.1; have := HL.out; omega
  clear hfi hb1 hx1 hf
  cases there with
  | true =>
    obtain ⟨x, hx, hxk⟩ := HF1.out.2.2.2.1 rfl
    have hi1 : i < n := by have := (List.getElem?_eq_some_iff.1 hx).1; have := HL.out; omega
    have HP := hide_ (one_put_there (v := v) HRI.out hx hxk)
    have HX := hide_ hx
    rcases own_cases HO1.out with ⟨_, h0, _⟩ | ⟨g, rfl⟩
    · omega
    have ho2 := own_setCell HO1.out (i * 2 + 1) (.string v)
    rw [prow_set hx v] at ho2
    have HO2 := hide_ ho2
    clear hx hxk ho2
    have q1 : (0 : Int) ≤ (i : Int) := by omega
    have q2 : (i : Int) < (n : Int) := by omega
    obtain ⟨y, hy⟩ : ∃ y, w1.cell? ⟨g, i * 2 + 1, none⟩ = some y := ⟨_, (HO1.out.cellAt (i * 2 + 1) (by omega)).trans (List.getElem?_eq_getElem (by rw [prow_len, HL.out]; omega))⟩
    have hfz := HO1.out.frozenAt (i * 2 + 1)
    have HB2 := hide_ (own_setCell_below HB1.out HO1.out (i * 2 + 1) (.string v))
    have HG2 := hide_ (grown_setCell (o := i * 2 + 1) HG1.out (.inl rfl) (.string v))
    go_wp2_with fail
    go_ret
    exact ⟨⟨⟨_, _, n, rfl, by simp [HL.out]; omega, by omega, HP.out, HO2.out⟩, HB2.out⟩, HG2.out⟩
  | false =>
    have HP := hide_ (one_put_new (v := v) HRI.out (at_of HF1.out) (none_of HRI.out HF1.out))
    have hv := heap_alloc_new w1 (.cells #[.string k, .string v] 55)
    have hvn : ∀ g, A = some ⟨g, 0, none⟩ → w1.heap.size ≠ g := by
      rintro g rfl h
      obtain ⟨cur, _, hg, _⟩ := own_row HO1.out
      have := heap_lt0 hg
      omega
    have hi := hide_ (insert_own (k, v) (HO1.out.alloc (.cells #[.string k, .string v] 55)) HL.out i hin hv hvn hn (Nat.le_trans HZ1.out (by simp)))
    have HB2 := hide_ (HB1.out.alloc HZ1.out (.cells #[.string k, .string v] 55))
    have HG2 := hide_ (grown_alloc HG1.out (.cells #[.string k, .string v] 55))
    clear hv hvn
    go_wp2_with fail
    refine hi.out.mono ?_; rintro e w3 ⟨⟨u, rfl, ho3⟩, hb3, hg3⟩
    have HO3 := hide_ ho3; have HB3 := hide_ (HB2.out.trans hb3); have HG3 := hide_ (grown_trans HG2.out hg3 (.inl rfl))
    obtain ⟨A3, c3, rfl⟩ := own_form ho3
    clear ho3 hb3 hg3
    go_wp2_with fail
    go_ret
    exact ⟨⟨⟨_, _, n + 1, rfl, by have := HL.out; simp; omega, Nat.le_refl _, HP.out, HO3.out⟩, HB3.out⟩, HG3.out⟩
theorem one_own {w : World} {B n c : Nat} {A : Option Addr} {L : List Pr} {kind : Int} (k v : ByteArray) (hk : kind = 1 ∨ kind = 2 ∨ kind = 3) (ho : w.ownsRow B 55 2 (.slice A n c) n (prow L)) (hl : L.length = n) (hL : Ris L) (hn : n ≤ 2199023255552) (hBw : B ≤ w.heap.size) :
    Calls Try.prog 35 #[.slice A n c, .agg #[.int .i64 kind, .string k, .string v]] w (OnePost2 B n L kind k v A c w) := by
  rcases hk with rfl | rfl | rfl
  · exact one_put_any k v ho hl hL hn hBw
  · exact one_clear_any k v ho hl hL hn hBw
  · exact one_wipe_any k v ho hl hL hn hBw
theorem one_any {w : World} {B n c : Nat} {A : Option Addr} {L : List Pr} {kind : Int} (k v : ByteArray) (hk : kind = 1 ∨ kind = 2 ∨ kind = 3) (ho : w.ownsRow B 55 2 (.slice A n c) n (prow L)) (hl : L.length = n) (hL : Ris L) (hn : n ≤ 2199023255552) (hBw : B ≤ w.heap.size) :
    Calls Try.prog 35 #[.slice A n c, .agg #[.int .i64 kind, .string k, .string v]] w (OnePost B n L kind k v w) :=
  (one_own k v hk ho hl hL hn hBw).mono fun e w' h => h.1

end Go.Proofs.Ytblljpdlmllceaa
/-
  Check, All, Sound: which changes are changes, which pairs are sound.
-/
namespace Go.Proofs.Ytblljpdlmllceaa
open Go.RowKit
set_option linter.unusedVariables false
set_option linter.unusedSimpArgs false
/-- What Check answers. -/
def chk (kind : Int) (k v : ByteArray) : Int :=
  if kind = 3 then (if 17 < v.size then 6 else if 17 < k.size then 6 else if v < k then 5 else 0)
  else if kind = 2 then (if 0 < v.size then 6 else if 16 < k.size then 6 else 0)
  else if kind = 1 then (if 16 < k.size then 6 else if 64 < v.size then 6 else 0)
  else 1
set_option maxHeartbeats 1000000 in
theorem check_any (kind : Int) (k v : ByteArray) (w : World) : Calls Try.prog 18 #[.agg #[.int .i64 kind, .string k, .string v]] w fun e w' => e = .returned (.int .i64 (chk kind k v)) ∧ Later w w' := by
  obtain ⟨W0, hW0⟩ : ∃ W0, W0 = w.alloc (.cells #[.int .i64 kind, .string k, .string v] 32) := ⟨_, rfl⟩
  have hbx : W0.heap[w.heap.size]? = some (.cells #[.int .i64 kind, .string k, .string v] 32 (0, 0)) := by rw [hW0]; exact heap_alloc_new w _
  have HB0 := hide_ (show Later w W0 by rw [hW0]; exact (Below.refl _ _).alloc (Nat.le_refl _) _)
  have c0 : W0.cell? ⟨w.heap.size, 0, none⟩ = some (.int .i64 kind) := cell_of_row _ _ 0 _ _ (0, 0) hbx
  have c1 : W0.cell? ⟨w.heap.size, 1, none⟩ = some (.string k) := cell_of_row _ _ 1 _ _ (0, 0) hbx
  have c2 : W0.cell? ⟨w.heap.size, 2, none⟩ = some (.string v) := cell_of_row _ _ 2 _ _ (0, 0) hbx
  have HW := hide_ hW0.symm
  clear hW0 hbx
  obtain ⟨nv, hnv⟩ : ∃ nv, nv = v.size := ⟨_, rfl⟩
  obtain ⟨nk, hnk⟩ : ∃ nk, nk = k.size := ⟨_, rfl⟩
  have HNV := hide_ hnv; have HNK := hide_ hnk
  have s1 := hnv.symm; have s2 := hnk.symm
  clear hnv hnk
  go_enter Try.func18, Try.ntmps18
  go_wp2_with (rw [HW.out])
  go_quiet (fail)
  have HL := hide_ (below_drewN HB0.out nq)
  obtain ⟨W1, hW1⟩ : ∃ W1, W1 = W0.drewN nq := ⟨_, rfl⟩
  have d0 : W1.cell? ⟨w.heap.size, 0, none⟩ = some (.int .i64 kind) := by rw [hW1]; exact c0
  have d1 : W1.cell? ⟨w.heap.size, 1, none⟩ = some (.string k) := by rw [hW1]; exact c1
  have d2 : W1.cell? ⟨w.heap.size, 2, none⟩ = some (.string v) := by rw [hW1]; exact c2
  rw [← hW1] at HL
  rw [← hW1]
  clear hW1 c0 c1 c2
  by_cases e3 : kind = 3
  · subst e3
    by_cases a1 : 17 < nv
    · have p1 : (17 : Int) < (nv : Int) := by omega
      go_wp2_with fail
      go_ret
      exact ⟨congrArg (fun r => Ending.returned (.int .i64 r)) (by unfold chk; rw [← HNV.out, ← HNK.out]; simp [*]), HL.out⟩
    · have p1 : ¬ (17 : Int) < (nv : Int) := by omega
      by_cases a2 : 17 < nk
      · have p2 : (17 : Int) < (nk : Int) := by omega
        go_wp2_with fail
        go_ret
        exact ⟨congrArg (fun r => Ending.returned (.int .i64 r)) (by unfold chk; rw [← HNV.out, ← HNK.out]; simp [*]), HL.out⟩
      · have p2 : ¬ (17 : Int) < (nk : Int) := by omega
        by_cases a3 : v < k
        · have h1 : Op.bytesLess k.toList v.toList = false := by rw [bl]; simp; grind
          have h2 : (k.toList == v.toList) = false := by rw [beq_ba]; simp; grind
          go_wp2_with fail
          go_ret
          exact ⟨congrArg (fun r => Ending.returned (.int .i64 r)) (by unfold chk; rw [← HNV.out, ← HNK.out]; simp [*]), HL.out⟩
        · by_cases a4 : k < v
          · have h1 : Op.bytesLess k.toList v.toList = true := by rw [bl]; grind
            go_wp2_with fail
            go_ret
            exact ⟨congrArg (fun r => Ending.returned (.int .i64 r)) (by unfold chk; rw [← HNV.out, ← HNK.out]; simp [*]), HL.out⟩
          · have h1 : Op.bytesLess k.toList v.toList = false := by rw [bl]; grind
            have h2 : (k.toList == v.toList) = true := by rw [beq_ba]; grind
            go_wp2_with fail
            go_ret
            exact ⟨congrArg (fun r => Ending.returned (.int .i64 r)) (by unfold chk; rw [← HNV.out, ← HNK.out]; simp [*]), HL.out⟩
  · have e3' : ¬ (3 : Int) = kind := fun h => e3 h.symm
    by_cases e2 : kind = 2
    · subst e2
      by_cases a1 : 0 < nv
      · have p1 : (0 : Int) < (nv : Int) := by omega
        go_wp2_with fail
        go_ret
        exact ⟨congrArg (fun r => Ending.returned (.int .i64 r)) (by unfold chk; rw [← HNV.out, ← HNK.out]; simp [*]), HL.out⟩
      · have p1 : ¬ (0 : Int) < (nv : Int) := by omega
        have p0 : ¬ (64 : Int) < (nv : Int) := by omega
        by_cases a2 : 16 < nk
        · have p2 : (16 : Int) < (nk : Int) := by omega
          go_wp2_with fail
          go_ret
          exact ⟨congrArg (fun r => Ending.returned (.int .i64 r)) (by unfold chk; rw [← HNV.out, ← HNK.out]; simp [*]), HL.out⟩
        · have p2 : ¬ (16 : Int) < (nk : Int) := by omega
          go_wp2_with fail
          go_ret
          exact ⟨congrArg (fun r => Ending.returned (.int .i64 r)) (by unfold chk; rw [← HNV.out, ← HNK.out]; simp [*]), HL.out⟩
    · by_cases e1 : kind = 1
      · subst e1
        by_cases a2 : 16 < nk
        · have p2 : (16 : Int) < (nk : Int) := by omega
          go_wp2_with fail
          go_ret
          exact ⟨congrArg (fun r => Ending.returned (.int .i64 r)) (by unfold chk; rw [← HNV.out, ← HNK.out]; simp [*]), HL.out⟩
        · have p2 : ¬ (16 : Int) < (nk : Int) := by omega
          by_cases a1 : 64 < nv
          · have p1 : (64 : Int) < (nv : Int) := by omega
            go_wp2_with fail
            go_ret
            exact ⟨congrArg (fun r => Ending.returned (.int .i64 r)) (by unfold chk; rw [← HNV.out, ← HNK.out]; simp [*]), HL.out⟩
          · have p1 : ¬ (64 : Int) < (nv : Int) := by omega
            go_wp2_with fail
            go_ret
            exact ⟨congrArg (fun r => Ending.returned (.int .i64 r)) (by unfold chk; rw [← HNV.out, ← HNK.out]; simp [*]), HL.out⟩
      · have e2' : ¬ (2 : Int) = kind := fun h => e2 h.symm
        have e1' : ¬ (1 : Int) = kind := fun h => e1 h.symm
        go_wp2_with fail
        go_ret
        exact ⟨congrArg (fun r => Ending.returned (.int .i64 r)) (by unfold chk; rw [← HNV.out, ← HNK.out]; simp [*]), HL.out⟩
end Go.Proofs.Ytblljpdlmllceaa
/-
  All: the first error of changes.
-/
namespace Go.Proofs.Ytblljpdlmllceaa
open Go.RowKit
set_option linter.unusedVariables false
set_option linter.unusedSimpArgs false
/-- A change: kind, key, value. -/
abbrev Chg := Int × ByteArray × ByteArray
def encC (s : Chg) : List Value := [.int .i64 s.1, .string s.2.1, .string s.2.2]
def crow (L : List Chg) : List Value := L.flatMap encC
theorem encC_len (s : Chg) : (encC s).length = 3 := rfl
theorem encC_one (s : Chg) : ∀ u ∈ encC s, u.oneCell' = true := by
  intro u hu
  simp only [encC, List.mem_cons, List.not_mem_nil, or_false] at hu
  rcases hu with rfl | rfl | rfl <;> rfl
theorem crow_len (L : List Chg) : (crow L).length = L.length * 3 := rec_len encC_len L
theorem crow_one (L : List Chg) : ∀ u ∈ crow L, u.oneCell' = true := rec_one encC_one L
theorem crow_0 {L : List Chg} {i : Nat} {s : Chg} (h : L[i]? = some s) : (crow L)[i * 3]? = some (.int .i64 s.1) := by
  have := rec_at encC_len h 0 (by omega); simpa [crow, encC] using this
theorem crow_1 {L : List Chg} {i : Nat} {s : Chg} (h : L[i]? = some s) : (crow L)[i * 3 + 1]? = some (.string s.2.1) := by
  have := rec_at encC_len h 1 (by omega); simpa [crow, encC] using this
theorem crow_2 {L : List Chg} {i : Nat} {s : Chg} (h : L[i]? = some s) : (crow L)[i * 3 + 2]? = some (.string s.2.2) := by
  have := rec_at encC_len h 2 (by omega); simpa [crow, encC] using this
theorem Rd.chg {w : World} {A : Option Addr} {n : Nat} {L : List Chg} (h : Rd w 3 A n (crow L)) {i : Nat} {s : Chg} (hi : L[i]? = some s) :
    ∃ b o, A = some ⟨b, o, none⟩ ∧ w.cell? ⟨b, o + i * 3, none⟩ = some (.int .i64 s.1) ∧ w.cell? ⟨b, o + i * 3 + 1, none⟩ = some (.string s.2.1) ∧ w.cell? ⟨b, o + i * 3 + 2, none⟩ = some (.string s.2.2) := by
  have hl := (List.getElem?_eq_some_iff.1 (crow_0 hi)).1
  obtain ⟨b, o, e, hc⟩ := h.2 (by omega)
  exact ⟨b, o, e, hc _ _ (crow_0 hi), hc _ _ (crow_1 hi), hc _ _ (crow_2 hi)⟩
/-- What All answers. -/
def chkAll : List Chg → Int
  | [] => 0
  | c :: L => if chk c.1 c.2.1 c.2.2 = 0 then chkAll L else chk c.1 c.2.1 c.2.2
theorem chkAll_next {L : List Chg} {i : Nat} {s : Chg} (h : L[i]? = some s) : chkAll (L.drop i) = if chk s.1 s.2.1 s.2.2 = 0 then chkAll (L.drop (i + 1)) else chk s.1 s.2.1 s.2.2 := by
  have e := List.getElem?_eq_some_iff.1 h
  rw [List.drop_eq_getElem_cons e.1, e.2]; rfl
theorem chkAll_end {L : List Chg} : chkAll (L.drop L.length) = 0 := by rw [List.drop_length]; rfl
set_option maxHeartbeats 1000000 in
theorem all_any {w : World} {A : Option Addr} {n c : Nat} {L : List Chg} (hr : Rd w 3 A n (crow L)) (hl : L.length = n) (hn : n ≤ 4398046511104) : Calls Try.prog 32 #[.slice A n c] w fun e w' => e = .returned (.int .i64 (chkAll L)) ∧ Later w w' := by
  have HR := hide_ hr; have HL := hide_ hl
  have hn2 : (n : Int) ≤ 4398046511104 := by omega
  clear hr hl
  go_enter Try.func32, Try.ntmps32
  go_wp2_with fail
  go_loopw [4, 5, 8] (fun _ _ s8 wr => ∃ k : Nat, k ≤ n ∧ s8 = .int .i64 k ∧ Hid (chkAll L = chkAll (L.drop k)) ∧ Hid (Later w wr)) (fun _ _ i _ => n - (intOf i).toNat)
  case atStart => exact ⟨0, Nat.zero_le _, rfl, hide_ rfl, Later.refl w⟩
  case round =>
    obtain ⟨k, hkn, rfl, HC, HB⟩ := hrel
    by_cases hlt : k < n
    · obtain ⟨s, hs⟩ : ∃ s, L[k]? = some s := ⟨_, List.getElem?_eq_getElem (by rw [HL.out]; exact hlt)⟩
      obtain ⟨b, o, rfl, l0, l1, l2⟩ := (HR.out.below HB.out).chg hs
      have q1 : (k : Int) < (n : Int) := by omega
      have q2 : (0 : Int) ≤ (k : Int) := by omega
      have q3 : (k : Int) ≤ 4398046511104 := by omega
      have HN := hide_ (chkAll_next hs)
      have hc := hide_ (check_any s.1 s.2.1 s.2.2)
      clear hs
      by_cases h0 : chk s.1 s.2.1 s.2.2 = 0
      · go_wp2_with fail
        refine (hc.out _).mono ?_; rintro e w2 ⟨rfl, hb2⟩
        rw [h0]
        have HB2 := hide_ ((HB.out.alloc HB.out.size (.cells #[.int .i64 s.1, .string s.2.1, .string s.2.2] 32)).trans (hb2.mono (by have := HB.out.size; simp; omega)))
        clear hb2
        go_wp2_with fail
        go_roundw
        case rel => exact ⟨k + 1, by omega, by go_num, hide_ (by rw [HC.out, HN.out, if_pos h0]), HB2.out⟩
        case measure => simp [intOf]; omega
      · have h0' : ¬ (0 : Int) = chk s.1 s.2.1 s.2.2 := fun h => h0 h.symm
        go_wp2_with fail
        refine (hc.out _).mono ?_; rintro e w2 ⟨rfl, hb2⟩
        have HB2 := hide_ ((HB.out.alloc HB.out.size (.cells #[.int .i64 s.1, .string s.2.1, .string s.2.2] 32)).trans (hb2.mono (by have := HB.out.size; simp; omega)))
        clear hb2
        go_wp2_with fail
        go_ret
        exact ⟨by rw [HC.out, HN.out, if_neg h0]; rfl, HB2.out⟩
    · have q1 : ¬ (k : Int) < (n : Int) := by omega
      obtain rfl : k = n := by omega
      go_wp2_with fail
      go_ret
      exact ⟨by rw [HC.out, ← HL.out, chkAll_end]; rfl, HB.out⟩
/-- Are pairs sound? -/
def Snd (L : List Pr) : Prop := Ris L ∧ ∀ p, p ∈ L → p.1.size ≤ 16 ∧ p.2.size ≤ 64
def SndT (L : List Pr) (k : Nat) : Prop := (∀ (i : Nat) p, i < k → L[i]? = some p → p.1.size ≤ 16 ∧ p.2.size ≤ 64) ∧ ∀ (i : Nat) p q, i + 1 < k → L[i]? = some p → L[i + 1]? = some q → p.1 < q.1
theorem sndT_0 (L : List Pr) : SndT L 0 := ⟨fun i p h => absurd h (Nat.not_lt_zero _), fun i p q h => absurd h (Nat.not_lt_zero _)⟩
theorem sndT_next {L : List Pr} {k : Nat} (h : SndT L k) {x : Pr} (hx : L[k]? = some x) (h1 : x.1.size ≤ 16) (h2 : x.2.size ≤ 64) (h3 : ∀ (i : Nat) p, i + 1 = k → L[i]? = some p → p.1 < x.1) : SndT L (k + 1) := by
  refine ⟨fun i p hi hp => ?_, fun i p q hi hp hq => ?_⟩
  · rcases Nat.lt_or_ge i k with hlt | hge
    · exact h.1 i p hlt hp
    · obtain rfl : i = k := by omega
      rw [hx] at hp; injection hp with hp; subst hp; exact ⟨h1, h2⟩
  · rcases Nat.lt_or_ge (i + 1) k with hlt | hge
    · exact h.2 i p q hlt hp hq
    · have e : i + 1 = k := by omega
      rw [e, hx] at hq; injection hq with hq; subst hq; exact h3 i p e hp
theorem sndT_end {L : List Pr} (h : SndT L L.length) : Snd L := by
  refine ⟨rise_iff.1 ?_, fun p hp => ?_⟩
  · intro i j x y hij hx hy
    obtain ⟨d, rfl⟩ : ∃ d, j = i + 1 + d := ⟨j - (i + 1), by omega⟩
    clear hij
    induction d generalizing y with
    | zero => exact h.2 i x y (List.getElem?_eq_some_iff.1 hy).1 hx hy
    | succ d ih =>
      have hlt := (List.getElem?_eq_some_iff.1 hy).1
      have hz := List.getElem?_eq_getElem (l := L) (i := i + 1 + d) (by omega)
      have h1 := ih _ hz
      have h2 := h.2 (i + 1 + d) _ y (by omega) hz (by rw [← hy]; rfl)
      grind
  · obtain ⟨i, hi⟩ := List.getElem?_of_mem hp
    exact h.1 i p (List.getElem?_eq_some_iff.1 hi).1 hi
theorem snd_no1 {L : List Pr} {k : Nat} {x : Pr} (hx : L[k]? = some x) (h1 : ¬ (x.1.size ≤ 16 ∧ x.2.size ≤ 64)) : ¬ Snd L := fun h => h1 (h.2 x (List.mem_of_getElem? hx))
theorem snd_no2 {L : List Pr} {k : Nat} {x p : Pr} (hp : L[k]? = some p) (hx : L[k + 1]? = some x) (h1 : ¬ p.1 < x.1) : ¬ Snd L := fun h => h1 (rise_iff.2 h.1 k (k + 1) p x (by omega) hp hx)
end Go.Proofs.Ytblljpdlmllceaa
/-
  Sound: are pairs sound?
-/
namespace Go.Proofs.Ytblljpdlmllceaa
open Go.RowKit
set_option linter.unusedVariables false
set_option linter.unusedSimpArgs false
theorem cell_stay {w : World} {b o : Nat} {u : Value} (h : w.cell? ⟨b, o, none⟩ = some u) : ∀ ob, (w.alloc ob).cell? ⟨b, o, none⟩ = some u := fun ob => (World.cell?_alloc_lt w ob _ (cell_lt h)).trans h
/-- What Sound answers. -/
def SoundPost (L : List Pr) (w : World) (e : Ending) (w' : World) : Prop := (∃ r : Bool, e = .returned (.bool r) ∧ (r = true ↔ Snd L)) ∧ Later w w'
set_option maxHeartbeats 4000000 in
theorem sound_any {w : World} {A : Option Addr} {n c : Nat} {L : List Pr} (hr : Rd w 2 A n (prow L)) (hl : L.length = n) (hn : n ≤ 4398046511104) : Calls Try.prog 33 #[.slice A n c] w (SoundPost L w) := by
  have HR := hide_ hr; have HL := hide_ hl
  have hn2 : (n : Int) ≤ 4398046511104 := by omega
  clear hr hl
  go_enter Try.func33, Try.ntmps33
  go_wp2_with fail
  go_loopw [3, 4, 7] (fun _ _ s7 wr => ∃ k : Nat, k ≤ n ∧ s7 = .int .i64 k ∧ Hid (SndT L k) ∧ Hid (Later w wr)) (fun _ _ i _ => n - (intOf i).toNat)
  case atStart => exact ⟨0, Nat.zero_le _, rfl, hide_ (sndT_0 L), Later.refl w⟩
  case round =>
    obtain ⟨k, hkn, rfl, HS, HB⟩ := hrel
    by_cases hlt : k < n
    · obtain ⟨s, hs⟩ : ∃ s, L[k]? = some s := ⟨_, List.getElem?_eq_getElem (by rw [HL.out]; exact hlt)⟩
      obtain ⟨b, o, rfl, l0, l1⟩ := (HR.out.below HB.out).pair hs
      have q1 : (k : Int) < (n : Int) := by omega
      have q2 : (0 : Int) ≤ (k : Int) := by omega
      have q3 : (k : Int) ≤ 4398046511104 := by omega
      have HX := hide_ hs
      obtain ⟨W1, hW1⟩ : ∃ W1, W1 = wr.alloc (.cells #[.string s.1, .string s.2] 55) := ⟨_, rfl⟩
      have HBA := hide_ (show Later w W1 by rw [hW1]; exact HB.out.alloc HB.out.size (.cells #[.string s.1, .string s.2] 55))
      have hw1 : W1.heap[wr.heap.size]? = some (.cells #[.string s.1, .string s.2] 55 (0, 0)) := by rw [hW1]; exact heap_alloc_new wr _
      have d0 : W1.cell? ⟨wr.heap.size, 0, none⟩ = some (.string s.1) := cell_of_row _ _ 0 _ _ (0, 0) hw1
      have d1 : W1.cell? ⟨wr.heap.size, 1, none⟩ = some (.string s.2) := cell_of_row _ _ 1 _ _ (0, 0) hw1
      have HW := hide_ hW1.symm
      clear hW1 hw1
      obtain ⟨nk, hnk⟩ : ∃ nk, nk = s.1.size := ⟨_, rfl⟩
      obtain ⟨nv, hnv⟩ : ∃ nv, nv = s.2.size := ⟨_, rfl⟩
      have HNK := hide_ hnk; have HNV := hide_ hnv
      have s1 := hnk.symm; have s2 := hnv.symm
      clear hnk hnv hs
      by_cases a1 : 16 < nk
      · have p1 : (16 : Int) < (nk : Int) := by omega
        clear a1
        go_wp2_with (rw [HW.out])
        refine wp_region_k (by kernel_rfl) ?_
        refine wpAnyK_take 0 (v := ?_) rfl (by kernel_rfl) (by kernel_rfl) (by kernel_rfl) (fun _ _ _ h => h) (by rfl) (by intro W hSw; go_simp; with_reducible rfl) ?_; try simp only [Act.put, List.setIfInBounds_toArray, List.set_cons_zero, List.set_cons_succ]
        refine wpAnyK_one 1 (by kernel_rfl) rfl (fun K hK => ?_)
        go_simp
        refine hK.out _ _ (Later.refl _) ?_
        clear hK K; try simp only [Act.put, List.setIfInBounds_toArray, List.set_cons_zero, List.set_cons_succ]
        refine wpAnyK_take 2 (v := ?_) rfl (by kernel_rfl) (by kernel_rfl) (by kernel_rfl) (fun _ _ _ h => h) (by rfl) (by intro W hSw; go_simp; with_reducible rfl) ?_; try simp only [Act.put, List.setIfInBounds_toArray, List.set_cons_zero, List.set_cons_succ]
        refine wpAnyK_take 3 (v := ?_) rfl (by kernel_rfl) (by kernel_rfl) (by kernel_rfl) (fun _ _ _ h => h) (by rfl) (by intro W hSw; go_simp; with_reducible rfl) ?_; try simp only [Act.put, List.setIfInBounds_toArray, List.set_cons_zero, List.set_cons_succ]
        refine wpAnyK_take 4 (v := ?_) rfl (by kernel_rfl) (by kernel_rfl) (by kernel_rfl) (fun _ _ _ h => h) (by rfl) (by intro W hSw; go_simp; with_reducible rfl) ?_; try simp only [Act.put, List.setIfInBounds_toArray, List.set_cons_zero, List.set_cons_succ]
        refine wpAnyK_skip 5 rfl (by kernel_rfl) (by kernel_rfl) (by kernel_rfl) (fun _ _ _ h => h) (by rfl) ?_; try simp only [Act.put, List.setIfInBounds_toArray, List.set_cons_zero, List.set_cons_succ]
        refine wpAnyK_skip 6 rfl (by kernel_rfl) (by kernel_rfl) (by kernel_rfl) (fun _ _ _ h => h) (by rfl) ?_; try simp only [Act.put, List.setIfInBounds_toArray, List.set_cons_zero, List.set_cons_succ]
        refine wpAnyK_skip 7 rfl (by kernel_rfl) (by kernel_rfl) (by kernel_rfl) (fun _ _ _ h => h) (by rfl) ?_; try simp only [Act.put, List.setIfInBounds_toArray, List.set_cons_zero, List.set_cons_succ]
        refine wpAnyK_skip 8 rfl (by kernel_rfl) (by kernel_rfl) (by kernel_rfl) (fun _ _ _ h => h) (by rfl) ?_; try simp only [Act.put, List.setIfInBounds_toArray, List.set_cons_zero, List.set_cons_succ]
        refine wpAnyK_take 9 (v := ?_) rfl (by kernel_rfl) (by kernel_rfl) (by kernel_rfl) (fun _ _ _ h => h) (by rfl) (by intro W hSw; go_simp; with_reducible rfl) ?_; try simp only [Act.put, List.setIfInBounds_toArray, List.set_cons_zero, List.set_cons_succ]
        refine wpAnyK_take 10 (v := ?_) rfl (by kernel_rfl) (by kernel_rfl) (by kernel_rfl) (fun _ _ _ h => h) (by rfl) (by intro W hSw; go_simp; with_reducible rfl) ?_; try simp only [Act.put, List.setIfInBounds_toArray, List.set_cons_zero, List.set_cons_succ]
        refine wpAnyK_skip 11 rfl (by kernel_rfl) (by kernel_rfl) (by kernel_rfl) (fun _ _ _ h => h) (by rfl) ?_; try simp only [Act.put, List.setIfInBounds_toArray, List.set_cons_zero, List.set_cons_succ]
        refine wpAnyK_skip 12 rfl (by kernel_rfl) (by kernel_rfl) (by kernel_rfl) (fun _ _ _ h => h) (by rfl) ?_; try simp only [Act.put, List.setIfInBounds_toArray, List.set_cons_zero, List.set_cons_succ]
        refine wpAnyK_skip 13 rfl (by kernel_rfl) (by kernel_rfl) (by kernel_rfl) (fun _ _ _ h => h) (by rfl) ?_; try simp only [Act.put, List.setIfInBounds_toArray, List.set_cons_zero, List.set_cons_succ]
        refine wpAnyK_skip 14 rfl (by kernel_rfl) (by kernel_rfl) (by kernel_rfl) (fun _ _ _ h => h) (by rfl) ?_; try simp only [Act.put, List.setIfInBounds_toArray, List.set_cons_zero, List.set_cons_succ]
        refine wpAnyK_skip 15 rfl (by kernel_rfl) (by kernel_rfl) (by kernel_rfl) (fun _ _ _ h => h) (by rfl) ?_; try simp only [Act.put, List.setIfInBounds_toArray, List.set_cons_zero, List.set_cons_succ]
        refine wpAnyK_skip 16 rfl (by kernel_rfl) (by kernel_rfl) (by kernel_rfl) (fun _ _ _ h => h) (by rfl) ?_; try simp only [Act.put, List.setIfInBounds_toArray, List.set_cons_zero, List.set_cons_succ]
        refine wpAnyK_skip 17 rfl (by kernel_rfl) (by kernel_rfl) (by kernel_rfl) (fun _ _ _ h => h) (by rfl) ?_; try simp only [Act.put, List.setIfInBounds_toArray, List.set_cons_zero, List.set_cons_succ]
        refine wpAnyK_skip 18 rfl (by kernel_rfl) (by kernel_rfl) (by kernel_rfl) (fun _ _ _ h => h) (by rfl) ?_; try simp only [Act.put, List.setIfInBounds_toArray, List.set_cons_zero, List.set_cons_succ]
        refine wpAnyK_skip 19 rfl (by kernel_rfl) (by kernel_rfl) (by kernel_rfl) (fun _ _ _ h => h) (by rfl) ?_; try simp only [Act.put, List.setIfInBounds_toArray, List.set_cons_zero, List.set_cons_succ]
        refine wpAnyK_skip 20 rfl (by kernel_rfl) (by kernel_rfl) (by kernel_rfl) (fun _ _ _ h => h) (by rfl) ?_; try simp only [Act.put, List.setIfInBounds_toArray, List.set_cons_zero, List.set_cons_succ]
        refine wpAnyK_skip 21 rfl (by kernel_rfl) (by kernel_rfl) (by kernel_rfl) (fun _ _ _ h => h) (by rfl) ?_; try simp only [Act.put, List.setIfInBounds_toArray, List.set_cons_zero, List.set_cons_succ]
        refine wpAnyK_skip 22 rfl (by kernel_rfl) (by kernel_rfl) (by kernel_rfl) (fun _ _ _ h => h) (by rfl) ?_; try simp only [Act.put, List.setIfInBounds_toArray, List.set_cons_zero, List.set_cons_succ]
        refine wpAnyK_skip 23 rfl (by kernel_rfl) (by kernel_rfl) (by kernel_rfl) (fun _ _ _ h => h) (by rfl) ?_; try simp only [Act.put, List.setIfInBounds_toArray, List.set_cons_zero, List.set_cons_succ]
        refine wpAnyK_take 24 (v := ?_) rfl (by kernel_rfl) (by kernel_rfl) (by kernel_rfl) (fun _ _ _ h => h) (by rfl) (by intro W hSw; go_simp; with_reducible rfl) ?_; try simp only [Act.put, List.setIfInBounds_toArray, List.set_cons_zero, List.set_cons_succ]
        refine wpAnyK_done (by kernel_rfl) ?_ _
        go_wp2_with fail
        go_ret
        exact ⟨⟨false, rfl, ⟨fun h => (by cases h), fun h => absurd h (snd_no1 HX.out (by rw [← HNK.out]; omega))⟩⟩, HBA.out.drew⟩
      · have p1 : ¬ (16 : Int) < (nk : Int) := by omega
        clear a1
        by_cases a2 : 64 < nv
        · have p2 : (64 : Int) < (nv : Int) := by omega
          clear a2
          go_wp2_with (rw [HW.out])
          have z1 : ¬ (16 : Int) < (nk : Int) := by omega
          refine wp_region_k (by kernel_rfl) ?_
          refine wpAnyK_take 0 (v := ?_) rfl (by kernel_rfl) (by kernel_rfl) (by kernel_rfl) (fun _ _ _ h => h) (by rfl) (by intro W hSw; go_simp; with_reducible rfl) ?_; try simp only [Act.put, List.setIfInBounds_toArray, List.set_cons_zero, List.set_cons_succ]
          refine wpAnyK_one 1 (by kernel_rfl) rfl (fun K hK => ?_)
          go_simp
          refine hK.out _ _ (Later.refl _) ?_
          clear hK K; try simp only [Act.put, List.setIfInBounds_toArray, List.set_cons_zero, List.set_cons_succ]
          refine wpAnyK_take 2 (v := ?_) rfl (by kernel_rfl) (by kernel_rfl) (by kernel_rfl) (fun _ _ _ h => h) (by rfl) (by intro W hSw; go_simp; with_reducible rfl) ?_; try simp only [Act.put, List.setIfInBounds_toArray, List.set_cons_zero, List.set_cons_succ]
          refine wpAnyK_take 3 (v := ?_) rfl (by kernel_rfl) (by kernel_rfl) (by kernel_rfl) (fun _ _ _ h => h) (by rfl) (by intro W hSw; go_simp; with_reducible rfl) ?_; try simp only [Act.put, List.setIfInBounds_toArray, List.set_cons_zero, List.set_cons_succ]
          refine wpAnyK_take 4 (v := ?_) rfl (by kernel_rfl) (by kernel_rfl) (by kernel_rfl) (fun _ _ _ h => h) (by rfl) (by intro W hSw; go_simp; with_reducible rfl) ?_; try simp only [Act.put, List.setIfInBounds_toArray, List.set_cons_zero, List.set_cons_succ]
          refine wpAnyK_take 5 (v := ?_) rfl (by kernel_rfl) (by kernel_rfl) (by kernel_rfl) (fun _ _ _ h => h) (by rfl) (by intro W hSw; go_simp; with_reducible rfl) ?_; try simp only [Act.put, List.setIfInBounds_toArray, List.set_cons_zero, List.set_cons_succ]
          refine wpAnyK_one 6 (by kernel_rfl) rfl (fun K hK => ?_)
          go_simp
          refine hK.out _ _ (Later.refl _) ?_
          clear hK K; try simp only [Act.put, List.setIfInBounds_toArray, List.set_cons_zero, List.set_cons_succ]
          refine wpAnyK_take 7 (v := ?_) rfl (by kernel_rfl) (by kernel_rfl) (by kernel_rfl) (fun _ _ _ h => h) (by rfl) (by intro W hSw; go_simp; with_reducible rfl) ?_; try simp only [Act.put, List.setIfInBounds_toArray, List.set_cons_zero, List.set_cons_succ]
          refine wpAnyK_take 8 (v := ?_) rfl (by kernel_rfl) (by kernel_rfl) (by kernel_rfl) (fun _ _ _ h => h) (by rfl) (by intro W hSw; go_simp; with_reducible rfl) ?_; try simp only [Act.put, List.setIfInBounds_toArray, List.set_cons_zero, List.set_cons_succ]
          refine wpAnyK_take 9 (v := ?_) rfl (by kernel_rfl) (by kernel_rfl) (by kernel_rfl) (fun _ _ _ h => h) (by rfl) (by intro W hSw; go_simp; with_reducible rfl) ?_; try simp only [Act.put, List.setIfInBounds_toArray, List.set_cons_zero, List.set_cons_succ]
          refine wpAnyK_take 10 (v := ?_) rfl (by kernel_rfl) (by kernel_rfl) (by kernel_rfl) (fun _ _ _ h => h) (by rfl) (by intro W hSw; go_simp; with_reducible rfl) ?_; try simp only [Act.put, List.setIfInBounds_toArray, List.set_cons_zero, List.set_cons_succ]
          refine wpAnyK_skip 11 rfl (by kernel_rfl) (by kernel_rfl) (by kernel_rfl) (fun _ _ _ h => h) (by rfl) ?_; try simp only [Act.put, List.setIfInBounds_toArray, List.set_cons_zero, List.set_cons_succ]
          refine wpAnyK_skip 12 rfl (by kernel_rfl) (by kernel_rfl) (by kernel_rfl) (fun _ _ _ h => h) (by rfl) ?_; try simp only [Act.put, List.setIfInBounds_toArray, List.set_cons_zero, List.set_cons_succ]
          refine wpAnyK_skip 13 rfl (by kernel_rfl) (by kernel_rfl) (by kernel_rfl) (fun _ _ _ h => h) (by rfl) ?_; try simp only [Act.put, List.setIfInBounds_toArray, List.set_cons_zero, List.set_cons_succ]
          refine wpAnyK_skip 14 rfl (by kernel_rfl) (by kernel_rfl) (by kernel_rfl) (fun _ _ _ h => h) (by rfl) ?_; try simp only [Act.put, List.setIfInBounds_toArray, List.set_cons_zero, List.set_cons_succ]
          refine wpAnyK_skip 15 rfl (by kernel_rfl) (by kernel_rfl) (by kernel_rfl) (fun _ _ _ h => h) (by rfl) ?_; try simp only [Act.put, List.setIfInBounds_toArray, List.set_cons_zero, List.set_cons_succ]
          refine wpAnyK_skip 16 rfl (by kernel_rfl) (by kernel_rfl) (by kernel_rfl) (fun _ _ _ h => h) (by rfl) ?_; try simp only [Act.put, List.setIfInBounds_toArray, List.set_cons_zero, List.set_cons_succ]
          refine wpAnyK_skip 17 rfl (by kernel_rfl) (by kernel_rfl) (by kernel_rfl) (fun _ _ _ h => h) (by rfl) ?_; try simp only [Act.put, List.setIfInBounds_toArray, List.set_cons_zero, List.set_cons_succ]
          refine wpAnyK_skip 18 rfl (by kernel_rfl) (by kernel_rfl) (by kernel_rfl) (fun _ _ _ h => h) (by rfl) ?_; try simp only [Act.put, List.setIfInBounds_toArray, List.set_cons_zero, List.set_cons_succ]
          refine wpAnyK_skip 19 rfl (by kernel_rfl) (by kernel_rfl) (by kernel_rfl) (fun _ _ _ h => h) (by rfl) ?_; try simp only [Act.put, List.setIfInBounds_toArray, List.set_cons_zero, List.set_cons_succ]
          refine wpAnyK_skip 20 rfl (by kernel_rfl) (by kernel_rfl) (by kernel_rfl) (fun _ _ _ h => h) (by rfl) ?_; try simp only [Act.put, List.setIfInBounds_toArray, List.set_cons_zero, List.set_cons_succ]
          refine wpAnyK_skip 21 rfl (by kernel_rfl) (by kernel_rfl) (by kernel_rfl) (fun _ _ _ h => h) (by rfl) ?_; try simp only [Act.put, List.setIfInBounds_toArray, List.set_cons_zero, List.set_cons_succ]
          refine wpAnyK_skip 22 rfl (by kernel_rfl) (by kernel_rfl) (by kernel_rfl) (fun _ _ _ h => h) (by rfl) ?_; try simp only [Act.put, List.setIfInBounds_toArray, List.set_cons_zero, List.set_cons_succ]
          refine wpAnyK_skip 23 rfl (by kernel_rfl) (by kernel_rfl) (by kernel_rfl) (fun _ _ _ h => h) (by rfl) ?_; try simp only [Act.put, List.setIfInBounds_toArray, List.set_cons_zero, List.set_cons_succ]
          refine wpAnyK_take 24 (v := ?_) rfl (by kernel_rfl) (by kernel_rfl) (by kernel_rfl) (fun _ _ _ h => h) (by rfl) (by intro W hSw; go_simp; with_reducible rfl) ?_; try simp only [Act.put, List.setIfInBounds_toArray, List.set_cons_zero, List.set_cons_succ]
          refine wpAnyK_done (by kernel_rfl) ?_ _
          go_wp2_with fail
          go_ret
          exact ⟨⟨false, rfl, ⟨fun h => (by cases h), fun h => absurd h (snd_no1 HX.out (by rw [← HNV.out]; omega))⟩⟩, HBA.out.drew⟩
        · have p2 : ¬ (64 : Int) < (nv : Int) := by omega
          clear a2
          rcases Nat.eq_zero_or_pos k with hk0 | hk0
          · subst hk0
            rw [show o + 0 * 2 = o from by omega] at l0 l1
            have HS2 := hide_ (sndT_next HS.out HX.out (by rw [← HNK.out]; omega) (by rw [← HNV.out]; omega) (fun i p h => by omega))
            go_wp2_with (rw [HW.out])
            have z1 : ¬ (16 : Int) < (nk : Int) := by omega
            have z2 : ¬ (64 : Int) < (nv : Int) := by omega
            refine wp_region_k (by kernel_rfl) ?_
            refine wpAnyK_take 0 (v := ?_) rfl (by kernel_rfl) (by kernel_rfl) (by kernel_rfl) (fun _ _ _ h => h) (by rfl) (by intro W hSw; go_simp; with_reducible rfl) ?_; try simp only [Act.put, List.setIfInBounds_toArray, List.set_cons_zero, List.set_cons_succ]
            refine wpAnyK_one 1 (by kernel_rfl) rfl (fun K hK => ?_)
            go_simp
            refine hK.out _ _ (Later.refl _) ?_
            clear hK K; try simp only [Act.put, List.setIfInBounds_toArray, List.set_cons_zero, List.set_cons_succ]
            refine wpAnyK_take 2 (v := ?_) rfl (by kernel_rfl) (by kernel_rfl) (by kernel_rfl) (fun _ _ _ h => h) (by rfl) (by intro W hSw; go_simp; with_reducible rfl) ?_; try simp only [Act.put, List.setIfInBounds_toArray, List.set_cons_zero, List.set_cons_succ]
            refine wpAnyK_take 3 (v := ?_) rfl (by kernel_rfl) (by kernel_rfl) (by kernel_rfl) (fun _ _ _ h => h) (by rfl) (by intro W hSw; go_simp; with_reducible rfl) ?_; try simp only [Act.put, List.setIfInBounds_toArray, List.set_cons_zero, List.set_cons_succ]
            refine wpAnyK_take 4 (v := ?_) rfl (by kernel_rfl) (by kernel_rfl) (by kernel_rfl) (fun _ _ _ h => h) (by rfl) (by intro W hSw; go_simp; with_reducible rfl) ?_; try simp only [Act.put, List.setIfInBounds_toArray, List.set_cons_zero, List.set_cons_succ]
            refine wpAnyK_take 5 (v := ?_) rfl (by kernel_rfl) (by kernel_rfl) (by kernel_rfl) (fun _ _ _ h => h) (by rfl) (by intro W hSw; go_simp; with_reducible rfl) ?_; try simp only [Act.put, List.setIfInBounds_toArray, List.set_cons_zero, List.set_cons_succ]
            refine wpAnyK_one 6 (by kernel_rfl) rfl (fun K hK => ?_)
            go_simp
            refine hK.out _ _ (Later.refl _) ?_
            clear hK K; try simp only [Act.put, List.setIfInBounds_toArray, List.set_cons_zero, List.set_cons_succ]
            refine wpAnyK_take 7 (v := ?_) rfl (by kernel_rfl) (by kernel_rfl) (by kernel_rfl) (fun _ _ _ h => h) (by rfl) (by intro W hSw; go_simp; with_reducible rfl) ?_; try simp only [Act.put, List.setIfInBounds_toArray, List.set_cons_zero, List.set_cons_succ]
            refine wpAnyK_take 8 (v := ?_) rfl (by kernel_rfl) (by kernel_rfl) (by kernel_rfl) (fun _ _ _ h => h) (by rfl) (by intro W hSw; go_simp; with_reducible rfl) ?_; try simp only [Act.put, List.setIfInBounds_toArray, List.set_cons_zero, List.set_cons_succ]
            refine wpAnyK_take 9 (v := ?_) rfl (by kernel_rfl) (by kernel_rfl) (by kernel_rfl) (fun _ _ _ h => h) (by rfl) (by intro W hSw; go_simp; with_reducible rfl) ?_; try simp only [Act.put, List.setIfInBounds_toArray, List.set_cons_zero, List.set_cons_succ]
            refine wpAnyK_take 10 (v := ?_) rfl (by kernel_rfl) (by kernel_rfl) (by kernel_rfl) (fun _ _ _ h => h) (by rfl) (by intro W hSw; go_simp; with_reducible rfl) ?_; try simp only [Act.put, List.setIfInBounds_toArray, List.set_cons_zero, List.set_cons_succ]
            refine wpAnyK_take 11 (v := ?_) rfl (by kernel_rfl) (by kernel_rfl) (by kernel_rfl) (fun _ _ _ h => h) (by rfl) (by intro W hSw; go_simp; with_reducible rfl) ?_; try simp only [Act.put, List.setIfInBounds_toArray, List.set_cons_zero, List.set_cons_succ]
            refine wpAnyK_take 12 (v := ?_) rfl (by kernel_rfl) (by kernel_rfl) (by kernel_rfl) (fun _ _ _ h => h) (by rfl) (by intro W hSw; go_simp; with_reducible rfl) ?_; try simp only [Act.put, List.setIfInBounds_toArray, List.set_cons_zero, List.set_cons_succ]
            refine wpAnyK_take 13 (v := ?_) rfl (by kernel_rfl) (by kernel_rfl) (by kernel_rfl) (fun _ _ _ h => h) (by rfl) (by intro W hSw; go_simp; with_reducible rfl) ?_; try simp only [Act.put, List.setIfInBounds_toArray, List.set_cons_zero, List.set_cons_succ]
            refine wpAnyK_skip 14 rfl (by kernel_rfl) (by kernel_rfl) (by kernel_rfl) (fun _ _ _ h => h) (by rfl) ?_; try simp only [Act.put, List.setIfInBounds_toArray, List.set_cons_zero, List.set_cons_succ]
            refine wpAnyK_skip 15 rfl (by kernel_rfl) (by kernel_rfl) (by kernel_rfl) (fun _ _ _ h => h) (by rfl) ?_; try simp only [Act.put, List.setIfInBounds_toArray, List.set_cons_zero, List.set_cons_succ]
            refine wpAnyK_skip 16 rfl (by kernel_rfl) (by kernel_rfl) (by kernel_rfl) (fun _ _ _ h => h) (by rfl) ?_; try simp only [Act.put, List.setIfInBounds_toArray, List.set_cons_zero, List.set_cons_succ]
            refine wpAnyK_skip 17 rfl (by kernel_rfl) (by kernel_rfl) (by kernel_rfl) (fun _ _ _ h => h) (by rfl) ?_; try simp only [Act.put, List.setIfInBounds_toArray, List.set_cons_zero, List.set_cons_succ]
            refine wpAnyK_skip 18 rfl (by kernel_rfl) (by kernel_rfl) (by kernel_rfl) (fun _ _ _ h => h) (by rfl) ?_; try simp only [Act.put, List.setIfInBounds_toArray, List.set_cons_zero, List.set_cons_succ]
            refine wpAnyK_skip 19 rfl (by kernel_rfl) (by kernel_rfl) (by kernel_rfl) (fun _ _ _ h => h) (by rfl) ?_; try simp only [Act.put, List.setIfInBounds_toArray, List.set_cons_zero, List.set_cons_succ]
            refine wpAnyK_skip 20 rfl (by kernel_rfl) (by kernel_rfl) (by kernel_rfl) (fun _ _ _ h => h) (by rfl) ?_; try simp only [Act.put, List.setIfInBounds_toArray, List.set_cons_zero, List.set_cons_succ]
            refine wpAnyK_skip 21 rfl (by kernel_rfl) (by kernel_rfl) (by kernel_rfl) (fun _ _ _ h => h) (by rfl) ?_; try simp only [Act.put, List.setIfInBounds_toArray, List.set_cons_zero, List.set_cons_succ]
            refine wpAnyK_skip 22 rfl (by kernel_rfl) (by kernel_rfl) (by kernel_rfl) (fun _ _ _ h => h) (by rfl) ?_; try simp only [Act.put, List.setIfInBounds_toArray, List.set_cons_zero, List.set_cons_succ]
            refine wpAnyK_take 23 (v := ?_) rfl (by kernel_rfl) (by kernel_rfl) (by kernel_rfl) (fun _ _ _ h => h) (by rfl) (by intro W hSw; go_simp; with_reducible rfl) ?_; try simp only [Act.put, List.setIfInBounds_toArray, List.set_cons_zero, List.set_cons_succ]
            refine wpAnyK_take 24 (v := ?_) rfl (by kernel_rfl) (by kernel_rfl) (by kernel_rfl) (fun _ _ _ h => h) (by rfl) (by intro W hSw; go_simp; with_reducible rfl) ?_; try simp only [Act.put, List.setIfInBounds_toArray, List.set_cons_zero, List.set_cons_succ]
            refine wpAnyK_done (by kernel_rfl) ?_ _
            go_wp2_with fail
            go_roundw
            case rel => exact ⟨1, by omega, by go_num, HS2, HBA.out.drew⟩
            case measure => simp [intOf]; omega
          · obtain ⟨j, hj⟩ : ∃ j, k = j + 1 := ⟨k - 1, by omega⟩
            obtain ⟨y, hy⟩ : ∃ y, L[j]? = some y := ⟨_, List.getElem?_eq_getElem (by rw [HL.out]; omega)⟩
            obtain ⟨b', o', e', m0, m1⟩ := (HR.out.below HB.out).pair hy
            injection e' with e'; injection e' with e1 e2; subst e1; subst e2
            have m2 : W1.cell? ⟨b, o + j * 2, none⟩ = some (.string y.1) := by rw [← HW.out]; exact cell_stay m0 _
            clear m0 m1
            have HY := hide_ hy
            have p3 : (0 : Int) < (k : Int) := by omega
            have ew : IntKind.i64.wrap ((k : Int) - 1) = (j : Int) := by rw [show ((k : Int) - 1) = (j : Int) from by omega]; exact IntWalk.i64_in _ (by omega)
            have q4 : (0 : Int) ≤ (j : Int) := by omega
            have q5 : (j : Int) < (n : Int) := by omega
            have HJ := hide_ hj
            clear hy hj hk0
            by_cases a3 : y.1 < s.1
            · have HS2 := hide_ (sndT_next HS.out HX.out (by rw [← HNK.out]; omega) (by rw [← HNV.out]; omega) (fun i p h hp => by
                have e : i = j := by have := HJ.out; omega
                rw [e, HY.out] at hp; injection hp with hp; subst hp; exact a3))
              have h1 : Op.bytesLess s.1.toList y.1.toList = false := by rw [bl]; grind
              have h2 : (s.1.toList == y.1.toList) = false := by rw [beq_ba]; grind
              go_wp2_with (rw [HW.out])
              have z1 : ¬ (16 : Int) < (nk : Int) := by omega
              have z2 : ¬ (64 : Int) < (nv : Int) := by omega
              have z3 : 0 < k := by omega
              have lc0 := later_drew_cell d0
              have lc2 := later_drew_cell m2
              refine wp_region_k (by kernel_rfl) ?_
              refine wpAnyK_take 0 (v := ?_) rfl (by kernel_rfl) (by kernel_rfl) (by kernel_rfl) (fun _ _ _ h => h) (by rfl) (by intro W hSw; go_simp; with_reducible rfl) ?_; try simp only [Act.put, List.setIfInBounds_toArray, List.set_cons_zero, List.set_cons_succ]
              refine wpAnyK_take 1 (v := ?_) rfl (by kernel_rfl) (by kernel_rfl) (by kernel_rfl) (fun _ _ _ h => h) (by rfl) (by intro W hSw; go_simp; with_reducible rfl) ?_; try simp only [Act.put, List.setIfInBounds_toArray, List.set_cons_zero, List.set_cons_succ]
              refine wpAnyK_take 2 (v := ?_) rfl (by kernel_rfl) (by kernel_rfl) (by kernel_rfl) (fun _ _ _ h => h) (by rfl) (by intro W hSw; go_simp; with_reducible rfl) ?_; try simp only [Act.put, List.setIfInBounds_toArray, List.set_cons_zero, List.set_cons_succ]
              refine wpAnyK_take 3 (v := ?_) rfl (by kernel_rfl) (by kernel_rfl) (by kernel_rfl) (fun _ _ _ h => h) (by rfl) (by intro W hSw; go_simp; with_reducible rfl) ?_; try simp only [Act.put, List.setIfInBounds_toArray, List.set_cons_zero, List.set_cons_succ]
              refine wpAnyK_take 4 (v := ?_) rfl (by kernel_rfl) (by kernel_rfl) (by kernel_rfl) (fun _ _ _ h => h) (by rfl) (by intro W hSw; go_simp; with_reducible rfl) ?_; try simp only [Act.put, List.setIfInBounds_toArray, List.set_cons_zero, List.set_cons_succ]
              refine wpAnyK_take 5 (v := ?_) rfl (by kernel_rfl) (by kernel_rfl) (by kernel_rfl) (fun _ _ _ h => h) (by rfl) (by intro W hSw; go_simp; with_reducible rfl) ?_; try simp only [Act.put, List.setIfInBounds_toArray, List.set_cons_zero, List.set_cons_succ]
              refine wpAnyK_one 6 (by kernel_rfl) rfl (fun K hK => ?_)
              go_simp
              refine hK.out _ _ (Later.refl _) ?_
              clear hK K; try simp only [Act.put, List.setIfInBounds_toArray, List.set_cons_zero, List.set_cons_succ]
              refine wpAnyK_take 7 (v := ?_) rfl (by kernel_rfl) (by kernel_rfl) (by kernel_rfl) (fun _ _ _ h => h) (by rfl) (by intro W hSw; go_simp; with_reducible rfl) ?_; try simp only [Act.put, List.setIfInBounds_toArray, List.set_cons_zero, List.set_cons_succ]
              refine wpAnyK_take 8 (v := ?_) rfl (by kernel_rfl) (by kernel_rfl) (by kernel_rfl) (fun _ _ _ h => h) (by rfl) (by intro W hSw; go_simp; with_reducible rfl) ?_; try simp only [Act.put, List.setIfInBounds_toArray, List.set_cons_zero, List.set_cons_succ]
              refine wpAnyK_take 9 (v := ?_) rfl (by kernel_rfl) (by kernel_rfl) (by kernel_rfl) (fun _ _ _ h => h) (by rfl) (by intro W hSw; go_simp; with_reducible rfl) ?_; try simp only [Act.put, List.setIfInBounds_toArray, List.set_cons_zero, List.set_cons_succ]
              refine wpAnyK_take 10 (v := ?_) rfl (by kernel_rfl) (by kernel_rfl) (by kernel_rfl) (fun _ _ _ h => h) (by rfl) (by intro W hSw; go_simp; with_reducible rfl) ?_; try simp only [Act.put, List.setIfInBounds_toArray, List.set_cons_zero, List.set_cons_succ]
              refine wpAnyK_take 11 (v := ?_) rfl (by kernel_rfl) (by kernel_rfl) (by kernel_rfl) (fun _ _ _ h => h) (by rfl) (by intro W hSw; go_simp; with_reducible rfl) ?_; try simp only [Act.put, List.setIfInBounds_toArray, List.set_cons_zero, List.set_cons_succ]
              refine wpAnyK_take 12 (v := ?_) rfl (by kernel_rfl) (by kernel_rfl) (by kernel_rfl) (fun _ _ _ h => h) (by rfl) (by intro W hSw; go_simp; with_reducible rfl) ?_; try simp only [Act.put, List.setIfInBounds_toArray, List.set_cons_zero, List.set_cons_succ]
              refine wpAnyK_take 13 (v := ?_) rfl (by kernel_rfl) (by kernel_rfl) (by kernel_rfl) (fun _ _ _ h => h) (by rfl) (by intro W hSw; go_simp; with_reducible rfl) ?_; try simp only [Act.put, List.setIfInBounds_toArray, List.set_cons_zero, List.set_cons_succ]
              refine wpAnyK_take 14 (v := ?_) rfl (by kernel_rfl) (by kernel_rfl) (by kernel_rfl) (fun _ _ _ h => h) (by rfl) (by intro W hSw; go_simp; with_reducible rfl) ?_; try simp only [Act.put, List.setIfInBounds_toArray, List.set_cons_zero, List.set_cons_succ]
              refine wpAnyK_take 15 (v := ?_) rfl (by kernel_rfl) (by kernel_rfl) (by kernel_rfl) (fun _ _ _ h => h) (by rfl) (by intro W hSw; go_simp; with_reducible rfl) ?_; try simp only [Act.put, List.setIfInBounds_toArray, List.set_cons_zero, List.set_cons_succ]
              refine wpAnyK_take 16 (v := ?_) rfl (by kernel_rfl) (by kernel_rfl) (by kernel_rfl) (fun _ _ _ h => h) (by rfl) (by intro W hSw; go_simp; with_reducible rfl) ?_; try simp only [Act.put, List.setIfInBounds_toArray, List.set_cons_zero, List.set_cons_succ]
              refine wpAnyK_take 17 (v := ?_) rfl (by kernel_rfl) (by kernel_rfl) (by kernel_rfl) (fun _ _ _ h => h) (by rfl) (by intro W hSw; go_simp; with_reducible rfl) ?_; try simp only [Act.put, List.setIfInBounds_toArray, List.set_cons_zero, List.set_cons_succ]
              refine wpAnyK_take 18 (v := ?_) rfl (by kernel_rfl) (by kernel_rfl) (by kernel_rfl) (fun _ _ _ h => h) (by rfl) (by intro W hSw; go_simp; with_reducible rfl) ?_; try simp only [Act.put, List.setIfInBounds_toArray, List.set_cons_zero, List.set_cons_succ]
              refine wpAnyK_take 19 (v := ?_) rfl (by kernel_rfl) (by kernel_rfl) (by kernel_rfl) (fun _ _ _ h => h) (by rfl) (by intro W hSw; go_simp; with_reducible rfl) ?_; try simp only [Act.put, List.setIfInBounds_toArray, List.set_cons_zero, List.set_cons_succ]
              refine wpAnyK_take 20 (v := ?_) rfl (by kernel_rfl) (by kernel_rfl) (by kernel_rfl) (fun _ _ _ h => h) (by rfl) (by intro W hSw; go_simp; with_reducible rfl) ?_; try simp only [Act.put, List.setIfInBounds_toArray, List.set_cons_zero, List.set_cons_succ]
              refine wpAnyK_take 21 (v := ?_) rfl (by kernel_rfl) (by kernel_rfl) (by kernel_rfl) (fun _ _ _ h => h) (by rfl) (by intro W hSw; go_simp; with_reducible rfl) ?_; try simp only [Act.put, List.setIfInBounds_toArray, List.set_cons_zero, List.set_cons_succ]
              refine wpAnyK_take 22 (v := ?_) rfl (by kernel_rfl) (by kernel_rfl) (by kernel_rfl) (fun _ _ _ h => h) (by rfl) (by intro W hSw; go_simp; with_reducible rfl) ?_; try simp only [Act.put, List.setIfInBounds_toArray, List.set_cons_zero, List.set_cons_succ]
              refine wpAnyK_take 23 (v := ?_) rfl (by kernel_rfl) (by kernel_rfl) (by kernel_rfl) (fun _ _ _ h => h) (by rfl) (by intro W hSw; go_simp; with_reducible rfl) ?_; try simp only [Act.put, List.setIfInBounds_toArray, List.set_cons_zero, List.set_cons_succ]
              refine wpAnyK_take 24 (v := ?_) rfl (by kernel_rfl) (by kernel_rfl) (by kernel_rfl) (fun _ _ _ h => h) (by rfl) (by intro W hSw; go_simp; with_reducible rfl) ?_; try simp only [Act.put, List.setIfInBounds_toArray, List.set_cons_zero, List.set_cons_succ]
              refine wpAnyK_done (by kernel_rfl) ?_ _
              go_wp2_with fail
              go_roundw
              case rel => exact ⟨k + 1, by omega, by go_num, HS2, HBA.out.drew⟩
              case measure => simp [intOf]; omega
            · have HNO := hide_ (snd_no2 HY.out (by rw [← HJ.out]; exact HX.out) a3)
              have h1 : (Op.bytesLess s.1.toList y.1.toList || s.1.toList == y.1.toList) = true := by rw [ble]; grind
              go_wp2_with (rw [HW.out])
              have z1 : ¬ (16 : Int) < (nk : Int) := by omega
              have z2 : ¬ (64 : Int) < (nv : Int) := by omega
              have z3 : 0 < k := by omega
              have lc0 := later_drew_cell d0
              have lc2 := later_drew_cell m2
              refine wp_region_k (by kernel_rfl) ?_
              refine wpAnyK_take 0 (v := ?_) rfl (by kernel_rfl) (by kernel_rfl) (by kernel_rfl) (fun _ _ _ h => h) (by rfl) (by intro W hSw; go_simp; with_reducible rfl) ?_; try simp only [Act.put, List.setIfInBounds_toArray, List.set_cons_zero, List.set_cons_succ]
              refine wpAnyK_take 1 (v := ?_) rfl (by kernel_rfl) (by kernel_rfl) (by kernel_rfl) (fun _ _ _ h => h) (by rfl) (by intro W hSw; go_simp; with_reducible rfl) ?_; try simp only [Act.put, List.setIfInBounds_toArray, List.set_cons_zero, List.set_cons_succ]
              refine wpAnyK_take 2 (v := ?_) rfl (by kernel_rfl) (by kernel_rfl) (by kernel_rfl) (fun _ _ _ h => h) (by rfl) (by intro W hSw; go_simp; with_reducible rfl) ?_; try simp only [Act.put, List.setIfInBounds_toArray, List.set_cons_zero, List.set_cons_succ]
              refine wpAnyK_take 3 (v := ?_) rfl (by kernel_rfl) (by kernel_rfl) (by kernel_rfl) (fun _ _ _ h => h) (by rfl) (by intro W hSw; go_simp; with_reducible rfl) ?_; try simp only [Act.put, List.setIfInBounds_toArray, List.set_cons_zero, List.set_cons_succ]
              refine wpAnyK_take 4 (v := ?_) rfl (by kernel_rfl) (by kernel_rfl) (by kernel_rfl) (fun _ _ _ h => h) (by rfl) (by intro W hSw; go_simp; with_reducible rfl) ?_; try simp only [Act.put, List.setIfInBounds_toArray, List.set_cons_zero, List.set_cons_succ]
              refine wpAnyK_take 5 (v := ?_) rfl (by kernel_rfl) (by kernel_rfl) (by kernel_rfl) (fun _ _ _ h => h) (by rfl) (by intro W hSw; go_simp; with_reducible rfl) ?_; try simp only [Act.put, List.setIfInBounds_toArray, List.set_cons_zero, List.set_cons_succ]
              refine wpAnyK_one 6 (by kernel_rfl) rfl (fun K hK => ?_)
              go_simp
              refine hK.out _ _ (Later.refl _) ?_
              clear hK K; try simp only [Act.put, List.setIfInBounds_toArray, List.set_cons_zero, List.set_cons_succ]
              refine wpAnyK_take 7 (v := ?_) rfl (by kernel_rfl) (by kernel_rfl) (by kernel_rfl) (fun _ _ _ h => h) (by rfl) (by intro W hSw; go_simp; with_reducible rfl) ?_; try simp only [Act.put, List.setIfInBounds_toArray, List.set_cons_zero, List.set_cons_succ]
              refine wpAnyK_take 8 (v := ?_) rfl (by kernel_rfl) (by kernel_rfl) (by kernel_rfl) (fun _ _ _ h => h) (by rfl) (by intro W hSw; go_simp; with_reducible rfl) ?_; try simp only [Act.put, List.setIfInBounds_toArray, List.set_cons_zero, List.set_cons_succ]
              refine wpAnyK_take 9 (v := ?_) rfl (by kernel_rfl) (by kernel_rfl) (by kernel_rfl) (fun _ _ _ h => h) (by rfl) (by intro W hSw; go_simp; with_reducible rfl) ?_; try simp only [Act.put, List.setIfInBounds_toArray, List.set_cons_zero, List.set_cons_succ]
              refine wpAnyK_take 10 (v := ?_) rfl (by kernel_rfl) (by kernel_rfl) (by kernel_rfl) (fun _ _ _ h => h) (by rfl) (by intro W hSw; go_simp; with_reducible rfl) ?_; try simp only [Act.put, List.setIfInBounds_toArray, List.set_cons_zero, List.set_cons_succ]
              refine wpAnyK_take 11 (v := ?_) rfl (by kernel_rfl) (by kernel_rfl) (by kernel_rfl) (fun _ _ _ h => h) (by rfl) (by intro W hSw; go_simp; with_reducible rfl) ?_; try simp only [Act.put, List.setIfInBounds_toArray, List.set_cons_zero, List.set_cons_succ]
              refine wpAnyK_take 12 (v := ?_) rfl (by kernel_rfl) (by kernel_rfl) (by kernel_rfl) (fun _ _ _ h => h) (by rfl) (by intro W hSw; go_simp; with_reducible rfl) ?_; try simp only [Act.put, List.setIfInBounds_toArray, List.set_cons_zero, List.set_cons_succ]
              refine wpAnyK_take 13 (v := ?_) rfl (by kernel_rfl) (by kernel_rfl) (by kernel_rfl) (fun _ _ _ h => h) (by rfl) (by intro W hSw; go_simp; with_reducible rfl) ?_; try simp only [Act.put, List.setIfInBounds_toArray, List.set_cons_zero, List.set_cons_succ]
              refine wpAnyK_take 14 (v := ?_) rfl (by kernel_rfl) (by kernel_rfl) (by kernel_rfl) (fun _ _ _ h => h) (by rfl) (by intro W hSw; go_simp; with_reducible rfl) ?_; try simp only [Act.put, List.setIfInBounds_toArray, List.set_cons_zero, List.set_cons_succ]
              refine wpAnyK_take 15 (v := ?_) rfl (by kernel_rfl) (by kernel_rfl) (by kernel_rfl) (fun _ _ _ h => h) (by rfl) (by intro W hSw; go_simp; with_reducible rfl) ?_; try simp only [Act.put, List.setIfInBounds_toArray, List.set_cons_zero, List.set_cons_succ]
              refine wpAnyK_take 16 (v := ?_) rfl (by kernel_rfl) (by kernel_rfl) (by kernel_rfl) (fun _ _ _ h => h) (by rfl) (by intro W hSw; go_simp; with_reducible rfl) ?_; try simp only [Act.put, List.setIfInBounds_toArray, List.set_cons_zero, List.set_cons_succ]
              refine wpAnyK_take 17 (v := ?_) rfl (by kernel_rfl) (by kernel_rfl) (by kernel_rfl) (fun _ _ _ h => h) (by rfl) (by intro W hSw; go_simp; with_reducible rfl) ?_; try simp only [Act.put, List.setIfInBounds_toArray, List.set_cons_zero, List.set_cons_succ]
              refine wpAnyK_take 18 (v := ?_) rfl (by kernel_rfl) (by kernel_rfl) (by kernel_rfl) (fun _ _ _ h => h) (by rfl) (by intro W hSw; go_simp; with_reducible rfl) ?_; try simp only [Act.put, List.setIfInBounds_toArray, List.set_cons_zero, List.set_cons_succ]
              refine wpAnyK_take 19 (v := ?_) rfl (by kernel_rfl) (by kernel_rfl) (by kernel_rfl) (fun _ _ _ h => h) (by rfl) (by intro W hSw; go_simp; with_reducible rfl) ?_; try simp only [Act.put, List.setIfInBounds_toArray, List.set_cons_zero, List.set_cons_succ]
              refine wpAnyK_take 20 (v := ?_) rfl (by kernel_rfl) (by kernel_rfl) (by kernel_rfl) (fun _ _ _ h => h) (by rfl) (by intro W hSw; go_simp; with_reducible rfl) ?_; try simp only [Act.put, List.setIfInBounds_toArray, List.set_cons_zero, List.set_cons_succ]
              refine wpAnyK_take 21 (v := ?_) rfl (by kernel_rfl) (by kernel_rfl) (by kernel_rfl) (fun _ _ _ h => h) (by rfl) (by intro W hSw; go_simp; with_reducible rfl) ?_; try simp only [Act.put, List.setIfInBounds_toArray, List.set_cons_zero, List.set_cons_succ]
              refine wpAnyK_take 22 (v := ?_) rfl (by kernel_rfl) (by kernel_rfl) (by kernel_rfl) (fun _ _ _ h => h) (by rfl) (by intro W hSw; go_simp; with_reducible rfl) ?_; try simp only [Act.put, List.setIfInBounds_toArray, List.set_cons_zero, List.set_cons_succ]
              refine wpAnyK_take 23 (v := ?_) rfl (by kernel_rfl) (by kernel_rfl) (by kernel_rfl) (fun _ _ _ h => h) (by rfl) (by intro W hSw; go_simp; with_reducible rfl) ?_; try simp only [Act.put, List.setIfInBounds_toArray, List.set_cons_zero, List.set_cons_succ]
              refine wpAnyK_take 24 (v := ?_) rfl (by kernel_rfl) (by kernel_rfl) (by kernel_rfl) (fun _ _ _ h => h) (by rfl) (by intro W hSw; go_simp; with_reducible rfl) ?_; try simp only [Act.put, List.setIfInBounds_toArray, List.set_cons_zero, List.set_cons_succ]
              refine wpAnyK_done (by kernel_rfl) ?_ _
              go_wp2_with fail
              go_ret
              exact ⟨⟨false, rfl, ⟨fun h => (by cases h), fun h => absurd h HNO.out⟩⟩, HBA.out.drew⟩
    · have q1 : ¬ (k : Int) < (n : Int) := by omega
      obtain rfl : k = n := by omega
      have HE := hide_ (sndT_end (by rw [HL.out]; exact HS.out))
      go_wp2_with fail
      go_ret
      exact ⟨⟨true, rfl, ⟨fun _ => HE.out, fun _ => rfl⟩⟩, HB.out⟩

end Go.Proofs.Ytblljpdlmllceaa
/-
  The document's Check, All, Sound.
-/
namespace Go.Proofs.Ytblljpdlmllceaa
open Go.RowKit
set_option linter.unusedVariables false
set_option linter.unusedSimpArgs false
set_option maxHeartbeats 1000000 in
theorem rcheck_any (kind : Int) (k v : ByteArray) (w : World) : Calls Try.prog 19 #[.agg #[.int .i64 kind, .string k, .string v]] w fun e w' => e = .returned (.int .i64 (chk kind k v)) ∧ Later w w' := by
  obtain ⟨W0, hW0⟩ : ∃ W0, W0 = w.alloc (.cells #[.int .i64 kind, .string k, .string v] 32) := ⟨_, rfl⟩
  have hbx : W0.heap[w.heap.size]? = some (.cells #[.int .i64 kind, .string k, .string v] 32 (0, 0)) := by rw [hW0]; exact heap_alloc_new w _
  have HB0 := hide_ (show Later w W0 by rw [hW0]; exact (Below.refl _ _).alloc (Nat.le_refl _) _)
  have c0 : W0.cell? ⟨w.heap.size, 0, none⟩ = some (.int .i64 kind) := cell_of_row _ _ 0 _ _ (0, 0) hbx
  have c1 : W0.cell? ⟨w.heap.size, 1, none⟩ = some (.string k) := cell_of_row _ _ 1 _ _ (0, 0) hbx
  have c2 : W0.cell? ⟨w.heap.size, 2, none⟩ = some (.string v) := cell_of_row _ _ 2 _ _ (0, 0) hbx
  have HW := hide_ hW0.symm
  clear hW0 hbx
  obtain ⟨nv, hnv⟩ : ∃ nv, nv = v.size := ⟨_, rfl⟩
  obtain ⟨nk, hnk⟩ : ∃ nk, nk = k.size := ⟨_, rfl⟩
  have HNV := hide_ hnv; have HNK := hide_ hnk
  have s1 := hnv.symm; have s2 := hnk.symm
  clear hnv hnk
  go_enter Try.func19, Try.ntmps19
  go_wp2_with (rw [HW.out])
  go_quiet (fail)
  have HL := hide_ (below_drewN HB0.out nq)
  obtain ⟨W1, hW1⟩ : ∃ W1, W1 = W0.drewN nq := ⟨_, rfl⟩
  have d0 : W1.cell? ⟨w.heap.size, 0, none⟩ = some (.int .i64 kind) := by rw [hW1]; exact c0
  have d1 : W1.cell? ⟨w.heap.size, 1, none⟩ = some (.string k) := by rw [hW1]; exact c1
  have d2 : W1.cell? ⟨w.heap.size, 2, none⟩ = some (.string v) := by rw [hW1]; exact c2
  rw [← hW1] at HL
  rw [← hW1]
  clear hW1 c0 c1 c2
  by_cases e3 : kind = 3
  · subst e3
    by_cases a2 : 17 < nk
    · have p2 : (17 : Int) < (nk : Int) := by omega
      go_wp2_with fail
      go_ret
      exact ⟨congrArg (fun r => Ending.returned (.int .i64 r)) (by unfold chk; rw [← HNV.out, ← HNK.out]; simp [*]), HL.out⟩
    · have p2 : ¬ (17 : Int) < (nk : Int) := by omega
      by_cases a1 : 17 < nv
      · have p1 : (17 : Int) < (nv : Int) := by omega
        go_wp2_with fail
        go_ret
        exact ⟨congrArg (fun r => Ending.returned (.int .i64 r)) (by unfold chk; rw [← HNV.out, ← HNK.out]; simp [*]), HL.out⟩
      · have p1 : ¬ (17 : Int) < (nv : Int) := by omega
        by_cases a3 : v < k
        · have h1 : Op.bytesLess k.toList v.toList = false := by rw [bl]; simp; grind
          have h2 : (k.toList == v.toList) = false := by rw [beq_ba]; simp; grind
          go_wp2_with fail
          go_ret
          exact ⟨congrArg (fun r => Ending.returned (.int .i64 r)) (by unfold chk; rw [← HNV.out, ← HNK.out]; simp [*]), HL.out⟩
        · by_cases a4 : k < v
          · have h1 : Op.bytesLess k.toList v.toList = true := by rw [bl]; grind
            go_wp2_with fail
            go_ret
            exact ⟨congrArg (fun r => Ending.returned (.int .i64 r)) (by unfold chk; rw [← HNV.out, ← HNK.out]; simp [*]), HL.out⟩
          · have h1 : Op.bytesLess k.toList v.toList = false := by rw [bl]; grind
            have h2 : (k.toList == v.toList) = true := by rw [beq_ba]; grind
            go_wp2_with fail
            go_ret
            exact ⟨congrArg (fun r => Ending.returned (.int .i64 r)) (by unfold chk; rw [← HNV.out, ← HNK.out]; simp [*]), HL.out⟩
  · have e3' : ¬ (3 : Int) = kind := fun h => e3 h.symm
    by_cases e2 : kind = 2
    · subst e2
      by_cases a2 : 16 < nk
      · have p2 : (16 : Int) < (nk : Int) := by omega
        go_wp2_with fail
        go_ret
        exact ⟨congrArg (fun r => Ending.returned (.int .i64 r)) (by unfold chk; rw [← HNV.out, ← HNK.out]; simp [*]), HL.out⟩
      · have p2 : ¬ (16 : Int) < (nk : Int) := by omega
        by_cases a1 : 0 < nv
        · have p1 : (0 : Int) < (nv : Int) := by omega
          go_wp2_with fail
          go_ret
          exact ⟨congrArg (fun r => Ending.returned (.int .i64 r)) (by unfold chk; rw [← HNV.out, ← HNK.out]; simp [*]), HL.out⟩
        · have p1 : ¬ (0 : Int) < (nv : Int) := by omega
          go_wp2_with fail
          go_ret
          exact ⟨congrArg (fun r => Ending.returned (.int .i64 r)) (by unfold chk; rw [← HNV.out, ← HNK.out]; simp [*]), HL.out⟩
    · by_cases e1 : kind = 1
      · subst e1
        by_cases a2 : 16 < nk
        · have p2 : (16 : Int) < (nk : Int) := by omega
          go_wp2_with fail
          go_ret
          exact ⟨congrArg (fun r => Ending.returned (.int .i64 r)) (by unfold chk; rw [← HNV.out, ← HNK.out]; simp [*]), HL.out⟩
        · have p2 : ¬ (16 : Int) < (nk : Int) := by omega
          by_cases a1 : 64 < nv
          · have p1 : (64 : Int) < (nv : Int) := by omega
            go_wp2_with fail
            go_ret
            exact ⟨congrArg (fun r => Ending.returned (.int .i64 r)) (by unfold chk; rw [← HNV.out, ← HNK.out]; simp [*]), HL.out⟩
          · have p1 : ¬ (64 : Int) < (nv : Int) := by omega
            go_wp2_with fail
            go_ret
            exact ⟨congrArg (fun r => Ending.returned (.int .i64 r)) (by unfold chk; rw [← HNV.out, ← HNK.out]; simp [*]), HL.out⟩
      · have e2' : ¬ (2 : Int) = kind := fun h => e2 h.symm
        have e1' : ¬ (1 : Int) = kind := fun h => e1 h.symm
        go_wp2_with fail
        go_ret
        exact ⟨congrArg (fun r => Ending.returned (.int .i64 r)) (by unfold chk; rw [← HNV.out, ← HNK.out]; simp [*]), HL.out⟩
end Go.Proofs.Ytblljpdlmllceaa
/-
  The document's All.
-/
namespace Go.Proofs.Ytblljpdlmllceaa
open Go.RowKit
set_option linter.unusedVariables false
set_option linter.unusedSimpArgs false
set_option maxHeartbeats 1000000 in
theorem rall_any {w : World} {A : Option Addr} {n c : Nat} {L : List Chg} (hr : Rd w 3 A n (crow L)) (hl : L.length = n) (hn : n ≤ 4398046511104) : Calls Try.prog 22 #[.slice A n c] w fun e w' => e = .returned (.int .i64 (chkAll L)) ∧ Later w w' := by
  have HR := hide_ hr; have HL := hide_ hl
  have hn2 : (n : Int) ≤ 4398046511104 := by omega
  clear hr hl
  go_enter Try.func22, Try.ntmps22
  go_wp2_with fail
  go_loopw [3, 4] (fun s8 _ wr => ∃ k : Nat, k ≤ n ∧ s8 = .int .i64 k ∧ Hid (chkAll L = chkAll (L.drop k)) ∧ Hid (Later w wr)) (fun i _ _ => n - (intOf i).toNat)
  case atStart => exact ⟨0, Nat.zero_le _, rfl, hide_ rfl, Later.refl w⟩
  case round =>
    obtain ⟨k, hkn, rfl, HC, HB⟩ := hrel
    by_cases hlt : k < n
    · obtain ⟨s, hs⟩ : ∃ s, L[k]? = some s := ⟨_, List.getElem?_eq_getElem (by rw [HL.out]; exact hlt)⟩
      obtain ⟨b, o, rfl, l0, l1, l2⟩ := (HR.out.below HB.out).chg hs
      have q1 : (k : Int) < (n : Int) := by omega
      have q2 : (0 : Int) ≤ (k : Int) := by omega
      have q3 : (k : Int) ≤ 4398046511104 := by omega
      have HN := hide_ (chkAll_next hs)
      have hc := hide_ (rcheck_any s.1 s.2.1 s.2.2)
      clear hs
      by_cases h0 : chk s.1 s.2.1 s.2.2 = 0
      · go_wp2_with fail
        refine (hc.out _).mono ?_; rintro e w2 ⟨rfl, hb2⟩
        rw [h0]
        have HB2 := hide_ (Later.trans HB.out hb2)
        clear hb2
        go_wp2_with fail
        go_roundw
        case rel => exact ⟨k + 1, by omega, by go_num, hide_ (by rw [HC.out, HN.out, if_pos h0]), HB2.out⟩
        case measure => simp [intOf]; omega
      · have h0' : ¬ (0 : Int) = chk s.1 s.2.1 s.2.2 := fun h => h0 h.symm
        go_wp2_with fail
        refine (hc.out _).mono ?_; rintro e w2 ⟨rfl, hb2⟩
        have HB2 := hide_ (Later.trans HB.out hb2)
        clear hb2
        go_wp2_with fail
        go_ret
        exact ⟨by rw [HC.out, HN.out, if_neg h0]; rfl, HB2.out⟩
    · have q1 : ¬ (k : Int) < (n : Int) := by omega
      obtain rfl : k = n := by omega
      go_wp2_with fail
      go_ret
      exact ⟨by rw [HC.out, ← HL.out, chkAll_end]; rfl, HB.out⟩
end Go.Proofs.Ytblljpdlmllceaa
