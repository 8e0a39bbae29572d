/-
  slices.Insert of one mark.
-/
import Derived.Test.YtidlkomgondkiaaKMarkMem
import Derived.Test.YtidlkomgondkiaaKCopy
import Derived.Test.YtidlkomgondkiaaG3
import Derived.IntWalk
namespace Go.Proofs.Ytidlkomgondkiaa
open Go.RowKit
set_option linter.unusedVariables false
set_option linter.unusedSimpArgs false
theorem own_cases {w : World} {base n size c : Nat} {e : TypeId} {A : Option Addr} {xs : List Value} (h : w.ownsRow base e size (.slice A n c) n xs) : (A = none ∧ n = 0 ∧ c = 0 ∧ xs = []) ∨ ∃ g, A = some ⟨g, 0, none⟩ := by
  rcases h.2 with ⟨hv, h0⟩ | ⟨g, cap, cur, hv, _⟩
  · injection hv with h1 h2 h3
    exact .inl ⟨h1, h2, h3, List.eq_nil_of_length_eq_zero (by rw [h.1, h0, Nat.zero_mul])⟩
  · injection hv with h1
    exact .inr ⟨g, h1⟩
theorem markSize : (Try.prog.info? 91).map (·.size) = some 3 := by kernel_rfl
set_option maxHeartbeats 2000000 in
/-- At the end. -/
theorem minsert_end {w : World} {B n c vb : Nat} {A : Option Addr} {L : List Mk} (x : Mk) (ho : w.ownsRow B 91 3 (.slice A n c) n (mrow L)) (hl : L.length = n) (hv : w.heap[vb]? = some (.cells #[.string x.1.1, .string x.1.2, .int .i64 x.2] 91 (0, 0))) (hn : n ≤ 2199023255552) (hBw : B ≤ w.heap.size) :
    Calls Try.prog 59 #[.slice A n c, .int .i64 (n : Int), .slice (some ⟨vb, 0, none⟩) 1 1] w fun e w' =>
      (∃ v, e = .returned v ∧ w'.ownsRow B 91 3 v (n + 1) (mrow (L ++ [x]))) ∧ Below B w w' ∧ w.grownBy w' (Value.slice A n c).ownBlock := by
  have hcap := own_cap ho
  have q1 : (0 : Int) ≤ (n : Int) := by omega
  have q2 : (n : Int) ≤ (c : Int) := by omega
  have hRv := hide_ (show Rd w 3 (some ⟨vb, 0, none⟩) 1 (encM x) from ⟨rfl, fun _ => ⟨vb, 0, rfl, fun j u hu => by rw [Nat.zero_add, cell_of_row _ _ j _ _ (0, 0) hv]; simpa [encM] using hu⟩⟩)
  have hcs := own_cases ho
  have HO := hide_ ho
  have HL := hide_ hl
  clear ho hv hl
  rcases hcs with ⟨rfl, rfl, rfl, _⟩ | ⟨g, rfl⟩
  · go_enter Try.func59, Try.ntmps59
    go_wp2_with (at_builtin; (refine wpList_append_rd _ rfl (.tmp 23) (.tmp 24) 75 rfl B 91 3 40 markT _ 0 (mrow L) rfl HO.out _ 1 _ (encM x) rfl hRv.out (encM_one x) (by omega) (by unfold maxLen; omega) hBw (fun h => nomatch h) ?_; intro v2 w2 ho2 hg2 hat2; have HO2 := hide_ ho2; have HB2 := hide_ (own_grown (Below.refl B w) HO.out hg2 hBw); have HG2 := hide_ hg2; clear ho2 hg2 hat2))
    go_ret
    exact ⟨⟨_, rfl, by have := HO2.out; simpa [mrow] using this⟩, HB2.out, HG2.out⟩
  · by_cases hce : c = n
    all_goals
      go_enter Try.func59, Try.ntmps59
      go_wp2_with (at_builtin; (refine wpList_append_rd _ rfl (.tmp 23) (.tmp 24) 75 rfl B 91 3 40 markT _ n (mrow L) rfl HO.out _ 1 _ (encM x) rfl hRv.out (encM_one x) (by omega) (by unfold maxLen; omega) hBw (fun h => nomatch h) ?_; intro v2 w2 ho2 hg2 hat2; have HO2 := hide_ ho2; have HB2 := hide_ (own_grown (Below.refl B w) HO.out hg2 hBw); have HG2 := hide_ hg2; clear ho2 hg2 hat2))
      go_ret
      exact ⟨⟨_, rfl, by have := HO2.out; simpa [mrow] using this⟩, HB2.out, HG2.out⟩
set_option maxHeartbeats 2000000 in
/-- In its room. -/
theorem minsert_room {w : World} {B n c vb g i : Nat} {L : List Mk} (x : Mk) (ho : w.ownsRow B 91 3 (.slice (some ⟨g, 0, none⟩) n c) n (mrow L)) (hl : L.length = n) (hi : i < n) (hroom : n + 1 ≤ c) (hv : w.heap[vb]? = some (.cells #[.string x.1.1, .string x.1.2, .int .i64 x.2] 91 (0, 0))) (hvg : vb ≠ g) (hn : n ≤ 2199023255552) :
    Calls Try.prog 59 #[.slice (some ⟨g, 0, none⟩) n c, .int .i64 (i : Int), .slice (some ⟨vb, 0, none⟩) 1 1] w fun e w' =>
      (∃ v, e = .returned v ∧ w'.ownsRow B 91 3 v (n + 1) (mrow (L.take i ++ [x] ++ L.drop i))) ∧ Below B w w' ∧ w.grownBy w' (some g) := by
  obtain ⟨cur, hgB, hg, hnc, hcm, hcs, htk⟩ := own_row ho
  have q1 : (0 : Int) ≤ (i : Int) := by omega
  have q2 : (i : Int) ≤ (n : Int) := by omega
  have q3 : (n : Int) + 1 ≤ (c : Int) := by omega
  have q4 : (i : Int) ≤ (c : Int) := by omega
  have q5 : ((i : Int) == (n : Int)) = false := by rw [beq_eq_false_iff_ne]; omega
  have q6 : ¬ c = i := by omega
  have q7 : ¬ c = i + 1 := by omega
  have q8 : i ≤ n := by omega
  have q9 : i ≤ c := by omega
  have q10 : n + 1 ≤ c := hroom
  have q11 : ¬ (c : Int) < (n : Int) + 1 := by omega
  have q12 : (i : Int) + 1 ≤ (n : Int) + 1 := by omega
  have q13 : (n : Int) ≤ 2199023255552 := by omega
  have q14 : (i : Int) ≤ 2199023255552 := by omega
  have hov : ∀ o lb cb, (callFunc 72 #[.slice (some ⟨vb, 0, none⟩) 1 1, .slice (some ⟨g, o, none⟩) lb cb]).run Try.prog w = .ok (.value (.bool false)) w := fun o lb cb => by
    rw [run_callFunc_extern Try.func72 (by kernel_rfl) (by kernel_rfl) (by kernel_rfl) (e := Extern.SlicesOverlaps.overlaps #[75, 75] #[4]) (by kernel_rfl),
      Lib.run_overlaps_apart w 75 4 91 Try.underlying75 3 Try.sizeOf91 ⟨vb, 0, none⟩ ⟨g, o, none⟩ 1 1 lb cb hvg 91 91 3 cur.size (by simp [World.shape?, hv]) (by simp [World.shape?, hg]) (by rw [hcs]; omega) (frozen_of_row _ _ 0 _ _ hv) (frozen_of_row _ _ 3 _ _ hv)]
    rfl
  have HC := hide_ hcs; have HT := hide_ htk; have HO := hide_ ho; have HM := hide_ hcm; have HL := hide_ hl; have HG := hide_ hg; have HV := hide_ hv
  clear hcs htk ho hcm hnc hl hg hv
  go_enter Try.func59, Try.ntmps59
  go_wp2_with (simp only [hov])
  have hdl : (mrow (L.drop i)).length = (n - i) * 3 := by rw [mrow_len, List.length_drop, HL.out]
  have hcl := HC.out
  obtain ⟨X1, hX1⟩ : ∃ X1, X1 = (cur.toList.take ((i + 1) * 3) ++ mrow (L.drop i) ++ cur.toList.drop ((i + 1) * 3 + (mrow (L.drop i)).length)).toArray := ⟨_, rfl⟩
  have hcp1 : ∀ ty dc sc, (Builtin.copy_ #[75, 75] ty #[.slice (some ⟨g, (i + 1) * 3, none⟩) (n - i) dc, .slice (some ⟨g, i * 3, none⟩) (n + 1 - i) sc]).run Try.prog w.drew = .ok (goInt ((n - i : Nat) : Int)) (w.drew.setRow g X1) := fun ty dc sc => by
    rw [hX1]
    refine run_copy_rowk w.drew _ _ ty 91 3 g ((i + 1) * 3) (n - i) dc ⟨g, i * 3, none⟩ (n + 1 - i) sc cur 91 (mrow (L.drop i)) (n - i) Try.underlying75 markSize HG.out (by simp only [Nat.min_def]; split <;> omega) hdl (fun j v hj => ?_) (by omega) (mrow_one _)
    rw [add_plain]
    have h1 : (mrow L)[i * 3 + j]? = some v := by
      have e : (mrow L).drop (i * 3) = mrow (L.drop i) := rec_drop encM_len L i
      rw [← e, List.getElem?_drop] at hj; exact hj
    exact (HO.out.cellAt (i * 3 + j) (by have := (List.getElem?_eq_some_iff.1 h1).1; rw [mrow_len, HL.out] at this; omega)).trans h1
  have hx1l : X1.size = c * 3 := by rw [hX1, List.size_toArray]; simp only [List.length_append, List.length_take, List.length_drop, Array.length_toList, hcl, hdl]; omega
  obtain ⟨W1, hW1⟩ : ∃ W1, W1 = w.drew.setRow g X1 := ⟨_, rfl⟩
  have hg1 : W1.heap[g]? = some (.cells X1 91 (0, 0)) := by rw [hW1]; exact setRow_heap w.drew _ _ _ _ _ HG.out
  have hv1 : W1.heap[vb]? = some (.cells #[.string x.1.1, .string x.1.2, .int .i64 x.2] 91 (0, 0)) := by rw [hW1, setRow_other _ _ _ _ hvg]; exact HV.out
  obtain ⟨X2, hX2⟩ : ∃ X2, X2 = (X1.toList.take (i * 3) ++ encM x ++ X1.toList.drop (i * 3 + (encM x).length)).toArray := ⟨_, rfl⟩
  have hcp2 : ∀ ty dc, (Builtin.copy_ #[75, 75] ty #[.slice (some ⟨g, i * 3, none⟩) (n + 1 - i) dc, .slice (some ⟨vb, 0, none⟩) 1 1]).run Try.prog W1 = .ok (goInt 1) (W1.setRow g X2) := fun ty dc => by
    rw [hX2]
    refine run_copy_rowk W1 _ _ ty 91 3 g (i * 3) (n + 1 - i) dc ⟨vb, 0, none⟩ 1 1 X1 91 (encM x) 1 Try.underlying75 markSize hg1 (by simp only [Nat.min_def]; split <;> omega) rfl (fun j v hj => ?_) (by rw [hx1l]; simp [encM]; omega) (encM_one x)
    rw [add_plain, Nat.zero_add, cell_of_row _ _ j _ _ (0, 0) hv1]
    simpa [encM] using hj
  rw [← hW1] at hcp1
  have HX1 := hide_ hX1; have HX2 := hide_ hX2; have HXL := hide_ hx1l; have HG1 := hide_ hg1; have HW1 := hide_ hW1; have HDL := hide_ hdl
  have kw : IntKind.i64.wrap ((i : Int) + 1) = (i : Int) + 1 := IntWalk.i64_in _ (by omega)
  have k1 : (0 : Int) ≤ (i : Int) + 1 := by omega
  have k2 : ((i : Int) + 1).toNat = i + 1 := by omega
  have k3 : (i : Int) ≤ (n : Int) + 1 := by omega
  have k4 : i ≤ n + 1 := by omega
  have k5 : (n : Int) + 1 ≤ (c : Int) := by omega
  clear hX1 hX2 hx1l hg1 hv1 hW1 hdl hcl hov
  refine wp_region_t (by kernel_rfl) ?_
  refine wpAnyT_take 0 (v := ?_) rfl (by kernel_rfl) (by kernel_rfl) (by kernel_rfl) (fun _ _ _ h => h) (by rfl) (by intro W hSw; go_simp; with_reducible rfl) ?_; try simp only [Act.put, List.setIfInBounds_toArray, List.set_cons_zero, List.set_cons_succ]
  refine wpAnyT_take 1 (v := ?_) rfl (by kernel_rfl) (by kernel_rfl) (by kernel_rfl) (fun _ _ _ h => h) (by rfl) (by intro W hSw; go_simp; with_reducible rfl) ?_; try simp only [Act.put, List.setIfInBounds_toArray, List.set_cons_zero, List.set_cons_succ]
  refine wpAnyT_take 2 (v := ?_) rfl (by kernel_rfl) (by kernel_rfl) (by kernel_rfl) (fun _ _ _ h => h) (by rfl) (by intro W hSw; go_simp; with_reducible rfl) ?_; try simp only [Act.put, List.setIfInBounds_toArray, List.set_cons_zero, List.set_cons_succ]
  refine wpAnyT_take 3 (v := ?_) rfl (by kernel_rfl) (by kernel_rfl) (by kernel_rfl) (fun _ _ _ h => h) (by rfl) (by intro W hSw; go_simp; with_reducible rfl) ?_; try simp only [Act.put, List.setIfInBounds_toArray, List.set_cons_zero, List.set_cons_succ]
  refine wpAnyT_take 4 (v := ?_) rfl (by kernel_rfl) (by kernel_rfl) (by kernel_rfl) (fun _ _ _ h => h) (by rfl) (by intro W hSw; go_simp; with_reducible rfl) ?_; try simp only [Act.put, List.setIfInBounds_toArray, List.set_cons_zero, List.set_cons_succ]
  refine wpAnyT_take 5 (v := ?_) rfl (by kernel_rfl) (by kernel_rfl) (by kernel_rfl) (fun _ _ _ h => h) (by rfl) (by intro W hSw; go_simp; with_reducible rfl) ?_; try simp only [Act.put, List.setIfInBounds_toArray, List.set_cons_zero, List.set_cons_succ]
  refine wpAnyT_take 6 (v := ?_) rfl (by kernel_rfl) (by kernel_rfl) (by kernel_rfl) (fun _ _ _ h => h) (by rfl) (by intro W hSw; go_simp; with_reducible rfl) ?_; try simp only [Act.put, List.setIfInBounds_toArray, List.set_cons_zero, List.set_cons_succ]
  refine wpAnyT_take 7 (v := ?_) rfl (by kernel_rfl) (by kernel_rfl) (by kernel_rfl) (fun _ _ _ h => h) (by rfl) (by intro W hSw; go_simp; with_reducible rfl) ?_; try simp only [Act.put, List.setIfInBounds_toArray, List.set_cons_zero, List.set_cons_succ]
  refine wpAnyT_one 8 (by kernel_rfl) rfl (fun K hK => ?_)
  go_simp
  refine hK.out _ _ trivial ?_
  clear hK K; try simp only [Act.put, List.setIfInBounds_toArray, List.set_cons_zero, List.set_cons_succ]
  refine wpAnyT_done (by kernel_rfl) ?_ _
  clear kw k2
  go_wp2_with fail
  go_ret
  have hl2 : X2.size = c * 3 := by rw [HX2.out, List.size_toArray]; simp only [List.length_append, List.length_take, List.length_drop, Array.length_toList, HXL.out, encM, List.length_cons, List.length_nil]; omega
  have e1 : mrow (L.take i ++ [x] ++ L.drop i) = (mrow L).take (i * 3) ++ encM x ++ mrow (L.drop i) := by
    have h1 : (mrow L).take (i * 3) = mrow (L.take i) := rec_take encM_len L i
    rw [h1]; simp [mrow]
  have hX1t : X1.toList = cur.toList.take ((i + 1) * 3) ++ mrow (L.drop i) ++ cur.toList.drop ((i + 1) * 3 + (mrow (L.drop i)).length) := by rw [HX1.out]
  have hX2t : X2.toList = X1.toList.take (i * 3) ++ encM x ++ X1.toList.drop (i * 3 + (encM x).length) := by rw [HX2.out]
  have hcl := HC.out
  have hdl := HDL.out
  have ht : X2.toList.take ((n + 1) * 3) = mrow (L.take i ++ [x] ++ L.drop i) := by
    have a1 : X1.toList.take (i * 3) = (mrow L).take (i * 3) := by
      rw [hX1t, List.append_assoc, List.take_append_of_le_length (by rw [List.length_take, Array.length_toList, hcl]; omega), List.take_take, ← HT.out, List.take_take]
      congr 1; omega
    have a2 : X1.toList.drop (i * 3 + (encM x).length) = mrow (L.drop i) ++ cur.toList.drop ((i + 1) * 3 + (mrow (L.drop i)).length) := by
      rw [hX1t, List.append_assoc, List.drop_left' (by rw [List.length_take, Array.length_toList, hcl]; simp [encM]; omega)]
    rw [hX2t, a1, a2, e1, ← List.append_assoc, List.take_left' (by simp only [List.length_append, List.length_take, mrow_len, HL.out, List.length_drop, encM, List.length_cons, List.length_nil]; omega)]
  have hw : (W1.setRow g X2).heap[g]? = some (.cells X2 91 (0, 0)) := setRow_heap W1 _ _ _ _ _ HG1.out
  refine ⟨⟨_, rfl, ⟨by rw [mrow_len]; simp [HL.out]; omega, .inr ⟨g, c, X2, rfl, hgB, hw, by omega, HM.out, hl2, ht⟩⟩⟩, ?_⟩
  rw [HW1.out]
  exact ⟨below_setRow (below_setRow (Below.refl _ _).drew hgB _) hgB _, grown_setRow (grown_setRow (grown_drew (World.grownBy.refl w _)) (.inl rfl) _) (.inl rfl) _⟩
set_option maxHeartbeats 2000000 in
/-- Without room. -/
theorem minsert_grow {w : World} {B n c vb g i : Nat} {L : List Mk} (x : Mk) (ho : w.ownsRow B 91 3 (.slice (some ⟨g, 0, none⟩) n c) n (mrow L)) (hl : L.length = n) (hi : i < n) (hroom : c < n + 1) (hv : w.heap[vb]? = some (.cells #[.string x.1.1, .string x.1.2, .int .i64 x.2] 91 (0, 0))) (hn : n ≤ 2199023255552) (hBw : B ≤ w.heap.size) :
    Calls Try.prog 59 #[.slice (some ⟨g, 0, none⟩) n c, .int .i64 (i : Int), .slice (some ⟨vb, 0, none⟩) 1 1] w fun e w' =>
      (∃ v, e = .returned v ∧ w'.ownsRow B 91 3 v (n + 1) (mrow (L.take i ++ [x] ++ L.drop i))) ∧ Below B w w' ∧ w.grownBy w' (some g) := by
  obtain ⟨cur, hgB, hg, hnc, hcm, hcs, htk⟩ := own_row ho
  have hglt := heap_lt0 hg
  have hvlt := heap_lt0 hv
  have q1 : (0 : Int) ≤ (i : Int) := by omega
  have q2 : (i : Int) ≤ (n : Int) := by omega
  have q4 : (i : Int) ≤ (c : Int) := by omega
  have q5 : ((i : Int) == (n : Int)) = false := by rw [beq_eq_false_iff_ne]; omega
  have q6 : ¬ c = i := by omega
  have q8 : i ≤ n := by omega
  have q9 : i ≤ c := by omega
  have q11 : (c : Int) < (n : Int) + 1 := by omega
  have q12 : (i : Int) + 1 ≤ (n : Int) + 1 := by omega
  have q13 : (n : Int) ≤ 2199023255552 := by omega
  have q14 : (i : Int) ≤ 2199023255552 := by omega
  have qc : (n : Int) ≤ (c : Int) := by omega
  obtain ⟨i0, hi0, hz0, hzs, hzb⟩ := info_parts (show (Try.prog.info? 91).map (fun i => (i.zero, i.size, i.bytes)) = some (some (.agg #[.string ByteArray.empty, .string ByteArray.empty, .int .i64 0]), 3, 40) by kernel_rfl)
  obtain ⟨G, hG⟩ : ∃ G, G = grownCap w (n + 1) c 91 := ⟨_, rfl⟩
  have hG1 : n + 1 ≤ G := by rw [hG]; exact grownCap_ge _ _ _ _
  have hG2 : G ≤ maxLen := by rw [hG]; exact grownCap_le_maxLen _ _ _ _ (by unfold maxLen; omega)
  obtain ⟨ROW, hROW⟩ : ∃ ROW : Array Value, ROW = ((mrow L).take (i * 3)).toArray ++ Builtin.zeroCells (Value.agg #[.string ByteArray.empty, .string ByteArray.empty, .int .i64 0]).cells (n + 1 - i) ++ Builtin.zeroCells (Value.agg #[.string ByteArray.empty, .string ByteArray.empty, .int .i64 0]).cells (G - (n + 1)) := ⟨_, rfl⟩
  have hpl : (mrow L).length = n * 3 := by rw [mrow_len, hl]
  have hz2 : (Value.agg #[.string ByteArray.empty, .string ByteArray.empty, .int .i64 0]).cells.size = 3 := rfl
  have hRs : ROW.size = G * 3 := by rw [hROW]; simp only [Array.size_append, List.size_toArray, List.length_take, size_zeroCells, hz2, hpl]; omega
  have hrz : ∀ ty, (Builtin.append_ #[75, 3] ty #[.slice (some ⟨g, 0, none⟩) i c, .int .i64 ((n : Int) + 1 - (i : Int))]).run Try.prog w = .ok (.slice (some ⟨w.heap.size, 0, none⟩) (n + 1) G) (w.drew.alloc (.cells ROW 91)) := fun ty => by
    have hold : (Builtin.firstCells i0.size i (.slice (some ⟨g, 0, none⟩) i c)).run Try.prog w.drew = .ok ((mrow L).take (i * 3)).toArray w.drew := by
      rw [hzs]
      exact run_firstCells_some w.drew 3 i ⟨g, 0, none⟩ i c ((mrow L).take (i * 3)) (by rw [List.length_take, hpl]; omega) (fun j v hj => by
        rw [add_plain, Nat.zero_add]
        rw [List.getElem?_take] at hj
        split at hj
        · exact (ho.cellAt j (by omega)).trans hj
        · cases hj)
    have h := Lib.run_append_grow_zeros w 75 3 ty 91 i0 _ .i64 .i64 Try.underlying75 Try.underlying3 hi0 hz0 (some ⟨g, 0, none⟩) i c ((mrow L).take (i * 3)) hold (n + 1 - i) (by omega) (by omega) (by omega) (by omega) (by rw [hzb]; omega) (by rw [hzb, show i + (n + 1 - i) = n + 1 by omega]; exact growslice_fits hroom (by omega))
    rw [show i + (n + 1 - i) = n + 1 by omega] at h
    rw [show (n : Int) + 1 - (i : Int) = ((n + 1 - i : Nat) : Int) by omega, hROW, hG]
    exact h
  obtain ⟨W1, hW1⟩ : ∃ W1, W1 = w.drew.alloc (.cells ROW 91) := ⟨_, rfl⟩
  rw [← hW1] at hrz
  have hn1 : W1.heap[w.heap.size]? = some (.cells ROW 91 (0, 0)) := by rw [hW1]; exact heap_alloc_new w.drew _
  have hv1 : W1.heap[vb]? = some (.cells #[.string x.1.1, .string x.1.2, .int .i64 x.2] 91 (0, 0)) := by rw [hW1, Below.heap_alloc w.drew _ _ hvlt]; exact hv
  have hg1 : W1.heap[g]? = some (.cells cur 91 (0, 0)) := by rw [hW1, Below.heap_alloc w.drew _ _ hglt]; exact hg
  obtain ⟨X1, hX1⟩ : ∃ X1, X1 = (ROW.toList.take (i * 3) ++ encM x ++ ROW.toList.drop (i * 3 + (encM x).length)).toArray := ⟨_, rfl⟩
  have hcp1 : ∀ ty dc, (Builtin.copy_ #[75, 75] ty #[.slice (some ⟨w.heap.size, i * 3, none⟩) (n + 1 - i) dc, .slice (some ⟨vb, 0, none⟩) 1 1]).run Try.prog W1 = .ok (goInt 1) (W1.setRow w.heap.size X1) := fun ty dc => by
    rw [hX1]
    refine run_copy_rowk W1 _ _ ty 91 3 w.heap.size (i * 3) (n + 1 - i) dc ⟨vb, 0, none⟩ 1 1 ROW 91 (encM x) 1 Try.underlying75 markSize hn1 (by simp only [Nat.min_def]; split <;> omega) rfl (fun j v hj => ?_) (by rw [hRs]; simp [encM]; omega) (encM_one x)
    rw [add_plain, Nat.zero_add, cell_of_row _ _ j _ _ (0, 0) hv1]
    simpa [encM] using hj
  have hx1s : X1.size = G * 3 := by rw [hX1, List.size_toArray]; simp only [List.length_append, List.length_take, List.length_drop, Array.length_toList, hRs, encM, List.length_cons, List.length_nil]; omega
  obtain ⟨W2, hW2⟩ : ∃ W2, W2 = W1.setRow w.heap.size X1 := ⟨_, rfl⟩
  have hn2 : W2.heap[w.heap.size]? = some (.cells X1 91 (0, 0)) := by rw [hW2]; exact setRow_heap W1 _ _ _ _ _ hn1
  have hg2 : W2.heap[g]? = some (.cells cur 91 (0, 0)) := by rw [hW2, setRow_other _ _ _ _ (Nat.ne_of_lt hglt)]; exact hg1
  have hdl : (mrow (L.drop i)).length = (n - i) * 3 := by rw [mrow_len, List.length_drop, hl]
  obtain ⟨X2, hX2⟩ : ∃ X2, X2 = (X1.toList.take ((i + 1) * 3) ++ mrow (L.drop i) ++ X1.toList.drop ((i + 1) * 3 + (mrow (L.drop i)).length)).toArray := ⟨_, rfl⟩
  have hcp2 : ∀ ty dc sc, (Builtin.copy_ #[75, 75] ty #[.slice (some ⟨w.heap.size, (i + 1) * 3, none⟩) (n - i) dc, .slice (some ⟨g, i * 3, none⟩) (n - i) sc]).run Try.prog W2.drew = .ok (goInt ((n - i : Nat) : Int)) (W2.drew.setRow w.heap.size X2) := fun ty dc sc => by
    rw [hX2]
    refine run_copy_rowk W2.drew _ _ ty 91 3 w.heap.size ((i + 1) * 3) (n - i) dc ⟨g, i * 3, none⟩ (n - i) sc X1 91 (mrow (L.drop i)) (n - i) Try.underlying75 markSize hn2 (by simp only [Nat.min_def]; split <;> omega) hdl (fun j v hj => ?_) (by rw [hx1s]; omega) (mrow_one _)
    rw [add_plain]
    have h1 : (mrow L)[i * 3 + j]? = some v := by
      have e : (mrow L).drop (i * 3) = mrow (L.drop i) := rec_drop encM_len L i
      rw [← e, List.getElem?_drop] at hj; exact hj
    have hjl : i * 3 + j < n * 3 := by have := (List.getElem?_eq_some_iff.1 h1).1; rw [hpl] at this; exact this
    have h2 := (cell_of_row w g (i * 3 + j) _ _ (0, 0) hg).symm.trans ((ho.cellAt (i * 3 + j) hjl).trans h1)
    show W2.cell? _ = _
    rw [cell_of_row W2 g (i * 3 + j) _ _ (0, 0) hg2]
    exact h2
  rw [← hW2] at hcp1
  have HO := hide_ ho; have HL := hide_ hl; have HX1 := hide_ hX1; have HX2 := hide_ hX2; have HXS := hide_ hx1s; have HRS := hide_ hRs; have HROW := hide_ hROW; have HW1 := hide_ hW1; have HW2 := hide_ hW2; have HN2 := hide_ hn2; have HG2 := hide_ hG2; have HPL := hide_ hpl; have HDL := hide_ hdl
  have kw : IntKind.i64.wrap ((i : Int) + 1) = (i : Int) + 1 := IntWalk.i64_in _ (by omega)
  have k1 : (0 : Int) ≤ (i : Int) + 1 := by omega
  have k2 : ((i : Int) + 1).toNat = i + 1 := by omega
  have k3 : (i : Int) ≤ (n : Int) + 1 := by omega
  have k4 : i ≤ n + 1 := by omega
  have k5 : (n : Int) + 1 ≤ (G : Int) := by omega
  have k6 : ¬ G = i := by omega
  have k7 : ¬ G = i + 1 := by omega
  have k8 : (i : Int) + 1 ≤ (G : Int) := by omega
  have k9 : (i : Int) ≤ (G : Int) := by omega
  have k10 : i ≤ G := by omega
  have k11 : i + 1 ≤ G := by omega
  have k12 : (0 : Int) ≤ (n : Int) + 1 - (i : Int) := by omega
  clear ho hl hX1 hX2 hx1s hRs hROW hW1 hW2 hn2 hG2 hpl hdl hn1 hv1 hg1 hg2 hz0 hzs hzb hi0 hG hv hg htk hcs hcm kw k2
  go_enter Try.func59, Try.ntmps59
  go_wp2_with (at_builtin; refine Lib.wpList_append_run _ rfl _ _ _ _ rfl _ _ rfl rfl _ _ (hrz _) ?_)
  have kw : IntKind.i64.wrap ((i : Int) + 1) = (i : Int) + 1 := IntWalk.i64_in _ (by omega)
  have k2 : ((i : Int) + 1).toNat = i + 1 := by omega
  refine wp_region_t (by kernel_rfl) ?_
  refine wpAnyT_take 0 (v := ?_) rfl (by kernel_rfl) (by kernel_rfl) (by kernel_rfl) (fun _ _ _ h => h) (by rfl) (by intro W hSw; go_simp; with_reducible rfl) ?_; try simp only [Act.put, List.setIfInBounds_toArray, List.set_cons_zero, List.set_cons_succ]
  refine wpAnyT_take 1 (v := ?_) rfl (by kernel_rfl) (by kernel_rfl) (by kernel_rfl) (fun _ _ _ h => h) (by rfl) (by intro W hSw; go_simp; with_reducible rfl) ?_; try simp only [Act.put, List.setIfInBounds_toArray, List.set_cons_zero, List.set_cons_succ]
  refine wpAnyT_take 2 (v := ?_) rfl (by kernel_rfl) (by kernel_rfl) (by kernel_rfl) (fun _ _ _ h => h) (by rfl) (by intro W hSw; go_simp; with_reducible rfl) ?_; try simp only [Act.put, List.setIfInBounds_toArray, List.set_cons_zero, List.set_cons_succ]
  refine wpAnyT_take 3 (v := ?_) rfl (by kernel_rfl) (by kernel_rfl) (by kernel_rfl) (fun _ _ _ h => h) (by rfl) (by intro W hSw; go_simp; with_reducible rfl) ?_; try simp only [Act.put, List.setIfInBounds_toArray, List.set_cons_zero, List.set_cons_succ]
  refine wpAnyT_take 4 (v := ?_) rfl (by kernel_rfl) (by kernel_rfl) (by kernel_rfl) (fun _ _ _ h => h) (by rfl) (by intro W hSw; go_simp; with_reducible rfl) ?_; try simp only [Act.put, List.setIfInBounds_toArray, List.set_cons_zero, List.set_cons_succ]
  refine wpAnyT_take 5 (v := ?_) rfl (by kernel_rfl) (by kernel_rfl) (by kernel_rfl) (fun _ _ _ h => h) (by rfl) (by intro W hSw; go_simp; with_reducible rfl) ?_; try simp only [Act.put, List.setIfInBounds_toArray, List.set_cons_zero, List.set_cons_succ]
  refine wpAnyT_take 6 (v := ?_) rfl (by kernel_rfl) (by kernel_rfl) (by kernel_rfl) (fun _ _ _ h => h) (by rfl) (by intro W hSw; go_simp; with_reducible rfl) ?_; try simp only [Act.put, List.setIfInBounds_toArray, List.set_cons_zero, List.set_cons_succ]
  refine wpAnyT_take 7 (v := ?_) rfl (by kernel_rfl) (by kernel_rfl) (by kernel_rfl) (fun _ _ _ h => h) (by rfl) (by intro W hSw; go_simp; with_reducible rfl) ?_; try simp only [Act.put, List.setIfInBounds_toArray, List.set_cons_zero, List.set_cons_succ]
  refine wpAnyT_one 8 (by kernel_rfl) rfl (fun K hK => ?_)
  go_simp
  refine hK.out _ _ trivial ?_
  clear hK K; try simp only [Act.put, List.setIfInBounds_toArray, List.set_cons_zero, List.set_cons_succ]
  refine wpAnyT_done (by kernel_rfl) ?_ _
  clear kw k2
  go_wp2_with fail
  go_ret
  have hX1t : X1.toList = ROW.toList.take (i * 3) ++ encM x ++ ROW.toList.drop (i * 3 + (encM x).length) := by rw [HX1.out]
  have hX2t : X2.toList = X1.toList.take ((i + 1) * 3) ++ mrow (L.drop i) ++ X1.toList.drop ((i + 1) * 3 + (mrow (L.drop i)).length) := by rw [HX2.out]
  have hRt : ROW.toList.take (i * 3) = (mrow L).take (i * 3) := by
    rw [HROW.out, Array.append_assoc, Array.toList_append]
    exact List.take_left' (by simp [HPL.out]; omega)
  have hrs := HRS.out
  have hdl := HDL.out
  have hl2 : X2.size = G * 3 := by rw [HX2.out, List.size_toArray]; simp only [List.length_append, List.length_take, List.length_drop, Array.length_toList, HXS.out, hdl]; omega
  have e1 : mrow (L.take i ++ [x] ++ L.drop i) = (mrow L).take (i * 3) ++ encM x ++ mrow (L.drop i) := by
    have h1 : (mrow L).take (i * 3) = mrow (L.take i) := rec_take encM_len L i
    rw [h1]; simp [mrow]
  have a1 : X1.toList.take ((i + 1) * 3) = (mrow L).take (i * 3) ++ encM x := by
    rw [hX1t, List.take_left' (by simp only [List.length_append, List.length_take, Array.length_toList, hrs, encM, List.length_cons, List.length_nil]; omega), hRt]
  have ht : X2.toList.take ((n + 1) * 3) = mrow (L.take i ++ [x] ++ L.drop i) := by
    rw [hX2t, a1, e1, List.take_left' (by simp only [List.length_append, List.length_take, HPL.out, hdl, encM, List.length_cons, List.length_nil]; omega)]
  have hw : (W2.drew.setRow w.heap.size X2).heap[w.heap.size]? = some (.cells X2 91 (0, 0)) := setRow_heap W2.drew _ _ _ _ _ HN2.out
  refine ⟨⟨_, rfl, ⟨by rw [mrow_len]; simp [HL.out]; omega, .inr ⟨w.heap.size, G, X2, rfl, hBw, hw, by omega, HG2.out, hl2, ht⟩⟩⟩, ?_⟩
  rw [HW2.out, HW1.out]
  exact ⟨below_setRow (below_setRow ((Below.refl _ _).drew.alloc hBw _) hBw _).drew hBw _, grown_setRow (grown_drew (grown_setRow (grown_alloc (grown_drew (World.grownBy.refl w _)) _) (.inr (Nat.le_refl _)) _)) (.inr (Nat.le_refl _)) _⟩
theorem minsert_own {w : World} {B n c vb : Nat} {A : Option Addr} {L : List Mk} (x : Mk) (ho : w.ownsRow B 91 3 (.slice A n c) n (mrow L)) (hl : L.length = n) (i : Nat) (hi : i ≤ n) (hv : w.heap[vb]? = some (.cells #[.string x.1.1, .string x.1.2, .int .i64 x.2] 91 (0, 0))) (hvn : ∀ g, A = some ⟨g, 0, none⟩ → vb ≠ g) (hn : n ≤ 2199023255552) (hBw : B ≤ w.heap.size) :
    Calls Try.prog 59 #[.slice A n c, .int .i64 (i : Int), .slice (some ⟨vb, 0, none⟩) 1 1] w fun e w' =>
      (∃ v, e = .returned v ∧ w'.ownsRow B 91 3 v (n + 1) (mrow (L.take i ++ [x] ++ L.drop i))) ∧ Below B w w' ∧ w.grownBy w' (Value.slice A n c).ownBlock := by
  rcases Nat.lt_or_ge i n with hlt | hge
  · rcases own_cases ho with ⟨_, h0, _⟩ | ⟨g, rfl⟩
    · omega
    · rcases Nat.lt_or_ge c (n + 1) with h | h
      · exact minsert_grow x ho hl hlt h hv hn hBw
      · exact minsert_room x ho hl hlt h hv (hvn g rfl) hn
  · obtain rfl : i = n := by omega
    rw [← hl, List.take_length, List.drop_length, List.append_nil, hl]
    exact minsert_end x ho hl hv hn hBw
theorem minsert_all {w : World} {B n c vb : Nat} {A : Option Addr} {L : List Mk} (x : Mk) (ho : w.ownsRow B 91 3 (.slice A n c) n (mrow L)) (hl : L.length = n) (i : Nat) (hi : i ≤ n) (hv : w.heap[vb]? = some (.cells #[.string x.1.1, .string x.1.2, .int .i64 x.2] 91 (0, 0))) (hvn : ∀ g, A = some ⟨g, 0, none⟩ → vb ≠ g) (hn : n ≤ 2199023255552) (hBw : B ≤ w.heap.size) :
    Calls Try.prog 59 #[.slice A n c, .int .i64 (i : Int), .slice (some ⟨vb, 0, none⟩) 1 1] w fun e w' =>
      (∃ v, e = .returned v ∧ w'.ownsRow B 91 3 v (n + 1) (mrow (L.take i ++ [x] ++ L.drop i))) ∧ Below B w w' :=
  (minsert_own (c := c) x ho hl i hi hv hvn hn hBw).mono fun e w' ⟨h1, h2, _⟩ => ⟨h1, h2⟩

end Go.Proofs.Ytidlkomgondkiaa
