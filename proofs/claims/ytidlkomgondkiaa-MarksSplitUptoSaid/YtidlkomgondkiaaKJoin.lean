/-
  Join: the spans that have the keys of all.
-/
import Derived.Test.YtidlkomgondkiaaG5
import Derived.Test.YtidlkomgondkiaaG2
import Derived.IntWalk
namespace Go.Proofs.Ytidlkomgondkiaa
open Go.RowKit
set_option linter.unusedVariables false
set_option linter.unusedSimpArgs false
theorem Rising.drop {L : List Spn} (h : Rising L) (k : Nat) : Rising (L.drop k) := by
  induction L generalizing k with
  | nil => simpa using h
  | cons a L ih =>
    cases k with
    | zero => exact h
    | succ k => simpa using ih h.2.2 k
theorem set_same {α : Type} (L : List α) (i : Nat) (x : α) (h : L[i]? = some x) : L.set i x = L := by
  apply List.ext_getElem?
  intro t
  rw [List.getElem?_set]
  split
  · rename_i hit; subst hit; rw [if_pos (List.getElem?_eq_some_iff.1 h).1, h]
  · rfl
theorem last_set {O : List Spn} {p : Spn} {j : Nat} (h : O.length = j) (u : ByteArray) : srow (O ++ [(p.1, u)]) = (srow (O ++ [p])).set (j * 2 + 1) (.string u) := by
  have hj : (O ++ [p])[j]? = some p := by rw [← h]; simp
  have e := span_set (L := O ++ [p]) (i := j) (by simp [h]) (p.1, u)
  have e2 : (O ++ [p]).set j (p.1, u) = O ++ [(p.1, u)] := by rw [List.set_append_right _ _ (by omega), h, Nat.sub_self]; rfl
  rw [e2] at e
  rw [e]
  congr 1
  have h1 := srow_fst hj
  exact set_same _ _ (Value.string p.1) h1
set_option maxHeartbeats 2000000 in
theorem join_any {w : World} {A : Option Addr} {n c : Nat} {L : List Spn} (hr : Rd w 2 A n (srow L)) (hA : A = none → n = 0) (hl : L.length = n) (hn : n ≤ 4398046511104) :
    Calls Try.prog 55 #[.slice A n c] w fun e w' =>
      (∃ (A' : Option Addr) (R : List Spn), e = .returned (.slice A' R.length R.length) ∧ Rd w' 2 A' R.length (srow R) ∧ (A' = none → R.length = 0) ∧ (∀ (b o : Nat), A' = some ⟨b, o, none⟩ → w.heap.size ≤ b) ∧ R.length ≤ n ∧ Canon R ∧ ∀ k, InL R k ↔ InL L k) ∧ Below w.heap.size w w' := by
  have hcl := hide_ (sclone_any (c := c) hr hA (by omega) (by unfold maxLen; omega))
  have HL := hide_ hl
  clear hr hA hl
  go_enter Try.func55, Try.ntmps55
  go_wp2_with fail
  refine (hcl.out).mono ?_; rintro e w1 ⟨⟨v1, rfl, ho1⟩, hb1⟩
  obtain ⟨A1, c1, rfl⟩ := own_form ho1
  have hdel := hide_ (sdelete_all ho1 HL.out hn hb1.size)
  have HB1 := hide_ hb1
  clear ho1 hb1
  go_wp2_with fail
  refine (hdel.out).mono ?_; rintro e w2 ⟨⟨A2, m, c2, M, rfl, hM, hm, ho2⟩, hb2⟩
  have hle := hide_ (show m ≤ n by rw [← hm, hM, ← HL.out]; exact List.length_filter_le _ _)
  have hsort := hide_ (sort_all ho2 hm (Nat.le_trans hle.out hn))
  have HB2 := hide_ (HB1.out.trans hb2)
  have HFN := hide_ (show ∀ x, x ∈ M → ne_ x = true by rw [hM]; exact fun x hx => (List.mem_filter.1 hx).2)
  have HIF := hide_ (show ∀ k, InL M k ↔ InL L k by rw [hM]; exact inl_filter L)
  clear ho2 hb2 hM hm
  go_wp2_with fail
  refine (hsort.out).mono ?_; rintro e w3 ⟨rfl, ⟨Y, hY, hp, hs, ho3⟩, hb3⟩
  have HR := hide_ (rising_of hs fun x hx => by have := HFN.out x (hp.mem_iff.1 hx); simpa [ne_] using this)
  have HY := hide_ hY
  have HKY := hide_ (fun k => (inl_perm hp k).trans (HIF.out k))
  have HB3 := hide_ (HB2.out.trans hb3)
  have HO3 := hide_ ho3
  have HLM := hide_ (Nat.le_trans hle.out hn)
  have hmm : (m : Int) ≤ 4398046511104 := by have := HLM.out; omega
  clear hY hp hs ho3 hb3
  go_wp2_with fail
  go_loopw [3, 5, 6, 14] (fun s3 _ _ s14 wr => ∃ (k q : Nat) (O : List Spn), k ≤ m ∧ s14 = .int .i64 k ∧ Hid (O.length = q) ∧ q ≤ k ∧ Hid (wr.ownsRow w3.heap.size 24 2 s3 q (srow O)) ∧ Hid (MergeInv O (Y.take k) (Y.drop k)) ∧ Hid (Below w3.heap.size w3 wr)) (fun _ _ _ i _ => m - (intOf i).toNat)
  case atStart => exact ⟨0, 0, [], Nat.zero_le _, rfl, rfl, Nat.le_refl _, World.ownsRow_nil _ _ _ _, merge_start Y, Below.refl _ _⟩
  case round =>
    obtain ⟨k, q, O, hk, rfl, HQ, hqk, HO, HI, HB⟩ := hrel
    obtain ⟨A4, c4, rfl⟩ := own_form HO.out
    have hmx := HLM.out
    by_cases hlt : k < m
    · have q1 : (k : Int) < (m : Int) := by omega
      obtain ⟨s, hs⟩ : ∃ s, Y[k]? = some s := ⟨_, List.getElem?_eq_getElem (by rw [HY.out]; exact hlt)⟩
      obtain ⟨b, o, rfl, l1, l2⟩ := ((Rd.of_own HO3.out).below HB.out).span hs
      have HS := hide_ hs
      have HD := hide_ (show Y.drop k = s :: Y.drop (k + 1) from by rw [List.drop_eq_getElem_cons (by rw [HY.out]; exact hlt)]; congr 1; exact (List.getElem?_eq_some_iff.1 hs).2)
      have HT := hide_ (take_next hs)
      have HRS := hide_ (show Rising (s :: Y.drop (k + 1)) by rw [← HD.out]; exact HR.out.drop k)
      have HI' := hide_ (show MergeInv O (Y.take k) (s :: Y.drop (k + 1)) by rw [← HD.out]; exact HI.out)
      clear hs
      rcases Nat.eq_zero_or_pos q with hq | hq
      · subst hq
        obtain rfl : O = [] := List.eq_nil_of_length_eq_zero HQ.out
        go_wp2_with fail
        go_quiet (fail)
        have HO4 := hide_ (show ((wr.alloc (.cells #[.string s.1, .string s.2] 24)).drewN nq).ownsRow w3.heap.size 24 2 (.slice A4 0 c4) 0 (srow []) from HO.out.alloc _)
        have HB4 := hide_ (below_drewN (HB.out.alloc HB.out.size (.cells #[.string s.1, .string s.2] 24)) nq)
        go_wp2_with (at_builtin; go_loud (refine wpList_append_rd _ rfl (.tmp 47) (.tmp 49) 29 rfl w3.heap.size 24 2 32 spanT _ 0 (srow []) rfl (HO4.out.alloc _) _ 1 _ (encS s) rfl (Rd.newAt _ #[.string s.1, .string s.2] 24 1 2 _ (0, 0) rfl (by simp)) (encS_one s) (by omega) (by unfold maxLen; omega) (by have := HB.out.size; simp; omega) (fun h => nomatch h) ?_; intro v5 w5 hown5 hg5 hat5; have HO5 := hide_ hown5; have HB5 := hide_ (own_grown (HB4.out.alloc (by have := HB.out.size; simp; omega) _) (HO4.out.alloc _) hg5 (by have := HB.out.size; simp; omega)); clear hown5 hg5 hat5))
        go_roundw
        case rel => exact ⟨k + 1, 1, [s], by omega, by go_num, rfl, by omega, hide_ (by simpa [srow] using HO5.out), by rw [HT.out]; exact merge_first HI'.out HRS.out, HB5.out⟩
        case measure => simp [intOf]; omega
      · obtain ⟨j, rfl⟩ : ∃ j, q = j + 1 := ⟨q - 1, by omega⟩
        obtain ⟨O', p, hO⟩ : ∃ O' p, O = O' ++ [p] := by
          rcases List.eq_nil_or_concat O with h | ⟨O', p, h⟩
          · have := HQ.out; rw [h] at this; simp at this
          · exact ⟨O', p, by simpa using h⟩
        subst hO
        have HJ := hide_ (show O'.length = j by have := HQ.out; simpa using this)
        have hpj : (O' ++ [p])[j]? = some p := by rw [← HJ.out]; simp
        obtain ⟨g4, rfl⟩ : ∃ g, A4 = some ⟨g, 0, none⟩ := by
          rcases sown_cases HO.out with ⟨_, h, _⟩ | h
          · omega
          · exact h
        have c1 := (HO.out.cellAt (j * 2) (by omega)).trans (srow_fst hpj)
        have c2 := (HO.out.cellAt (j * 2 + 1) (by omega)).trans (srow_snd hpj)
        have hcap := own_cap HO.out
        have d1 := cell_alloc c1
        have d2 := cell_alloc c2
        have j1 : (0 : Int) ≤ (j : Int) := by omega
        have j2 : (j : Int) ≤ 4398046511104 := by omega
        have j3 : j < j + 1 := by omega
        clear hpj c1 c2
        have HO4 := fun nq => hide_ (show ((wr.alloc (.cells #[.string s.1, .string s.2] 24)).drewN nq).ownsRow w3.heap.size 24 2 (.slice (some ⟨g4, 0, none⟩) (j + 1) c4) (j + 1) (srow (O' ++ [p])) from HO.out.alloc _)
        have HB4 := fun nq => hide_ (below_drewN (HB.out.alloc HB.out.size (.cells #[.string s.1, .string s.2] 24)) nq)
        by_cases ht : s.1 ≤ p.2
        · have t1 : (Op.bytesLess s.1.toList p.2.toList || s.1.toList == p.2.toList) = true := by rw [ble]; simpa
          have HTC := hide_ ht
          clear ht
          go_wp2_with fail
          go_quiet (fail)
          obtain ⟨u, hu⟩ : ∃ u, u = if p.2 < s.2 then s.2 else p.2 := ⟨_, rfl⟩
          have hmax : ∀ ts t W, (Builtin.max_ ts t #[.string p.2, .string s.2]).run Try.prog W = .ok (.string u) W := fun ts t W => by rw [run_max_str, hu]
          have HU := hide_ hu
          clear hu
          obtain ⟨cur, _, hgc, _⟩ := own_row HO.out
          have f1 := fun ob => frozen_of_row _ _ (j * 2 + 1) _ _ (row_alloc hgc ob)
          clear hgc
          go_wp2_with fail
          obtain ⟨W4, hW4⟩ : ∃ W4, W4 = (wr.alloc (.cells #[.string s.1, .string s.2] 24)).drewN nq := ⟨_, rfl⟩
          rw [← hW4]
          have g1 : W4.cell? ⟨g4, j * 2 + 1, none⟩ = some (.string p.2) := by rw [hW4]; exact d2 _
          have g2 : W4.cell? ⟨wr.heap.size, 1, none⟩ = some (.string s.2) := by rw [hW4]; exact cell_of_row _ _ 1 _ _ (0, 0) (heap_alloc_new wr _)
          have g3 : W4.frozen? ⟨g4, j * 2 + 1, none⟩ = false := by rw [hW4]; exact f1 _
          have e1 := later_drew_cell g1
          have e2 := later_drew_cell g2
          have HOW := hide_ (show W4.ownsRow w3.heap.size 24 2 (.slice (some ⟨g4, 0, none⟩) (j + 1) c4) (j + 1) (srow (O' ++ [p])) by rw [hW4]; exact (HO4 nq).out)
          have HBW := hide_ (show Below w3.heap.size w3 W4 by rw [hW4]; exact (HB4 nq).out)
          clear hW4 f1 d1 d2
          have k1 : IntKind.i64.wrap (j : Int) = (j : Int) := IntWalk.i64_in _ (by omega)
          have k2 : (j : Int) < (j : Int) + 1 := by omega
          refine wp_region_l [14] (by kernel_rfl) ?_
          refine wpAnyL_pure 0 (v := ?_) rfl (by kernel_rfl) (by kernel_rfl) (by kernel_rfl) (fun _ _ _ h => h) (by rfl) (by intro W; go_simp; with_reducible rfl) ?_; try simp only [Act.put, List.setIfInBounds_toArray, List.set_cons_zero, List.set_cons_succ]
          refine wpAnyL_pure 1 (v := ?_) rfl (by kernel_rfl) (by kernel_rfl) (by kernel_rfl) (fun _ _ _ h => h) (by rfl) (by intro W; go_simp; with_reducible rfl) ?_; try simp only [Act.put, List.setIfInBounds_toArray, List.set_cons_zero, List.set_cons_succ]
          refine wpAnyL_take 2 (v := ?_) rfl (by kernel_rfl) (by kernel_rfl) (by kernel_rfl) (by kernel_rfl) (fun _ _ _ h => h) (by rfl) (by intro W hSw; go_simp; with_reducible rfl) ?_; try simp only [Act.put, List.setIfInBounds_toArray, List.set_cons_zero, List.set_cons_succ]
          refine wpAnyL_pure 3 (v := ?_) rfl (by kernel_rfl) (by kernel_rfl) (by kernel_rfl) (fun _ _ _ h => h) (by rfl) (by intro W; go_simp; with_reducible rfl) ?_; try simp only [Act.put, List.setIfInBounds_toArray, List.set_cons_zero, List.set_cons_succ]
          refine wpAnyL_pure 4 (v := ?_) rfl (by kernel_rfl) (by kernel_rfl) (by kernel_rfl) (fun _ _ _ h => h) (by rfl) (by intro W; go_simp; with_reducible rfl) ?_; try simp only [Act.put, List.setIfInBounds_toArray, List.set_cons_zero, List.set_cons_succ]
          refine wpAnyL_take 5 (v := ?_) rfl (by kernel_rfl) (by kernel_rfl) (by kernel_rfl) (by kernel_rfl) (fun _ _ _ h => h) (by rfl) (by intro W hSw; go_simp; with_reducible rfl) ?_; try simp only [Act.put, List.setIfInBounds_toArray, List.set_cons_zero, List.set_cons_succ]
          refine wpAnyL_pure 6 (v := ?_) rfl (by kernel_rfl) (by kernel_rfl) (by kernel_rfl) (fun _ _ _ h => h) (by rfl) (by intro W; go_simp; with_reducible rfl) ?_; try simp only [Act.put, List.setIfInBounds_toArray, List.set_cons_zero, List.set_cons_succ]
          refine wpAnyL_pure 7 (v := ?_) rfl (by kernel_rfl) (by kernel_rfl) (by kernel_rfl) (fun _ _ _ h => h) (by rfl) (by intro W; go_simp; with_reducible rfl) ?_; try simp only [Act.put, List.setIfInBounds_toArray, List.set_cons_zero, List.set_cons_succ]
          refine wpAnyL_take 8 (v := ?_) rfl (by kernel_rfl) (by kernel_rfl) (by kernel_rfl) (by kernel_rfl) (fun _ _ _ h => h) (by rfl) (by intro W hSw; go_simp; with_reducible rfl) ?_; try simp only [Act.put, List.setIfInBounds_toArray, List.set_cons_zero, List.set_cons_succ]
          refine wpAnyL_pure 9 (v := ?_) rfl (by kernel_rfl) (by kernel_rfl) (by kernel_rfl) (fun _ _ _ h => h) (by rfl) (by intro W; go_simp; with_reducible rfl) ?_; try simp only [Act.put, List.setIfInBounds_toArray, List.set_cons_zero, List.set_cons_succ]
          refine wpAnyL_take 10 (v := ?_) rfl (by kernel_rfl) (by kernel_rfl) (by kernel_rfl) (by kernel_rfl) (fun _ _ _ h => h) (by rfl) (by intro W hSw; go_simp; with_reducible rfl) ?_; try simp only [Act.put, List.setIfInBounds_toArray, List.set_cons_zero, List.set_cons_succ]
          refine wpAnyL_one 11 (by kernel_rfl) rfl (fun K hK => ?_)
          go_simp
          first | refine hK.out _ _ (by assumption) ?_ | refine hK.out _ _ (Later.refl _) ?_ | refine hK.out _ _ (Below.alloc (Below.refl _ _) (Nat.le_refl _) _) ?_
          clear hK K; try simp only [Act.put, List.setIfInBounds_toArray, List.set_cons_zero, List.set_cons_succ]
          refine wpAnyL_pure 12 (v := ?_) rfl (by kernel_rfl) (by kernel_rfl) (by kernel_rfl) (fun _ _ _ h => h) (by rfl) (by intro W; go_simp; with_reducible rfl) ?_; try simp only [Act.put, List.setIfInBounds_toArray, List.set_cons_zero, List.set_cons_succ]
          refine wpAnyL_pure 13 (v := ?_) rfl (by kernel_rfl) (by kernel_rfl) (by kernel_rfl) (fun _ _ _ h => h) (by rfl) (by intro W; go_simp; with_reducible rfl) ?_; try simp only [Act.put, List.setIfInBounds_toArray, List.set_cons_zero, List.set_cons_succ]
          refine wpAnyL_loud 14 (by kernel_rfl) (by rfl) rfl (fun K hK => ?_)
          go_simp
          refine hK.out _ _ ?_
          clear hK K; try simp only [Act.put, List.setIfInBounds_toArray, List.set_cons_zero, List.set_cons_succ]
          refine wpAnyL_done (by kernel_rfl) ?_ _
          clear k1 k2
          go_wp2_with fail
          go_roundw
          case rel =>
            refine ⟨k + 1, j + 1, O' ++ [(p.1, u)], by omega, by go_num, hide_ (by simp [HJ.out]), by omega, ?_, by rw [HT.out, HU.out]; exact merge_touch HI'.out HRS.out HTC.out, ?_⟩
            · rw [last_set HJ.out]
              exact own_setCell (show W4.drew.ownsRow w3.heap.size 24 2 (.slice (some ⟨g4, 0, none⟩) (j + 1) c4) (j + 1) (srow (O' ++ [p])) from HOW.out) _ _
            · exact (HBW.out.drew).setCell (HO.out.lt g4 rfl).1 _
          case measure => simp [intOf]; omega
        · have t1 : (Op.bytesLess s.1.toList p.2.toList || s.1.toList == p.2.toList) = false := by rw [ble]; simpa
          have HTC := hide_ ht
          clear ht
          go_wp2_with fail
          go_quiet (fail)
          go_wp2_with (at_builtin; go_loud (refine wpList_append_rd _ rfl (.tmp 47) (.tmp 49) 29 rfl w3.heap.size 24 2 32 spanT _ (j + 1) (srow (O' ++ [p])) rfl ((HO4 nq).out.alloc _) _ 1 _ (encS s) rfl (Rd.newAt _ #[.string s.1, .string s.2] 24 1 2 _ (0, 0) rfl (by simp)) (encS_one s) (by omega) (by unfold maxLen; omega) (by have := HB.out.size; simp; omega) (fun h => nomatch h) ?_; intro v5 w5 hown5 hg5 hat5; have HO5 := hide_ hown5; have HB5 := hide_ (own_grown ((HB4 nq).out.alloc (by have := HB.out.size; simp; omega) _) ((HO4 nq).out.alloc _) hg5 (by have := HB.out.size; simp; omega)); clear hown5 hg5 hat5))
          go_roundw
          case rel => exact ⟨k + 1, j + 1 + 1, O' ++ [p] ++ [s], by omega, by go_num, hide_ (by simp [HJ.out]), by omega, hide_ (by simpa [srow] using HO5.out), by rw [HT.out]; exact merge_far HI'.out HRS.out (by have := HTC.out; grind), HB5.out⟩
          case measure => simp [intOf]; omega
    · have hkm : k = m := by omega
      have hcl := own_cap HO.out
      have hnl := own_nil HO.out
      have HKM := hide_ hkm
      clear hkm
      go_wp2_with (go_at_call 71; refine (clip_any _ _ _ hcl hnl _).mono ?_; rintro e w' ⟨rfl, rfl⟩)
      go_ret
      have hq := HQ.out
      have hi := HI.out
      rw [HKM.out, ← HY.out, List.take_length] at hi
      refine ⟨⟨A4, O, by rw [hq]; rfl, by rw [hq]; exact Rd.of_own HO.out, by rw [hq]; exact hnl, fun b o hbo => Nat.le_trans HB3.out.size ((HO.out.lt b (by rw [hbo]; rfl)).1), by rw [hq]; exact Nat.le_trans hqk (Nat.le_trans hk hle.out), hi.1, fun k => (hi.2.1 k).trans (HKY.out k)⟩, HB3.out.trans (HB.out.mono HB3.out.size)⟩

end Go.Proofs.Ytidlkomgondkiaa
