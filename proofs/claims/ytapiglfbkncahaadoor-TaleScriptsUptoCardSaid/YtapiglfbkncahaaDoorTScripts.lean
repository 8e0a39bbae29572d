/-
  TaleScripts: any setting and acts as a text, and back.
-/
import Derived.Test.YtapiglfbkncahaaDoorTTexts
import Derived.Test.YtapiglfbkncahaaDoorTLLine
import Derived.Test.YtapiglfbkncahaaDoorSplit
namespace Go.Proofs.YtapiglfbkncahaaDoor
open Go.RowKit
set_option linter.unusedVariables false
set_option linter.unusedSimpArgs false
theorem sound_from {s : SV} (h : ∀ j z m, j < 6 → s.nums[j]? = some z → mostN[j]? = some m → okN (z, m) = true) : soundF s = true := by
  rw [soundF_eq]
  have h0 := h 0 _ _ (by omega) rfl rfl; have h1 := h 1 _ _ (by omega) rfl rfl; have h2 := h 2 _ _ (by omega) rfl rfl
  have h3 := h 3 _ _ (by omega) rfl rfl; have h4 := h 4 _ _ (by omega) rfl rfl; have h5 := h 5 _ _ (by omega) rfl rfl
  rw [h0, h1, h2, h3, h4, h5]; rfl
theorem sound_bad {s : SV} {j : Nat} {z m : Int} (hj : j < 6) (hz : s.nums[j]? = some z) (hm : mostN[j]? = some m) (h : okN (z, m) = false) : soundF s = false := by
  rw [soundF_eq]
  match j, hj with
  | 0, _ => (have e1 : s.n0 = z := by simpa [SV.nums] using hz); (have e2 : (7 : Int) = m := by simpa [mostN] using hm); rw [e1, e2, h]; simp
  | 1, _ => (have e1 : s.n1 = z := by simpa [SV.nums] using hz); (have e2 : (7 : Int) = m := by simpa [mostN] using hm); rw [e1, e2, h]; simp
  | 2, _ => (have e1 : s.n2 = z := by simpa [SV.nums] using hz); (have e2 : (4 : Int) = m := by simpa [mostN] using hm); rw [e1, e2, h]; simp
  | 3, _ => (have e1 : s.n3 = z := by simpa [SV.nums] using hz); (have e2 : (4 : Int) = m := by simpa [mostN] using hm); rw [e1, e2, h]; simp
  | 4, _ => (have e1 : s.n4 = z := by simpa [SV.nums] using hz); (have e2 : (4 : Int) = m := by simpa [mostN] using hm); rw [e1, e2, h]; simp
  | 5, _ => (have e1 : s.n5 = z := by simpa [SV.nums] using hz); (have e2 : (8 : Int) = m := by simpa [mostN] using hm); rw [e1, e2, h]; simp
def mostO : Array Value := #[.int .i64 7, .int .i64 7, .int .i64 4, .int .i64 4, .int .i64 4, .int .i64 8]
theorem most_at {k : Nat} {m : Int} (h : mostN[k]? = some m) : mostO[k]? = some (.int .i64 m) := by
  have e : mostO.toList = mostN.map (Value.int .i64) := rfl
  rw [← Array.getElem?_toList, e, List.getElem?_map, h]; rfl
set_option maxHeartbeats 8000000 in
set_option maxRecDepth 100000 in
theorem scripts_any {B : Nat} {w : World} (h : Env B w) (s : SV) (hs : s.Ok) {A : Option Addr} {n c : Nat} {L : List AV} (hr : Rd w 6 A n (arow L)) (hl : L.length = n) (hn : n ≤ 1048576) (hx : ∀ x ∈ L, x.Mid) (hlen : (scriptF s L).1.length ≤ 67108864) :
    Calls Tryd.prog 5 #[s.val, .slice A n c] w fun e w' => e = .returned (.bool true) ∧ Later w w' := by
  have HE := hide_ h; have HS := hide_ hs; have HR := hide_ hr; have HL := hide_ hl; have HX := hide_ hx; have HLN := hide_ hlen
  have hn2 : (n : Int) ≤ 1048576 := by omega
  unfold SV.val
  obtain ⟨W1, hW1⟩ : ∃ W1, W1 = w.alloc (.cells s.row 35) := ⟨_, rfl⟩
  have hr1 : W1.heap[w.heap.size]? = some (.cells s.row 35 (0, 0)) := by rw [hW1]; exact heap_alloc_new w _
  have HR1 := hide_ hr1
  have hl1 : Later w W1 := by rw [hW1]; exact later_alloc _ _
  have HL1 := hide_ hl1
  have HW1 := hide_ hW1.symm
  unfold SV.row at HW1
  obtain ⟨⟨o0, o1, o2, o3, o4, o5⟩, _⟩ := six_nums hr1
  have hscr := script_any (HE.out.later hl1) s hs (hr.below hl1) hl (by omega) hx (c := c)
  unfold ScriptPost at hscr
  obtain ⟨T, hT⟩ : ∃ T, T = (scriptF s L).1 := ⟨_, rfl⟩
  obtain ⟨E, hE⟩ : ∃ E, E = (scriptF s L).2 := ⟨_, rfl⟩
  have HTE := hide_ (show scriptF s L = (T, E) by rw [hT, hE])
  rw [← hT, ← hE] at hscr
  have HTL := hide_ (show T.length ≤ 67108864 by rw [hT]; exact hlen)
  have HSP := hide_ (show Calls Tryd.prog 11 #[.agg #[.int .i64 s.n0, .int .i64 s.n1, .int .i64 s.n2, .int .i64 s.n3, .int .i64 s.n4, .int .i64 s.n5], .slice A n c] W1 fun e w' => e = .returned (.tuple #[.string ⟨T.toArray⟩, .int .i64 E]) ∧ Later W1 w' from hscr)
  clear hW1 hr1 h hs hr hl hx hlen hscr hT hE hl1
  go_enter Tryd.func5, Tryd.ntmps5
  go_wp2_with (rw [HW1.out])
  refine HSP.out.mono ?_; rintro e w2 ⟨rfl, hl2⟩
  have HL2 := hide_ (HL1.out.trans hl2)
  have HR2 := hide_ (later_row hl2 HR1.out)
  obtain ⟨⟨p0, p1, p2, p3, p4, p5⟩, _⟩ := six_nums HR2.out
  obtain ⟨W3, hW3⟩ : ∃ W3, W3 = w2.alloc (.cells s.row 3) := ⟨_, rfl⟩
  obtain ⟨W4, hW4⟩ : ∃ W4, W4 = W3.alloc (.cells mostO 3) := ⟨_, rfl⟩
  obtain ⟨nb, hnb⟩ : ∃ nb, nb = w2.heap.size := ⟨_, rfl⟩
  obtain ⟨mb, hmb⟩ : ∃ mb, mb = W3.heap.size := ⟨_, rfl⟩
  have hl3 : Later w2 W3 := by rw [hW3]; exact later_alloc _ _
  have hl4 : Later W3 W4 := by rw [hW4]; exact later_alloc _ _
  have HN4 := hide_ (show W4.heap[nb]? = some (.cells s.row 3 (0, 0)) from later_row hl4 (by rw [hW3, hnb]; exact heap_alloc_new w2 _))
  have HM4 := hide_ (show W4.heap[mb]? = some (.cells mostO 3 (0, 0)) by rw [hW4, hmb]; exact heap_alloc_new W3 _)
  have HR4 := hide_ (later_row hl4 (later_row hl3 HR2.out))
  have HL4 := hide_ ((HL2.out.trans hl3).trans hl4)
  have HW3 := hide_ hW3.symm; have HW4 := hide_ hW4.symm
  unfold SV.row at HW3
  unfold mostO at HW4
  clear hl2 hl3 hl4 hW3 hW4 o0 o1 o2 o3 o4 o5
  go_wp2_with (first | rw [HW3.out] | rw [HW4.out])
  rw [← hnb, ← hmb]
  clear hnb hmb p0 p1 p2 p3 p4 p5
  go_loopw [9, 10] (fun s9 s10 wr => ∃ (k : Nat) (V : ByteArray), k ≤ 6 ∧ s10 = .int .i64 k ∧ s9 = .string V ∧ Hid (V.data.toList = headK s k) ∧ Hid (∀ j z m, j < k → s.nums[j]? = some z → mostN[j]? = some m → okN (z, m) = true) ∧ Hid (Later W4 wr)) (fun _ i _ => 6 - (intOf i).toNat)
  case atStart => exact ⟨0, _, by omega, rfl, rfl, hide_ rfl, hide_ (fun j z m hj => absurd hj (Nat.not_lt_zero j)), Later.refl _⟩
  case round =>
    obtain ⟨k, V, hk6, rfl, rfl, HV, HOK, HLr⟩ := hrel
    have hVs : V.size ≤ 136 := by
      have h1 := HV.out; have h2 := headK_len HS.out k
      have h3 : V.size = V.data.toList.length := (Array.length_toList).symm
      rw [h3, h1]; omega
    by_cases hlt : k < 6
    · obtain ⟨z, hz⟩ : ∃ z, s.nums[k]? = some z := ⟨_, List.getElem?_eq_getElem (by simpa [SV.nums] using hlt)⟩
      obtain ⟨q, hq⟩ : ∃ q, mostN[k]? = some q := ⟨_, List.getElem?_eq_getElem (by simpa [mostN] using hlt)⟩
      have c1 := (cell_of_row _ _ k _ _ (0, 0) (later_row HLr.out HN4.out)).trans (row_nums hz)
      have c2 := (cell_of_row _ _ k _ _ (0, 0) (later_row HLr.out HM4.out)).trans (most_at hq)
      have d1 := later_drew_cell c1
      have d2 := later_drew_cell c2
      have a1 : (k : Int) < 6 := by omega
      have a2 : (0 : Int) ≤ (k : Int) := by omega
      have HZ := hide_ hz; have HQ := hide_ hq
      clear hz hq
      cases hok : okN (z, q) with
      | false =>
        have HSF := hide_ (sound_bad hlt HZ.out HQ.out hok)
        have HTE2 := hide_ (show T = [] ∧ E = 2 by
          have h1 := HTE.out
          unfold scriptF at h1
          rw [if_pos HSF.out] at h1
          injection h1 with h2 h3
          exact ⟨h2.symm, h3.symm⟩)
        obtain ⟨rfl, rfl⟩ := HTE2.out
        unfold okN at hok
        simp only at hok
        by_cases g1 : z < 1
        · clear hok
          go_wp2_with fail
          refine wp_region_k (by kernel_rfl) ?_
          refine wpAnyK_take 0 (v := ?_) rfl (by kernel_rfl) (by kernel_rfl) (by kernel_rfl) (fun _ _ _ h => h) (by rfl) (by intro W hSw; go_simp; with_reducible rfl) ?_; try simp only [Act.put, List.setIfInBounds_toArray, List.set_cons_zero, List.set_cons_succ]
          refine wpAnyK_take 1 (v := ?_) rfl (by kernel_rfl) (by kernel_rfl) (by kernel_rfl) (fun _ _ _ h => h) (by rfl) (by intro W hSw; go_simp; with_reducible rfl) ?_; try simp only [Act.put, List.setIfInBounds_toArray, List.set_cons_zero, List.set_cons_succ]
          refine wpAnyK_take 2 (v := ?_) rfl (by kernel_rfl) (by kernel_rfl) (by kernel_rfl) (fun _ _ _ h => h) (by rfl) (by intro W hSw; go_simp; with_reducible rfl) ?_; try simp only [Act.put, List.setIfInBounds_toArray, List.set_cons_zero, List.set_cons_succ]
          refine wpAnyK_take 3 (v := ?_) rfl (by kernel_rfl) (by kernel_rfl) (by kernel_rfl) (fun _ _ _ h => h) (by rfl) (by intro W hSw; go_simp; with_reducible rfl) ?_; try simp only [Act.put, List.setIfInBounds_toArray, List.set_cons_zero, List.set_cons_succ]
          refine wpAnyK_take 4 (v := ?_) rfl (by kernel_rfl) (by kernel_rfl) (by kernel_rfl) (fun _ _ _ h => h) (by rfl) (by intro W hSw; go_simp; with_reducible rfl) ?_; try simp only [Act.put, List.setIfInBounds_toArray, List.set_cons_zero, List.set_cons_succ]
          refine wpAnyK_take 5 (v := ?_) rfl (by kernel_rfl) (by kernel_rfl) (by kernel_rfl) (fun _ _ _ h => h) (by rfl) (by intro W hSw; go_simp; with_reducible rfl) ?_; try simp only [Act.put, List.setIfInBounds_toArray, List.set_cons_zero, List.set_cons_succ]
          refine wpAnyK_skip 6 rfl (by kernel_rfl) (by kernel_rfl) (by kernel_rfl) (fun _ _ _ h => h) (by rfl) ?_; try simp only [Act.put, List.setIfInBounds_toArray, List.set_cons_zero, List.set_cons_succ]
          refine wpAnyK_skip 7 rfl (by kernel_rfl) (by kernel_rfl) (by kernel_rfl) (fun _ _ _ h => h) (by rfl) ?_; try simp only [Act.put, List.setIfInBounds_toArray, List.set_cons_zero, List.set_cons_succ]
          refine wpAnyK_skip 8 rfl (by kernel_rfl) (by kernel_rfl) (by kernel_rfl) (fun _ _ _ h => h) (by rfl) ?_; try simp only [Act.put, List.setIfInBounds_toArray, List.set_cons_zero, List.set_cons_succ]
          refine wpAnyK_skip 9 rfl (by kernel_rfl) (by kernel_rfl) (by kernel_rfl) (fun _ _ _ h => h) (by rfl) ?_; try simp only [Act.put, List.setIfInBounds_toArray, List.set_cons_zero, List.set_cons_succ]
          refine wpAnyK_skip 10 rfl (by kernel_rfl) (by kernel_rfl) (by kernel_rfl) (fun _ _ _ h => h) (by rfl) ?_; try simp only [Act.put, List.setIfInBounds_toArray, List.set_cons_zero, List.set_cons_succ]
          refine wpAnyK_skip 11 rfl (by kernel_rfl) (by kernel_rfl) (by kernel_rfl) (fun _ _ _ h => h) (by rfl) ?_; try simp only [Act.put, List.setIfInBounds_toArray, List.set_cons_zero, List.set_cons_succ]
          refine wpAnyK_skip 12 rfl (by kernel_rfl) (by kernel_rfl) (by kernel_rfl) (fun _ _ _ h => h) (by rfl) ?_; try simp only [Act.put, List.setIfInBounds_toArray, List.set_cons_zero, List.set_cons_succ]
          refine wpAnyK_skip 13 rfl (by kernel_rfl) (by kernel_rfl) (by kernel_rfl) (fun _ _ _ h => h) (by rfl) ?_; try simp only [Act.put, List.setIfInBounds_toArray, List.set_cons_zero, List.set_cons_succ]
          refine wpAnyK_skip 14 rfl (by kernel_rfl) (by kernel_rfl) (by kernel_rfl) (fun _ _ _ h => h) (by rfl) ?_; try simp only [Act.put, List.setIfInBounds_toArray, List.set_cons_zero, List.set_cons_succ]
          refine wpAnyK_take 15 (v := ?_) rfl (by kernel_rfl) (by kernel_rfl) (by kernel_rfl) (fun _ _ _ h => h) (by rfl) (by intro W hSw; go_simp; with_reducible rfl) ?_; try simp only [Act.put, List.setIfInBounds_toArray, List.set_cons_zero, List.set_cons_succ]
          refine wpAnyK_done (by kernel_rfl) ?_ _
          go_wp2_with fail
          refine (awake_any (HE.out.later (below_drewN (HL4.out.trans HLr.out) 1))).mono ?_; rintro e w5 ⟨rfl, hl5⟩
          have HL5 := hide_ (Later.trans (show Later w (wr.drewN 1) from below_drewN (HL4.out.trans HLr.out) 1) hl5)
          clear hl5 c1 c2 d1 d2
          go_wp2_with fail
          go_ret
          exact ⟨rfl, HL5.out⟩
        · have g2 : q < z := by
            have : ¬ z ≤ q := fun h => by
              have e1 : decide (1 ≤ z) = true := decide_eq_true (by omega)
              have e2 : decide (z ≤ q) = true := decide_eq_true h
              rw [e1, e2] at hok; cases hok
            omega
          clear hok
          go_wp2_with fail
          have e1 : decide (z < 1) = false := decide_eq_false (by omega)
          have e2 : decide (q < z) = true := decide_eq_true (by omega)
          have g1 : ¬ z < 1 := by omega
          refine wp_region_k (by kernel_rfl) ?_
          refine wpAnyK_take 0 (v := ?_) rfl (by kernel_rfl) (by kernel_rfl) (by kernel_rfl) (fun _ _ _ h => h) (by rfl) (by intro W hSw; go_simp; with_reducible rfl) ?_; try simp only [Act.put, List.setIfInBounds_toArray, List.set_cons_zero, List.set_cons_succ]
          refine wpAnyK_take 1 (v := ?_) rfl (by kernel_rfl) (by kernel_rfl) (by kernel_rfl) (fun _ _ _ h => h) (by rfl) (by intro W hSw; go_simp; with_reducible rfl) ?_; try simp only [Act.put, List.setIfInBounds_toArray, List.set_cons_zero, List.set_cons_succ]
          refine wpAnyK_take 2 (v := ?_) rfl (by kernel_rfl) (by kernel_rfl) (by kernel_rfl) (fun _ _ _ h => h) (by rfl) (by intro W hSw; go_simp; with_reducible rfl) ?_; try simp only [Act.put, List.setIfInBounds_toArray, List.set_cons_zero, List.set_cons_succ]
          refine wpAnyK_take 3 (v := ?_) rfl (by kernel_rfl) (by kernel_rfl) (by kernel_rfl) (fun _ _ _ h => h) (by rfl) (by intro W hSw; go_simp; with_reducible rfl) ?_; try simp only [Act.put, List.setIfInBounds_toArray, List.set_cons_zero, List.set_cons_succ]
          refine wpAnyK_take 4 (v := ?_) rfl (by kernel_rfl) (by kernel_rfl) (by kernel_rfl) (fun _ _ _ h => h) (by rfl) (by intro W hSw; go_simp; with_reducible rfl) ?_; try simp only [Act.put, List.setIfInBounds_toArray, List.set_cons_zero, List.set_cons_succ]
          refine wpAnyK_take 5 (v := ?_) rfl (by kernel_rfl) (by kernel_rfl) (by kernel_rfl) (fun _ _ _ h => h) (by rfl) (by intro W hSw; go_simp; with_reducible rfl) ?_; try simp only [Act.put, List.setIfInBounds_toArray, List.set_cons_zero, List.set_cons_succ]
          refine wpAnyK_take 6 (v := ?_) rfl (by kernel_rfl) (by kernel_rfl) (by kernel_rfl) (fun _ _ _ h => h) (by rfl) (by intro W hSw; go_simp; with_reducible rfl) ?_; try simp only [Act.put, List.setIfInBounds_toArray, List.set_cons_zero, List.set_cons_succ]
          refine wpAnyK_take 7 (v := ?_) rfl (by kernel_rfl) (by kernel_rfl) (by kernel_rfl) (fun _ _ _ h => h) (by rfl) (by intro W hSw; go_simp; with_reducible rfl) ?_; try simp only [Act.put, List.setIfInBounds_toArray, List.set_cons_zero, List.set_cons_succ]
          refine wpAnyK_take 8 (v := ?_) rfl (by kernel_rfl) (by kernel_rfl) (by kernel_rfl) (fun _ _ _ h => h) (by rfl) (by intro W hSw; go_simp; with_reducible rfl) ?_; try simp only [Act.put, List.setIfInBounds_toArray, List.set_cons_zero, List.set_cons_succ]
          refine wpAnyK_take 9 (v := ?_) rfl (by kernel_rfl) (by kernel_rfl) (by kernel_rfl) (fun _ _ _ h => h) (by rfl) (by intro W hSw; go_simp; with_reducible rfl) ?_; try simp only [Act.put, List.setIfInBounds_toArray, List.set_cons_zero, List.set_cons_succ]
          refine wpAnyK_take 10 (v := ?_) rfl (by kernel_rfl) (by kernel_rfl) (by kernel_rfl) (fun _ _ _ h => h) (by rfl) (by intro W hSw; go_simp; with_reducible rfl) ?_; try simp only [Act.put, List.setIfInBounds_toArray, List.set_cons_zero, List.set_cons_succ]
          refine wpAnyK_take 11 (v := ?_) rfl (by kernel_rfl) (by kernel_rfl) (by kernel_rfl) (fun _ _ _ h => h) (by rfl) (by intro W hSw; go_simp; with_reducible rfl) ?_; try simp only [Act.put, List.setIfInBounds_toArray, List.set_cons_zero, List.set_cons_succ]
          refine wpAnyK_take 12 (v := ?_) rfl (by kernel_rfl) (by kernel_rfl) (by kernel_rfl) (fun _ _ _ h => h) (by rfl) (by intro W hSw; go_simp; with_reducible rfl) ?_; try simp only [Act.put, List.setIfInBounds_toArray, List.set_cons_zero, List.set_cons_succ]
          refine wpAnyK_take 13 (v := ?_) rfl (by kernel_rfl) (by kernel_rfl) (by kernel_rfl) (fun _ _ _ h => h) (by rfl) (by intro W hSw; go_simp; with_reducible rfl) ?_; try simp only [Act.put, List.setIfInBounds_toArray, List.set_cons_zero, List.set_cons_succ]
          refine wpAnyK_take 14 (v := ?_) rfl (by kernel_rfl) (by kernel_rfl) (by kernel_rfl) (fun _ _ _ h => h) (by rfl) (by intro W hSw; go_simp; with_reducible rfl) ?_; try simp only [Act.put, List.setIfInBounds_toArray, List.set_cons_zero, List.set_cons_succ]
          refine wpAnyK_take 15 (v := ?_) rfl (by kernel_rfl) (by kernel_rfl) (by kernel_rfl) (fun _ _ _ h => h) (by rfl) (by intro W hSw; go_simp; with_reducible rfl) ?_; try simp only [Act.put, List.setIfInBounds_toArray, List.set_cons_zero, List.set_cons_succ]
          refine wpAnyK_done (by kernel_rfl) ?_ _
          go_wp2_with fail
          refine (awake_any (HE.out.later (below_drewN (HL4.out.trans HLr.out) 1))).mono ?_; rintro e w5 ⟨rfl, hl5⟩
          have HL5 := hide_ (Later.trans (show Later w (wr.drewN 1) from below_drewN (HL4.out.trans HLr.out) 1) hl5)
          clear hl5 c1 c2 d1 d2
          go_wp2_with fail
          go_ret
          exact ⟨rfl, HL5.out⟩
      | true =>
        have HOKK := hide_ hok
        unfold okN at hok
        simp only [Bool.and_eq_true, decide_eq_true_eq] at hok
        obtain ⟨g1', g2'⟩ := hok
        have g1 : ¬ z < 1 := by omega
        have g2 : ¬ q < z := by omega
        have HZ64 := hide_ (HS.out z (List.mem_of_getElem? HZ.out))
        have HOK2 := hide_ (show ∀ j z m, j < k + 1 → s.nums[j]? = some z → mostN[j]? = some m → okN (z, m) = true from fun j z' m' hj hz' hm' => by
          by_cases e : j = k
          · subst e
            rw [HZ.out] at hz'; rw [HQ.out] at hm'
            injection hz' with hz'; injection hm' with hm'
            subst hz' hm'; exact HOKK.out
          · exact HOK.out j z' m' (by omega) hz' hm')
        have HNX := hide_ (headK_next HZ.out)
        clear g1' g2'
        go_wp2_with fail
        have e1 : decide (z < 1) = false := decide_eq_false (by omega)
        have e2 : decide (q < z) = false := decide_eq_false (by omega)
        have g1 : ¬ z < 1 := by omega
        have g2 : ¬ q < z := by omega
        refine wp_region_k (by kernel_rfl) ?_
        refine wpAnyK_take 0 (v := ?_) rfl (by kernel_rfl) (by kernel_rfl) (by kernel_rfl) (fun _ _ _ h => h) (by rfl) (by intro W hSw; go_simp; with_reducible rfl) ?_; try simp only [Act.put, List.setIfInBounds_toArray, List.set_cons_zero, List.set_cons_succ]
        refine wpAnyK_take 1 (v := ?_) rfl (by kernel_rfl) (by kernel_rfl) (by kernel_rfl) (fun _ _ _ h => h) (by rfl) (by intro W hSw; go_simp; with_reducible rfl) ?_; try simp only [Act.put, List.setIfInBounds_toArray, List.set_cons_zero, List.set_cons_succ]
        refine wpAnyK_take 2 (v := ?_) rfl (by kernel_rfl) (by kernel_rfl) (by kernel_rfl) (fun _ _ _ h => h) (by rfl) (by intro W hSw; go_simp; with_reducible rfl) ?_; try simp only [Act.put, List.setIfInBounds_toArray, List.set_cons_zero, List.set_cons_succ]
        refine wpAnyK_take 3 (v := ?_) rfl (by kernel_rfl) (by kernel_rfl) (by kernel_rfl) (fun _ _ _ h => h) (by rfl) (by intro W hSw; go_simp; with_reducible rfl) ?_; try simp only [Act.put, List.setIfInBounds_toArray, List.set_cons_zero, List.set_cons_succ]
        refine wpAnyK_take 4 (v := ?_) rfl (by kernel_rfl) (by kernel_rfl) (by kernel_rfl) (fun _ _ _ h => h) (by rfl) (by intro W hSw; go_simp; with_reducible rfl) ?_; try simp only [Act.put, List.setIfInBounds_toArray, List.set_cons_zero, List.set_cons_succ]
        refine wpAnyK_take 5 (v := ?_) rfl (by kernel_rfl) (by kernel_rfl) (by kernel_rfl) (fun _ _ _ h => h) (by rfl) (by intro W hSw; go_simp; with_reducible rfl) ?_; try simp only [Act.put, List.setIfInBounds_toArray, List.set_cons_zero, List.set_cons_succ]
        refine wpAnyK_take 6 (v := ?_) rfl (by kernel_rfl) (by kernel_rfl) (by kernel_rfl) (fun _ _ _ h => h) (by rfl) (by intro W hSw; go_simp; with_reducible rfl) ?_; try simp only [Act.put, List.setIfInBounds_toArray, List.set_cons_zero, List.set_cons_succ]
        refine wpAnyK_take 7 (v := ?_) rfl (by kernel_rfl) (by kernel_rfl) (by kernel_rfl) (fun _ _ _ h => h) (by rfl) (by intro W hSw; go_simp; with_reducible rfl) ?_; try simp only [Act.put, List.setIfInBounds_toArray, List.set_cons_zero, List.set_cons_succ]
        refine wpAnyK_take 8 (v := ?_) rfl (by kernel_rfl) (by kernel_rfl) (by kernel_rfl) (fun _ _ _ h => h) (by rfl) (by intro W hSw; go_simp; with_reducible rfl) ?_; try simp only [Act.put, List.setIfInBounds_toArray, List.set_cons_zero, List.set_cons_succ]
        refine wpAnyK_take 9 (v := ?_) rfl (by kernel_rfl) (by kernel_rfl) (by kernel_rfl) (fun _ _ _ h => h) (by rfl) (by intro W hSw; go_simp; with_reducible rfl) ?_; try simp only [Act.put, List.setIfInBounds_toArray, List.set_cons_zero, List.set_cons_succ]
        refine wpAnyK_take 10 (v := ?_) rfl (by kernel_rfl) (by kernel_rfl) (by kernel_rfl) (fun _ _ _ h => h) (by rfl) (by intro W hSw; go_simp; with_reducible rfl) ?_; try simp only [Act.put, List.setIfInBounds_toArray, List.set_cons_zero, List.set_cons_succ]
        refine wpAnyK_take 11 (v := ?_) rfl (by kernel_rfl) (by kernel_rfl) (by kernel_rfl) (fun _ _ _ h => h) (by rfl) (by intro W hSw; go_simp; with_reducible rfl) ?_; try simp only [Act.put, List.setIfInBounds_toArray, List.set_cons_zero, List.set_cons_succ]
        refine wpAnyK_take 12 (v := ?_) rfl (by kernel_rfl) (by kernel_rfl) (by kernel_rfl) (fun _ _ _ h => h) (by rfl) (by intro W hSw; go_simp; with_reducible rfl) ?_; try simp only [Act.put, List.setIfInBounds_toArray, List.set_cons_zero, List.set_cons_succ]
        refine wpAnyK_take 13 (v := ?_) rfl (by kernel_rfl) (by kernel_rfl) (by kernel_rfl) (fun _ _ _ h => h) (by rfl) (by intro W hSw; go_simp; with_reducible rfl) ?_; try simp only [Act.put, List.setIfInBounds_toArray, List.set_cons_zero, List.set_cons_succ]
        refine wpAnyK_take 14 (v := ?_) rfl (by kernel_rfl) (by kernel_rfl) (by kernel_rfl) (fun _ _ _ h => h) (by rfl) (by intro W hSw; go_simp; with_reducible rfl) ?_; try simp only [Act.put, List.setIfInBounds_toArray, List.set_cons_zero, List.set_cons_succ]
        refine wpAnyK_take 15 (v := ?_) rfl (by kernel_rfl) (by kernel_rfl) (by kernel_rfl) (fun _ _ _ h => h) (by rfl) (by intro W hSw; go_simp; with_reducible rfl) ?_; try simp only [Act.put, List.setIfInBounds_toArray, List.set_cons_zero, List.set_cons_succ]
        refine wpAnyK_done (by kernel_rfl) ?_ _
        have c3 : wr.drew.cell? ⟨nb, k, none⟩ = some (.int .i64 z) := c1
        go_wp2_with fail
        refine (number_any z HZ64.out.1 HZ64.out.2).mono ?_; rintro e w5 ⟨rfl, hl5⟩
        have HL5 := hide_ (show Later W4 w5 from Later.trans (show Later W4 (wr.drewN 1) from below_drewN HLr.out 1) hl5)
        obtain ⟨U, hU⟩ : ∃ U : ByteArray, U = ⟨(Lib.itoa z).toArray⟩ := ⟨_, rfl⟩
        have hUs : U.size ≤ 21 := by rw [hU]; exact itoa_len21 HZ64.out
        have HUD := hide_ (show U.data.toList = Lib.itoa z by rw [hU])
        unfold strV
        rw [← hU]
        have HVN := hide_ (show (V ++ (({ data := #[32] } : ByteArray) ++ U)).data.toList = headK s (k + 1) by
          rw [HNX.out, ByteArray.data_append, Array.toList_append, ByteArray.data_append, Array.toList_append, HUD.out, HV.out]; rfl)
        have hcs : (({ data := #[32] } : ByteArray) ++ U).size ≤ 22 := by
          rw [ByteArray.size_append]; have : ({ data := #[32] } : ByteArray).size = 1 := rfl; omega
        clear hl5 hU c1 c2 c3 d1 d2
        go_wp2_with fail
        go_roundw
        case rel => exact ⟨k + 1, _, by omega, by go_num, rfl, HVN, HOK2, HL5⟩
        case measure => simp [intOf]; omega
    · have a1 : ¬ (k : Int) < 6 := by omega
      have HSF := hide_ (show soundF s = true from sound_from fun j z m hj hz hm => HOK.out j z m (by omega) hz hm)
      have HVH := hide_ (show V.data.toList = headF s by have := HV.out; rwa [show k = 6 by omega, headK_end] at this)
      by_cases hbig : (4096 : Int) < (n : Int)
      · have HTE2 := hide_ (show T = [] ∧ E = 6 by
          have h1 := HTE.out
          unfold scriptF at h1
          rw [if_neg (by rw [HSF.out]; decide), if_pos (by rw [HL.out]; omega)] at h1
          injection h1 with h2 h3
          exact ⟨h2.symm, h3.symm⟩)
        obtain ⟨rfl, rfl⟩ := HTE2.out
        go_wp2_with fail
        refine (awake_any (HE.out.later (HL4.out.trans HLr.out))).mono ?_; rintro e w5 ⟨rfl, hl5⟩
        have HL5 := hide_ (Later.trans (HL4.out.trans HLr.out) hl5)
        clear hl5
        go_wp2_with fail
        go_ret
        exact ⟨rfl, HL5.out⟩
      · have hbig' : (n : Int) ≤ 4096 := by omega
        have HFL := hide_ (show (headF s).length ≤ 136 by rw [← headK_end]; exact headK_len HS.out 6)
        go_wp2_with fail
        obtain ⟨V0, hV0⟩ : ∃ V0, V0 = V ++ ({ data := #[10] } : ByteArray) := ⟨_, rfl⟩
        rw [← hV0]
        have HV0 := hide_ (show V0.data.toList = headF s ++ ([] : List (List UInt8)).flatMap (10 :: ·) ++ [10] by
          rw [hV0, ByteArray.data_append, Array.toList_append, HVH.out]; simp)
        obtain ⟨wo, rfl⟩ : ∃ wo, wo = wr := ⟨_, rfl⟩
        have HLr4 := hide_ (HL4.out.trans HLr.out)
        have HRr := hide_ (later_row HLr.out HR4.out)
        clear hV0 hVs HV HVH HOK a1 hlt hk6
        go_loopw [9, 11] (fun s9 s11 wr => ∃ (k : Nat) (V : ByteArray) (ls : List (List UInt8)), k ≤ n ∧ s11 = .int .i64 k ∧ s9 = .string V ∧ Hid (V.data.toList = headF s ++ ls.flatMap (10 :: ·) ++ [10]) ∧ Hid (linesF (L.take k) = some ls) ∧ Hid (Later wo wr)) (fun _ i _ => n - (intOf i).toNat)
        case atStart => exact ⟨0, _, [], by omega, rfl, rfl, HV0, hide_ rfl, Later.refl _⟩
        case round =>
          obtain ⟨k, V, ls, hkn, rfl, rfl, HV, HLS, HLq⟩ := hrel
          have hVs : V.size ≤ 4398046556160 := by
            have h1 := HV.out
            have h2 := body_len HLS.out (fun y hy => HX.out y (List.mem_of_mem_take hy))
            have h3 : V.size = V.data.toList.length := (Array.length_toList).symm
            have h4 : (L.take k).length * 1073741833 ≤ 4096 * 1073741833 := Nat.mul_le_mul_right _ (by rw [List.length_take]; omega)
            have h5 := HFL.out
            rw [h3, h1, List.length_append, List.length_append, List.length_singleton]; omega
          by_cases hlt : k < n
          · obtain ⟨x, hx⟩ : ∃ x, L[k]? = some x := ⟨_, List.getElem?_eq_getElem (by rw [HL.out]; exact hlt)⟩
            obtain ⟨b0, o0, rfl, l0, l1, l2, l3, l4, l5⟩ := (HR.out.below (HLr4.out.trans HLq.out)).act hx
            have HXM := hide_ (HX.out x (List.mem_of_getElem? hx))
            have HXI := hide_ (List.mem_of_getElem? hx)
            have HTS := hide_ (take_snoc hx)
            have a1 : (k : Int) < (n : Int) := by omega
            have a2 : (0 : Int) ≤ (k : Int) := by omega
            have a3 : (k : Int) ≤ 4096 := by omega
            have HLI := hide_ (show Calls Tryd.prog 8 #[.agg #[.int .i64 x.kind, .int .i64 x.a, .int .i64 x.b, .int .i64 x.n, .string ⟨x.key.toArray⟩, .string ⟨x.val.toArray⟩]] wr (LLPost x wr) from lline_any x HXM.out.ok)
            clear hx
            go_wp2_with fail
            unfold LLPost at HLI
            refine HLI.out.mono ?_; rintro e w6 ⟨⟨l, b, rfl, h1, h2⟩, hl6⟩
            have HL6 := hide_ (HLq.out.trans hl6)
            have HL6w := hide_ (Later.trans HLr4.out HL6.out)
            cases b with
            | false =>
              have HC := hide_ (h2 rfl)
              have HTE2 := hide_ (show T = [] ∧ E = 1 by
                have h1 := HTE.out
                unfold scriptF at h1
                rw [if_neg (by rw [HSF.out]; decide), if_neg (by rw [HL.out]; omega), linesF_none HXI.out HC.out] at h1
                injection h1 with h2 h3
                exact ⟨h2.symm, h3.symm⟩)
              obtain ⟨rfl, rfl⟩ := HTE2.out
              clear h1 h2 hl6 l0 l1 l2 l3 l4 l5
              unfold strV
              go_wp2_with fail
              refine (awake_any (HE.out.later HL6w.out)).mono ?_; rintro e w7 ⟨rfl, hl7⟩
              have HL7 := hide_ (Later.trans HL6w.out hl7)
              clear hl7
              go_wp2_with fail
              go_ret
              exact ⟨rfl, HL7.out⟩
            | true =>
              have HC := hide_ (h1 rfl)
              have HLN2 := hide_ (line_lenM HXM.out.ok HXM.out.key HXM.out.val HC.out)
              obtain ⟨U, hU⟩ : ∃ U : ByteArray, U = ⟨l.toArray⟩ := ⟨_, rfl⟩
              have hUs : U.size ≤ 1073741832 := by rw [hU]; exact HLN2.out
              have HUD := hide_ (show U.data.toList = l by rw [hU])
              unfold strV
              rw [← hU]
              have HVN := hide_ (show (V ++ (U ++ ({ data := #[10] } : ByteArray))).data.toList = headF s ++ (ls ++ [l]).flatMap (10 :: ·) ++ [10] by
                rw [ByteArray.data_append, Array.toList_append, ByteArray.data_append, Array.toList_append, HUD.out, HV.out]; simp)
              have hcs : (U ++ ({ data := #[10] } : ByteArray)).size ≤ 1073741833 := by
                rw [ByteArray.size_append]; have : ({ data := #[10] } : ByteArray).size = 1 := rfl; omega
              have HLS2 := hide_ (show linesF (L.take (k + 1)) = some (ls ++ [l]) by rw [HTS.out]; exact linesF_snoc HLS.out HC.out)
              clear h1 h2 hl6 hU l0 l1 l2 l3 l4 l5
              go_wp2_with fail
              go_roundw
              case rel => exact ⟨k + 1, _, ls ++ [l], by omega, by go_num, rfl, HVN, HLS2, HL6⟩
              case measure => simp [intOf]; omega
          · have HLS2 := hide_ (show linesF L = some ls by have := HLS.out; rwa [List.take_of_length_le (by rw [HL.out]; omega)] at this)
            have HTE2 := hide_ (show T = headF s ++ ls.flatMap (10 :: ·) ++ [10] ∧ E = 0 by
              have h1 := HTE.out
              unfold scriptF at h1
              rw [if_neg (by rw [HSF.out]; decide), if_neg (by rw [HL.out]; omega), HLS2.out] at h1
              injection h1 with h2 h3
              exact ⟨h2.symm, h3.symm⟩)
            have HVT := hide_ (show V = ⟨T.toArray⟩ from ba_ext (by rw [HV.out, HTE2.out.1]))
            have hE0 := HTE2.out.2
            have b1 : ¬ (k : Int) < (n : Int) := by omega
            have HLw := hide_ (Later.trans HLr4.out HLq.out)
            have HRw := hide_ (later_row HLq.out HRr.out)
            have HREAD := hide_ (read_any (HE.out.later HLw.out) T HTL.out)
            rw [HVT.out]
            subst hE0
            clear hVs HV HVT
            go_wp2_with fail
            refine HREAD.out.mono ?_; rintro e w8 ⟨ho, hl8⟩
            rcases ho with ⟨s', A', n', c', L', rfl, hRd, hLn, hs', hmid, hscr⟩ | ⟨rfl, hno⟩
            · obtain ⟨rfl, rfl⟩ := script_inj HTE.out hscr (fun x hx => (HX.out x hx).ok) (fun x hx => (hmid x hx).ok)
              obtain ⟨W9, hW9⟩ : ∃ W9, W9 = w8.alloc (.cells s.row 35) := ⟨_, rfl⟩
              have hl9 : Later w8 W9 := by rw [hW9]; exact later_alloc _ _
              have HR9 := hide_ (show W9.heap[w8.heap.size]? = some (.cells s.row 35 (0, 0)) by rw [hW9]; exact heap_alloc_new w8 _)
              have HS9 := hide_ (later_row hl9 (later_row hl8 HRw.out))
              have HL9 := hide_ (Later.trans HLw.out (hl8.trans hl9))
              have HRD9 := hide_ (hRd.below hl9)
              have HW9 := hide_ hW9.symm
              obtain rfl : n = n' := by rw [← HL.out, hLn]
              unfold SV.row at HW9
              unfold SV.val
              clear hW9 hl9 hl8 hRd hLn hs' hmid hscr
              go_wp2_with (rw [HW9.out])
              refine (awake_any (HE.out.later HL9.out)).mono ?_; rintro e w10 ⟨rfl, hl10⟩
              have HL10 := hide_ (Later.trans HL9.out hl10)
              have HRD10 := hide_ (HRD9.out.below hl10)
              have hnz : ∀ W, (binOp .neq 35 (.agg #[.int .i64 s.n0, .int .i64 s.n1, .int .i64 s.n2, .int .i64 s.n3, .int .i64 s.n4, .int .i64 s.n5]) (.agg #[.int .i64 s.n0, .int .i64 s.n1, .int .i64 s.n2, .int .i64 s.n3, .int .i64 s.n4, .int .i64 s.n5])).run Tryd.prog W = .ok (.bool false) W := fun W => by
                have h := neq_set s s W
                unfold SV.val at h
                rw [h]; simp
              have hgz := guard_set
              obtain ⟨⟨p0, p1, p2, p3, p4, p5⟩, _⟩ := six_nums (later_row hl10 HR9.out)
              obtain ⟨⟨q0, q1, q2, q3, q4, q5⟩, _⟩ := six_nums (later_row hl10 HS9.out)
              clear hl10
              go_wp2_with fail
              clear p0 p1 p2 p3 p4 p5 q0 q1 q2 q3 q4 q5 hnz hgz
              go_loopw [17] (fun s17 wr => ∃ (k : Nat), k ≤ n ∧ s17 = .int .i64 k ∧ Hid (Later w10 wr)) (fun i _ => n - (intOf i).toNat)
              case atStart => exact ⟨0, by omega, rfl, Later.refl _⟩
              case round =>
                obtain ⟨k, hkn, rfl, HLz⟩ := hrel
                by_cases hlt : k < n
                · obtain ⟨x, hx⟩ : ∃ x, L[k]? = some x := ⟨_, List.getElem?_eq_getElem (by rw [HL.out]; exact hlt)⟩
                  obtain ⟨b0, o0, rfl, l0, l1, l2, l3, l4, l5⟩ := (HR.out.below (HL10.out.trans HLz.out)).act hx
                  obtain ⟨b1, o1, rfl, m0, m1, m2, m3, m4, m5⟩ := (HRD10.out.below HLz.out).act hx
                  have hna : ∀ W, (binOp .neq 23 (.agg #[.int .i64 x.kind, .int .i64 x.a, .int .i64 x.b, .int .i64 x.n, .string ⟨x.key.toArray⟩, .string ⟨x.val.toArray⟩]) (.agg #[.int .i64 x.kind, .int .i64 x.a, .int .i64 x.b, .int .i64 x.n, .string ⟨x.key.toArray⟩, .string ⟨x.val.toArray⟩])).run Tryd.prog W = .ok (.bool false) W := fun W => by
                    have h := neq_act x x W
                    unfold AV.val6 at h
                    rw [h]; simp
                  have hga := guard_act
                  have a1 : (k : Int) < (n : Int) := by omega
                  have a2 : (0 : Int) ≤ (k : Int) := by omega
                  have a3 : (k : Int) ≤ 4096 := by omega
                  have L0 := later_drew_cell l0; have L1 := later_drew_cell l1; have L2 := later_drew_cell l2; have L3 := later_drew_cell l3; have L4 := later_drew_cell l4; have L5 := later_drew_cell l5
                  have M0 := later_drew_cell m0; have M1 := later_drew_cell m1; have M2 := later_drew_cell m2; have M3 := later_drew_cell m3; have M4 := later_drew_cell m4; have M5 := later_drew_cell m5
                  have HLD := hide_ (show Later w10 (wr.drewN 1) from below_drewN HLz.out 1)
                  clear hx
                  go_wp2_with fail
                  refine wp_region_k (by kernel_rfl) ?_
                  refine wpAnyK_take 0 (v := ?_) rfl (by kernel_rfl) (by kernel_rfl) (by kernel_rfl) (fun _ _ _ h => h) (by rfl) (by intro W hSw; go_simp; with_reducible rfl) ?_; try simp only [Act.put, List.setIfInBounds_toArray, List.set_cons_zero, List.set_cons_succ]
                  refine wpAnyK_take 1 (v := ?_) rfl (by kernel_rfl) (by kernel_rfl) (by kernel_rfl) (fun _ _ _ h => h) (by rfl) (by intro W hSw; go_simp; with_reducible rfl) ?_; try simp only [Act.put, List.setIfInBounds_toArray, List.set_cons_zero, List.set_cons_succ]
                  refine wpAnyK_take 2 (v := ?_) rfl (by kernel_rfl) (by kernel_rfl) (by kernel_rfl) (fun _ _ _ h => h) (by rfl) (by intro W hSw; go_simp; with_reducible rfl) ?_; try simp only [Act.put, List.setIfInBounds_toArray, List.set_cons_zero, List.set_cons_succ]
                  refine wpAnyK_take 3 (v := ?_) rfl (by kernel_rfl) (by kernel_rfl) (by kernel_rfl) (fun _ _ _ h => h) (by rfl) (by intro W hSw; go_simp; with_reducible rfl) ?_; try simp only [Act.put, List.setIfInBounds_toArray, List.set_cons_zero, List.set_cons_succ]
                  refine wpAnyK_take 4 (v := ?_) rfl (by kernel_rfl) (by kernel_rfl) (by kernel_rfl) (fun _ _ _ h => h) (by rfl) (by intro W hSw; go_simp; with_reducible rfl) ?_; try simp only [Act.put, List.setIfInBounds_toArray, List.set_cons_zero, List.set_cons_succ]
                  refine wpAnyK_take 5 (v := ?_) rfl (by kernel_rfl) (by kernel_rfl) (by kernel_rfl) (fun _ _ _ h => h) (by rfl) (by intro W hSw; go_simp; with_reducible rfl) ?_; try simp only [Act.put, List.setIfInBounds_toArray, List.set_cons_zero, List.set_cons_succ]
                  refine wpAnyK_take 6 (v := ?_) rfl (by kernel_rfl) (by kernel_rfl) (by kernel_rfl) (fun _ _ _ h => h) (by rfl) (by intro W hSw; go_simp; with_reducible rfl) ?_; try simp only [Act.put, List.setIfInBounds_toArray, List.set_cons_zero, List.set_cons_succ]
                  refine wpAnyK_take 7 (v := ?_) rfl (by kernel_rfl) (by kernel_rfl) (by kernel_rfl) (fun _ _ _ h => h) (by rfl) (by intro W hSw; go_simp; with_reducible rfl) ?_; try simp only [Act.put, List.setIfInBounds_toArray, List.set_cons_zero, List.set_cons_succ]
                  refine wpAnyK_take 8 (v := ?_) rfl (by kernel_rfl) (by kernel_rfl) (by kernel_rfl) (fun _ _ _ h => h) (by rfl) (by intro W hSw; go_simp; with_reducible rfl) ?_; try simp only [Act.put, List.setIfInBounds_toArray, List.set_cons_zero, List.set_cons_succ]
                  refine wpAnyK_done (by kernel_rfl) ?_ _
                  go_wp2_with fail
                  go_roundw
                  case rel => exact ⟨k + 1, by omega, by go_num, HLD⟩
                  case measure => simp [intOf]; omega
                · have c1 : ¬ (k : Int) < (n : Int) := by omega
                  go_wp2_with fail
                  go_ret
                  exact ⟨rfl, Later.trans HL10.out HLz.out⟩
            · exact absurd HTE.out (hno s L (fun x hx => (HX.out x hx).ok))

end Go.Proofs.YtapiglfbkncahaaDoor
