/-
  What changes do to the keys of a span: the document's Cut.
-/
import Derived.Test.YtblljpdlmllceaaKCuts
namespace Go.Proofs.Ytblljpdlmllceaa
open Go.RowKit
set_option linter.unusedVariables false
set_option linter.unusedSimpArgs false
/-- What the document's Cut answers. -/
def RCutPost (s : Spn) (C : List Chg) (p : Nat) (w : World) (e : Ending) (w' : World) : Prop :=
  (∃ (u : Value) (m : Nat), e = .returned u ∧ (cutC s C).length = m ∧ m ≤ p ∧ w'.ownsRow w.heap.size 32 3 u m (crow (cutC s C))) ∧ Later w w'
theorem cut1_wipe' {s : Spn} {k v : ByteArray} {mm : Spn} (hm : smeetS s (k, v) = mm) (h : mm.1 < mm.2) : cut1 s (3, k, v) = [(3, mm.1, mm.2)] := by
  subst hm; exact cut1_wipe (by grind)
theorem cut1_wipe_no' {s : Spn} {k v : ByteArray} {mm : Spn} (hm : smeetS s (k, v) = mm) (h : ¬ mm.1 < mm.2) : cut1 s (3, k, v) = [] := by
  subst hm; exact cut1_wipe_no (by grind)
set_option maxHeartbeats 4000000 in
theorem rcut_any {w : World} {A : Option Addr} {p c : Nat} {C : List Chg} (s : Spn) (hr : Rd w 3 A p (crow C)) (hl : C.length = p) (hn : p ≤ 1048576) (h0 : chkAll C = 0) :
    Calls Try.prog 24 #[.agg #[.string s.1, .string s.2], .slice A p c] w (RCutPost s C p w) := by
  obtain ⟨W0, hW0⟩ : ∃ W0, W0 = w.alloc (.cells #[.string s.1, .string s.2] 34) := ⟨_, rfl⟩
  have hbs : W0.heap[w.heap.size]? = some (.cells #[.string s.1, .string s.2] 34 (0, 0)) := by rw [hW0]; exact heap_alloc_new w _
  have HB0 := hide_ (show Later w W0 by rw [hW0]; exact later_alloc _ _)
  obtain ⟨w1, hw1⟩ : ∃ w1, w1 = W0.alloc (.cells #[] 32) := ⟨_, rfl⟩
  have hz0 : W0.heap.size = w.heap.size + 1 := by rw [hW0]; simp
  have HO1 := hide_ (show w1.ownsRow W0.heap.size 32 3 (.slice (some ⟨W0.heap.size, 0, none⟩) 0 0) 0 (crow (cutC s (C.take 0))) by rw [hw1]; exact own_new W0 #[] 32 3 0 W0.heap.size rfl (Nat.zero_le _) (Nat.le_refl _))
  have HB1 := hide_ (show Later W0 w1 by rw [hw1]; exact later_alloc _ _)
  have HX1 := hide_ hbs
  have HW := hide_ (show (w.alloc (.cells #[.string s.1, .string s.2] 34)).alloc (.cells #[] 32) = w1 by rw [hw1, hW0])
  have HR1 := hide_ (hr.below HB0.out); have HL := hide_ hl
  have HMEM := hide_ (fun c (hc : c ∈ C) => chk_size (chkAll_mem h0 c hc))
  have hn2 : (p : Int) ≤ 1048576 := by omega
  rw [hz0] at HO1
  have HZ0 := hide_ hz0
  clear hr hl hW0 hbs h0 hz0 hw1
  go_enter Try.func24, Try.ntmps24
  go_wp2_with fail
  rw [HW.out]
  clear HW
  go_loopw [5, 6] (fun s5 s6 wr => ∃ (k m : Nat), k ≤ p ∧ s6 = .int .i64 k ∧ m ≤ k ∧ Hid ((cutC s (C.take k)).length = m) ∧ Hid (wr.ownsRow (w.heap.size + 1) 32 3 s5 m (crow (cutC s (C.take k)))) ∧ Hid (Later W0 wr)) (fun _ i _ => p - (intOf i).toNat)
  case atStart => exact ⟨0, 0, Nat.zero_le _, rfl, Nat.le_refl _, hide_ rfl, HO1, HB1⟩
  case round =>
    obtain ⟨k, m, hkp, rfl, hmk, HM, HO, HBB⟩ := hrel
    obtain ⟨A4, c4, rfl⟩ := own_form HO.out
    by_cases hlt : k < p
    · obtain ⟨x, hx⟩ : ∃ x, C[k]? = some x := ⟨_, List.getElem?_eq_getElem (by rw [HL.out]; exact hlt)⟩
      obtain ⟨b, o, rfl, l0, l1, l2⟩ := (HR1.out.below HBB.out).chg hx
      obtain ⟨kd, kx, vx⟩ := x
      have q1 : (k : Int) < (p : Int) := by omega
      have q2 : (0 : Int) ≤ (k : Int) := by omega
      have q3 : (k : Int) ≤ 1048576 := by omega
      have HT := hide_ (take_snoc hx)
      have HKX := hide_ (HMEM.out _ (List.mem_of_getElem? hx))
      have hx1 := (HBB.out.block w.heap.size (heap_lt0 HX1.out)).trans HX1.out
      have hwa := hide_ (later_alloc wr (.cells #[.int .i64 kd, .string kx, .string vx] 32))
      have HO2 := hide_ (HO.out.alloc (.cells #[.int .i64 kd, .string kx, .string vx] 32))
      have hcx : (wr.alloc (.cells #[.int .i64 kd, .string kx, .string vx] 32)).heap[wr.heap.size]? = some (.cells #[.int .i64 kd, .string kx, .string vx] 32 (0, 0)) := heap_alloc_new _ _
      have hsx := row_al hx1 (.cells #[.int .i64 kd, .string kx, .string vx] 32)
      generalize hWa : wr.alloc (.cells #[.int .i64 kd, .string kx, .string vx] 32) = Wa at hwa HO2 hcx hsx
      have HWA := hide_ hWa
      have HCX := hide_ hcx; have HSX := hide_ hsx
      have ax0 := later_drew_cell (cell_of_row _ _ 0 _ _ (0, 0) HCX.out)
      have ax1 := later_drew_cell (cell_of_row _ _ 1 _ _ (0, 0) HCX.out)
      have ax2 := later_drew_cell (cell_of_row _ _ 2 _ _ (0, 0) HCX.out)
      have as0 := later_drew_cell (cell_of_row _ _ 0 _ _ (0, 0) HSX.out)
      have as1 := later_drew_cell (cell_of_row _ _ 1 _ _ (0, 0) HSX.out)
      have hspc := hide_ (fun W => rspan_any kd kx vx (by have := HKX.out; simp only at this; omega) W)
      have hmeet := hide_ (fun W => srmeet_any s (spanC kd kx vx) W)
      obtain ⟨mm, hmm⟩ : ∃ mm, mm = smeetS s (spanC kd kx vx) := ⟨_, rfl⟩
      rw [← hmm] at hmeet
      have HMM := hide_ hmm.symm
      have HSZ := hide_ (show w.heap.size + 1 ≤ Wa.heap.size from by have h1 := Below.size HBB.out; have h2 := Below.size hwa.out; have := HZ0.out; omega)
      clear hx hx1 hWa hcx hsx hmm
      go_wp2_with fail
      rw [HWA.out]
      apply wp_cut (F := fun bk W => Later Wa.drew W ∧ Wa.heap.size ≤ bk ∧ W.heap[bk]? = some (.cells #[.string mm.1, .string mm.2] 34 (0, 0)))
      case h1 =>
        refine wp_region_l [5] (by kernel_rfl) ?_
        refine wpAnyL_take 0 (v := ?_) rfl (by kernel_rfl) (by kernel_rfl) (by kernel_rfl) (by kernel_rfl) (fun _ _ _ h => h) (by rfl) (by intro W hSw; go_simp; with_reducible rfl) ?_; try simp only [Act.put, List.setIfInBounds_toArray, List.set_cons_zero, List.set_cons_succ]
        refine wpAnyL_take 1 (v := ?_) rfl (by kernel_rfl) (by kernel_rfl) (by kernel_rfl) (by kernel_rfl) (fun _ _ _ h => h) (by rfl) (by intro W hSw; go_simp; with_reducible rfl) ?_; try simp only [Act.put, List.setIfInBounds_toArray, List.set_cons_zero, List.set_cons_succ]
        refine wpAnyL_two 2 4 (by kernel_rfl) rfl rfl (fun K hK => ?_) (fun K hK => ?_)
        · skip
          go_simp
          refine (hspc.out _).mono ?_; rintro e w11 ⟨rfl, hb11⟩
          first | refine hK.out _ _ (by assumption) ?_ | refine hK.out _ _ (Later.refl _) ?_ | refine hK.out _ _ (Below.alloc (Below.refl _ _) (Nat.le_refl _) _) ?_
          clear hK K; try simp only [Act.put, List.setIfInBounds_toArray, List.set_cons_zero, List.set_cons_succ]
          refine wpAnyL_two 3 4 (by kernel_rfl) rfl rfl (fun K hK => ?_) (fun K hK => ?_)
          · skip
            go_simp
            refine (hmeet.out _).mono ?_; rintro e w12 ⟨rfl, hb12⟩; first | (have zr := row_al_later hb12; have z0 := cell_of_row _ _ 0 _ _ (0, 0) zr; have z1 := cell_of_row _ _ 1 _ _ (0, 0) zr; have z2 := frozen_of_row _ _ 0 _ _ zr; have z3 := frozen_of_row _ _ 1 _ _ zr) | (have zr : w12.heap[Wa.heap.size]? = some (.cells #[.string ByteArray.empty, .string ByteArray.empty] 34 (0, 0)) := row_al_later (W := Wa.drew) (Z := (.cells #[.string ByteArray.empty, .string ByteArray.empty] 34)) (hb11.trans hb12); have z0 := cell_of_row _ _ 0 _ _ (0, 0) zr; have z1 := cell_of_row _ _ 1 _ _ (0, 0) zr; have z2 := frozen_of_row _ _ 0 _ _ zr; have z3 := frozen_of_row _ _ 1 _ _ zr) | skip
            first | refine hK.out _ _ (by assumption) ?_ | refine hK.out _ _ (Later.refl _) ?_ | refine hK.out _ _ (Below.alloc (Below.refl _ _) (Nat.le_refl _) _) ?_
            clear hK K; try simp only [Act.put, List.setIfInBounds_toArray, List.set_cons_zero, List.set_cons_succ]
            refine wpAnyL_one 4 (by kernel_rfl) rfl (fun K hK => ?_)
            go_simp
            first | refine hK.out _ _ (by assumption) ?_ | refine hK.out _ _ (Later.refl _) ?_ | refine hK.out _ _ (Below.alloc (Below.refl _ _) (Nat.le_refl _) _) ?_
            clear hK K; try simp only [Act.put, List.setIfInBounds_toArray, List.set_cons_zero, List.set_cons_succ]
            refine wpAnyL_loud 5 (by kernel_rfl) (by rfl) rfl (fun K hK => ?_)
            go_simp
            refine hK.out _ _ ?_
            clear hK K; try simp only [Act.put, List.setIfInBounds_toArray, List.set_cons_zero, List.set_cons_succ]
            refine wpAnyL_done (by kernel_rfl) ?_ _
            (first | (have hl := hb11.trans hb12; have hgr2 := Below.size hl; generalize hbk : w12.heap.size = bk at *; exact cut_leaf bk rfl ⟨hl.trans (later_alloc _ _), hgr2, by rw [← hbk]; exact heap_alloc_new _ _⟩) | (have hl := (hb11.trans (later_alloc _ _)).trans hb12; have hgr2 := Below.size hb11; generalize hbk : w11.heap.size = bk at *; exact cut_leaf bk rfl (set_two' hl hgr2 zr)) | (have hl := ((later_alloc Wa.drew (.cells #[.string ByteArray.empty, .string ByteArray.empty] 34)).trans hb11).trans hb12; have hgr2 := Nat.le_refl Wa.drew.heap.size; generalize hbk : Wa.heap.size = bk at *; have ht := set_two' (u := .string mm.1) (v := .string mm.2) hl (by have : Wa.drew.heap.size = bk := hbk; omega) zr; exact cut_leaf bk rfl ⟨ht.1, Nat.le_refl _, ht.2.2⟩))
          · skip
            go_simp
            first | refine hK.out _ _ (by assumption) ?_ | refine hK.out _ _ (Later.refl _) ?_ | refine hK.out _ _ (Below.alloc (Below.refl _ _) (Nat.le_refl _) _) ?_
            clear hK K; try simp only [Act.put, List.setIfInBounds_toArray, List.set_cons_zero, List.set_cons_succ]
            refine wpAnyL_one 3 (by kernel_rfl) rfl (fun K hK => ?_)
            go_simp
            refine (hmeet.out _).mono ?_; rintro e w12 ⟨rfl, hb12⟩; first | (have zr := row_al_later hb12; have z0 := cell_of_row _ _ 0 _ _ (0, 0) zr; have z1 := cell_of_row _ _ 1 _ _ (0, 0) zr; have z2 := frozen_of_row _ _ 0 _ _ zr; have z3 := frozen_of_row _ _ 1 _ _ zr) | (have zr : w12.heap[Wa.heap.size]? = some (.cells #[.string ByteArray.empty, .string ByteArray.empty] 34 (0, 0)) := row_al_later (W := Wa.drew) (Z := (.cells #[.string ByteArray.empty, .string ByteArray.empty] 34)) (hb11.trans hb12); have z0 := cell_of_row _ _ 0 _ _ (0, 0) zr; have z1 := cell_of_row _ _ 1 _ _ (0, 0) zr; have z2 := frozen_of_row _ _ 0 _ _ zr; have z3 := frozen_of_row _ _ 1 _ _ zr) | skip
            first | refine hK.out _ _ (by assumption) ?_ | refine hK.out _ _ (Later.refl _) ?_ | refine hK.out _ _ (Below.alloc (Below.refl _ _) (Nat.le_refl _) _) ?_
            clear hK K; try simp only [Act.put, List.setIfInBounds_toArray, List.set_cons_zero, List.set_cons_succ]
            refine wpAnyL_loud 5 (by kernel_rfl) (by rfl) rfl (fun K hK => ?_)
            go_simp
            refine hK.out _ _ ?_
            clear hK K; try simp only [Act.put, List.setIfInBounds_toArray, List.set_cons_zero, List.set_cons_succ]
            refine wpAnyL_done (by kernel_rfl) ?_ _
            (first | (have hl := hb11.trans hb12; have hgr2 := Below.size hl; generalize hbk : w12.heap.size = bk at *; exact cut_leaf bk rfl ⟨hl.trans (later_alloc _ _), hgr2, by rw [← hbk]; exact heap_alloc_new _ _⟩) | (have hl := (hb11.trans (later_alloc _ _)).trans hb12; have hgr2 := Below.size hb11; generalize hbk : w11.heap.size = bk at *; exact cut_leaf bk rfl (set_two' hl hgr2 zr)) | (have hl := ((later_alloc Wa.drew (.cells #[.string ByteArray.empty, .string ByteArray.empty] 34)).trans hb11).trans hb12; have hgr2 := Nat.le_refl Wa.drew.heap.size; generalize hbk : Wa.heap.size = bk at *; have ht := set_two' (u := .string mm.1) (v := .string mm.2) hl (by have : Wa.drew.heap.size = bk := hbk; omega) zr; exact cut_leaf bk rfl ⟨ht.1, Nat.le_refl _, ht.2.2⟩))
        · skip
          go_simp
          first | refine hK.out _ _ (by assumption) ?_ | refine hK.out _ _ (Later.refl _) ?_ | refine hK.out _ _ (Below.alloc (Below.refl _ _) (Nat.le_refl _) _) ?_
          clear hK K; try simp only [Act.put, List.setIfInBounds_toArray, List.set_cons_zero, List.set_cons_succ]
          refine wpAnyL_one 2 (by kernel_rfl) rfl (fun K hK => ?_)
          go_simp
          refine (hspc.out _).mono ?_; rintro e w11 ⟨rfl, hb11⟩
          first | refine hK.out _ _ (by assumption) ?_ | refine hK.out _ _ (Later.refl _) ?_ | refine hK.out _ _ (Below.alloc (Below.refl _ _) (Nat.le_refl _) _) ?_
          clear hK K; try simp only [Act.put, List.setIfInBounds_toArray, List.set_cons_zero, List.set_cons_succ]
          refine wpAnyL_one 3 (by kernel_rfl) rfl (fun K hK => ?_)
          go_simp
          refine (hmeet.out _).mono ?_; rintro e w12 ⟨rfl, hb12⟩; first | (have zr := row_al_later hb12; have z0 := cell_of_row _ _ 0 _ _ (0, 0) zr; have z1 := cell_of_row _ _ 1 _ _ (0, 0) zr; have z2 := frozen_of_row _ _ 0 _ _ zr; have z3 := frozen_of_row _ _ 1 _ _ zr) | (have zr : w12.heap[Wa.heap.size]? = some (.cells #[.string ByteArray.empty, .string ByteArray.empty] 34 (0, 0)) := row_al_later (W := Wa.drew) (Z := (.cells #[.string ByteArray.empty, .string ByteArray.empty] 34)) (hb11.trans hb12); have z0 := cell_of_row _ _ 0 _ _ (0, 0) zr; have z1 := cell_of_row _ _ 1 _ _ (0, 0) zr; have z2 := frozen_of_row _ _ 0 _ _ zr; have z3 := frozen_of_row _ _ 1 _ _ zr) | skip
          first | refine hK.out _ _ (by assumption) ?_ | refine hK.out _ _ (Later.refl _) ?_ | refine hK.out _ _ (Below.alloc (Below.refl _ _) (Nat.le_refl _) _) ?_
          clear hK K; try simp only [Act.put, List.setIfInBounds_toArray, List.set_cons_zero, List.set_cons_succ]
          refine wpAnyL_loud 5 (by kernel_rfl) (by rfl) rfl (fun K hK => ?_)
          go_simp
          refine hK.out _ _ ?_
          clear hK K; try simp only [Act.put, List.setIfInBounds_toArray, List.set_cons_zero, List.set_cons_succ]
          refine wpAnyL_done (by kernel_rfl) ?_ _
          (first | (have hl := hb11.trans hb12; have hgr2 := Below.size hl; generalize hbk : w12.heap.size = bk at *; exact cut_leaf bk rfl ⟨hl.trans (later_alloc _ _), hgr2, by rw [← hbk]; exact heap_alloc_new _ _⟩) | (have hl := (hb11.trans (later_alloc _ _)).trans hb12; have hgr2 := Below.size hb11; generalize hbk : w11.heap.size = bk at *; exact cut_leaf bk rfl (set_two' hl hgr2 zr)) | (have hl := ((later_alloc Wa.drew (.cells #[.string ByteArray.empty, .string ByteArray.empty] 34)).trans hb11).trans hb12; have hgr2 := Nat.le_refl Wa.drew.heap.size; generalize hbk : Wa.heap.size = bk at *; have ht := set_two' (u := .string mm.1) (v := .string mm.2) hl (by have : Wa.drew.heap.size = bk := hbk; omega) zr; exact cut_leaf bk rfl ⟨ht.1, Nat.le_refl _, ht.2.2⟩))
      case h2 =>
        rintro bk W ⟨hFL, hbk, hmr⟩
        have HBK := hide_ hbk
        have hFB := Later.trans ((Below.refl _ _).drew) hFL
        have HFB := hide_ (show Later Wa W from hFB)
        have hcr := (hFB.block wr.heap.size (heap_lt0 HCX.out)).trans HCX.out
        have hsr := (hFB.block w.heap.size (heap_lt0 HSX.out)).trans HSX.out
        have HCR := hide_ hcr; have HSR := hide_ hsr
        have HOW := hide_ (own_below HO2.out hFB)
        have HBW := hide_ (show Later W0 W from Later.trans (Later.trans HBB.out hwa.out) hFB)
        have m0 := cell_of_row _ _ 0 _ _ (0, 0) hmr
        have m1 := cell_of_row _ _ 1 _ _ (0, 0) hmr
        have y0 := cell_of_row _ _ 0 _ _ (0, 0) hcr
        have y1 := cell_of_row _ _ 1 _ _ (0, 0) hcr
        have y2 := cell_of_row _ _ 2 _ _ (0, 0) hcr
        have s0 := cell_of_row _ _ 0 _ _ (0, 0) hsr
        have s1 := cell_of_row _ _ 1 _ _ (0, 0) hsr
        have HSW := hide_ (show w.heap.size + 1 ≤ W.heap.size from by have := HSZ.out; have := Below.size HFB.out; omega)
        clear hFL hmr hFB ax0 ax1 ax2 as0 as1 hspc hmeet hbk hcr hsr
        by_cases hk3 : kd = 3
        · subst hk3
          have HM2 := hide_ (show smeetS s (kx, vx) = mm by have := HMM.out; unfold spanC at this; rwa [if_pos rfl] at this)
          by_cases hlt2 : mm.1 < mm.2
          · have g1 := (bl _ _).trans (decide_eq_true hlt2)
            have HIN := hide_ (cut1_wipe' HM2.out hlt2)
            clear hlt2
            go_wp2_with (at_builtin; (refine wpList_append_rd _ rfl (.tmp 34) (.tmp 40) 23 rfl (w.heap.size + 1) 32 3 40 changeT _ m (crow (cutC s (C.take k))) rfl (HOW.out.alloc _) _ 1 1 (encC (3, mm.1, mm.2)) rfl (Rd.newAt _ #[.int .i64 3, .string mm.1, .string mm.2] 32 1 3 _ (0, 0) rfl rfl) (encC_one _) (by omega) (by unfold maxLen; omega) (by have := HSW.out; simp at this ⊢; omega) (fun h => nomatch h) ?_; intro v8 w8 hown8 hg8 hat8; have HO8 := hide_ hown8; have z0 := cell_of_row _ _ 0 _ _ (0, 0) (grown_block (HOW.out.alloc _) hg8 (row_al HCR.out _) (.inr ⟨wr, HO.out, Nat.le_refl _⟩)); have HB8 := hide_ (show Later W0 w8 from by have h := own_grown (B := w.heap.size + 1) (a := W0) (Below.alloc (by have := HBW.out; unfold Later at this; rwa [HZ0.out] at this) HSW.out _) (HOW.out.alloc _) hg8 (by have := HSW.out; simp at this ⊢; omega); unfold Later; rwa [HZ0.out]); clear hown8 hg8 hat8))
            go_roundw
            case rel => exact ⟨k + 1, m + 1, by omega, by go_num, by omega, hide_ (by rw [HT.out, cutC_snoc, HIN.out, List.length_append, HM.out]; rfl), hide_ (by rw [HT.out, cutC_snoc, HIN.out, crow_append]; exact HO8.out), HB8⟩
            case measure => simp [intOf]; omega
          · have g1 := (bl _ _).trans (decide_eq_false hlt2)
            have HIN := hide_ (cut1_wipe_no' HM2.out hlt2)
            clear hlt2
            go_wp2_with fail
            go_roundw
            case rel => exact ⟨k + 1, m, by omega, by go_num, by omega, hide_ (by rw [HT.out, cutC_snoc, HIN.out, List.append_nil]; exact HM.out), hide_ (by rw [HT.out, cutC_snoc, HIN.out, List.append_nil]; exact HOW.out), HBW⟩
            case measure => simp [intOf]; omega
        · have hk3' : ¬ (3 : Int) = kd := fun h => hk3 h.symm
          have hk3b : (kd == 3) = false := beq_eq_false_iff_ne.2 hk3
          have hk3c : (kd != 3) = true := by simp [hk3b, bne]
          have HK3 := hide_ hk3
          obtain ⟨b1, hb1⟩ := inS_dec s kx
          have hhas := hide_ (fun W => rhas_b s kx b1 hb1 W)
          have HB1D := hide_ hb1
          clear hb1 hk3
          go_wp2_with fail
          refine (hhas.out _).mono ?_; rintro e w5 ⟨rfl, hb5⟩
          have HB5 := hide_ (show Later W0 w5 from Later.trans HBW.out hb5)
          have HO5 := hide_ (own_below HOW.out hb5)
          have HS5 := hide_ (Nat.le_trans HSW.out (Below.size hb5))
          have hcr5 := (hb5.block wr.heap.size (heap_lt0 HCR.out)).trans HCR.out
          have y0 := cell_of_row _ _ 0 _ _ (0, 0) hcr5
          have y1 := cell_of_row _ _ 1 _ _ (0, 0) hcr5
          have y2 := cell_of_row _ _ 2 _ _ (0, 0) hcr5
          clear hhas hcr5 hb5
          cases b1 with
          | true =>
            have HIN := hide_ (cut1_has (c := (kd, kx, vx)) HK3.out (HB1D.out.1 rfl))
            clear HB1D
            go_wp2_with (at_builtin; (refine wpList_append_rd _ rfl (.tmp 51) (.tmp 53) 23 rfl (w.heap.size + 1) 32 3 40 changeT _ m (crow (cutC s (C.take k))) rfl (HO5.out.alloc _) _ 1 1 (encC (kd, kx, vx)) rfl (Rd.newAt _ #[.int .i64 kd, .string kx, .string vx] 32 1 3 _ (0, 0) rfl rfl) (encC_one _) (by omega) (by unfold maxLen; omega) (by have := HS5.out; simp at this ⊢; omega) (fun h => nomatch h) ?_; intro v8 w8 hown8 hg8 hat8; have HO8 := hide_ hown8; have HB8 := hide_ (show Later W0 w8 from by have h := own_grown (B := w.heap.size + 1) (a := W0) (Below.alloc (by have := HB5.out; unfold Later at this; rwa [HZ0.out] at this) HS5.out _) (HO5.out.alloc _) hg8 (by have := HS5.out; simp at this ⊢; omega); unfold Later; rwa [HZ0.out]); clear hown8 hg8 hat8))
            go_roundw
            case rel => exact ⟨k + 1, m + 1, by omega, by go_num, by omega, hide_ (by rw [HT.out, cutC_snoc, HIN.out, List.length_append, HM.out]; rfl), hide_ (by rw [HT.out, cutC_snoc, HIN.out, crow_append]; exact HO8.out), HB8⟩
            case measure => simp [intOf]; omega
          | false =>
            have HIN := hide_ (cut1_no (c := (kd, kx, vx)) HK3.out (fun h => by have := HB1D.out.2 h; cases this))
            clear HB1D
            go_wp2_with fail
            go_roundw
            case rel => exact ⟨k + 1, m, by omega, by go_num, by omega, hide_ (by rw [HT.out, cutC_snoc, HIN.out, List.append_nil]; exact HM.out), hide_ (by rw [HT.out, cutC_snoc, HIN.out, List.append_nil]; exact HO5.out), HB5⟩
            case measure => simp [intOf]; omega
    · have q1 : ¬ (k : Int) < (p : Int) := by omega
      obtain rfl : k = p := by omega
      have hF : C.take k = C := by rw [← HL.out, List.take_length]
      have HF := hide_ hF
      clear hF
      go_wp2_with fail
      go_ret
      exact ⟨⟨_, m, rfl, by have := HM.out; rwa [HF.out] at this, hmk, by have := own_base HO.out (Nat.le_succ w.heap.size); rwa [HF.out] at this⟩, Later.trans HB0.out HBB.out⟩

end Go.Proofs.Ytblljpdlmllceaa
