/-
  RefereePlays: for any calls a referee answers as it should, told by the document's Marks.
  Conditions: the arguments hold at most 1048576 values and letters (the second form).
-/
import Derived.Test.YtidlkomgondkiaaKGAny
import Derived.Test.YtidlkomgondkiaaKRAw
import Derived.Test.YtidlkomgondkiaaKRInts
namespace Go.Proofs.Ytidlkomgondkiaa
open Go.ChangeShapes Go.WideShapes Go.ChangeAt Go.RowKit
set_option linter.unusedVariables false
set_option linter.unusedSimpArgs false
theorem afacts {W0 Wx : World} {b G : Nat} {x e p v E V : Int} {mv tv lv : Value} {J : Bool} {t : TypeId} (h : Later W0 Wx) (hb : W0.heap[b]? = some (.cells #[.int .i64 x, .int .i64 e, .int .i64 p, .int .i64 v, lv] t (0, 0))) (hg : GameAt W0 G E V mv J tv) :
    Wx.cell? ⟨b, 0, none⟩ = some (.int .i64 x) ∧ Wx.cell? ⟨b, 1, none⟩ = some (.int .i64 e) ∧ Wx.cell? ⟨b, 2, none⟩ = some (.int .i64 p) ∧ Wx.cell? ⟨b, 3, none⟩ = some (.int .i64 v) ∧ Wx.cell? ⟨b, 4, none⟩ = some lv ∧ Wx.cell? ⟨G, 0, none⟩ = some (.int .i64 E) ∧ Wx.cell? ⟨G, 1, none⟩ = some (.int .i64 V) := by
  have h1 := (h.block b (heap_lt0 hb)).trans hb
  have h2 := (h.block G (heap_lt0 hg)).trans hg
  exact ⟨cell_of_row _ _ 0 _ _ (0, 0) h1, cell_of_row _ _ 1 _ _ (0, 0) h1, cell_of_row _ _ 2 _ _ (0, 0) h1, cell_of_row _ _ 3 _ _ (0, 0) h1, cell_of_row _ _ 4 _ _ (0, 0) h1, cell_of_row _ _ 0 _ _ (0, 0) h2, cell_of_row _ _ 1 _ _ (0, 0) h2⟩
theorem begin_old {R0 : Nat} {E V e v : Int} {mv tv : Value} {J : Bool} {w w' : World} {en : Ending} (h : BeginPost R0 E V e v mv J tv w en w') : (((e < 1 ∨ v < 0) ∧ en = .returned (.int .i64 1) ∧ Later w w') ∨ (¬ (e < 1 ∨ v < 0) ∧ e < E ∧ en = .returned (.int .i64 7) ∧ Later w w') ∨ (¬ (e < 1 ∨ v < 0) ∧ e = E ∧ en = .returned (.int .i64 0) ∧ Later w w')) ∨
    (¬ (e < 1 ∨ v < 0) ∧ E < e ∧ en = .returned (.int .i64 0) ∧ RefAt w' R0 e v (.pointer (some ⟨w.heap.size, 0, none⟩)) false (.slice none 0 0) ∧ MK w' w.heap.size [] v 0 ∧ w.grownBy w' (some R0)) := by
  rcases h with ⟨⟨h1, h2⟩, _, h3⟩ | ⟨⟨h1, h2, h3⟩, _, h4⟩ | ⟨⟨h1, h2, h3⟩, _, h4⟩ | h
  · exact .inl (.inl ⟨h1, h2, h3⟩)
  · exact .inl (.inr (.inl ⟨h1, h2, h3, h4⟩))
  · exact .inl (.inr (.inr ⟨h1, h2, h3, h4⟩))
  · exact .inr h
set_option maxRecDepth 100000 in
set_option maxHeartbeats 16000000 in
theorem refereePlays_walk {w : World} (A : Option Addr) (n c : Nat) (X : List ActR) (hX : ActRRow w A n X) (hcm : n ≤ 1048576) :
    Calls Try.prog 9 #[.slice A n c] w fun e w' => e = .returned (.bool true) ∧ Below w.heap.size w w' := by
  have HX := hide_ hX
  have hn2 : (n : Int) ≤ 1048576 := by omega
  clear hX
  go_enter Try.func9, Try.ntmps9
  go_wp2_with fail
  refine (rnew_any _).mono ?_; rintro e w1 ⟨rfl, hm, hb1⟩
  have HM1 := hide_ hm; have HB1 := hide_ hb1
  clear hm hb1
  go_wp2_with fail
  refine (rawake_yes _).mono ?_; rintro e w2 ⟨rfl, hb2⟩
  have HM2 := hide_ (later_row hb2 HM1.out); have HB2 := hide_ (HB1.out.trans hb2)
  have hw2 := heap_lt0 HM2.out
  clear hb2
  go_wp2_with fail
  have HT3 := hide_ (show RPS (w2.alloc (.cells #[.int .i64 0, .int .i64 0, .pointer none, .bool false, .slice none 0 0] 62)) w.heap.size w2.heap.size 0 from .inl ⟨row_al HM2.out _, heap_alloc_new _ _, by omega⟩)
  have HB3 := hide_ (HB2.out.trans (later_alloc w2 (.cells #[.int .i64 0, .int .i64 0, .pointer none, .bool false, .slice none 0 0] 62)))
  go_loopw [4, 5] (fun s4 s5 wr => ∃ (k G : Nat), k ≤ n ∧ k ≤ 14 ∧ s5 = .int .i64 k ∧ s4 = .pointer (some ⟨G, 0, none⟩) ∧ Hid (RPS wr w.heap.size G k) ∧ Hid (Later w wr)) (fun _ i _ => 14 - (intOf i).toNat)
  case atStart => exact ⟨0, w2.heap.size, by omega, by omega, rfl, rfl, HT3, HB3⟩
  case round =>
    obtain ⟨k, G, hk, hk14, rfl, rfl, HTW, HB⟩ := hrel
    have r2 : (k : Int) ≤ 1048576 := by omega
    have r3 : (0 : Int) ≤ (k : Int) := by omega
    by_cases hlt : k < n
    · have r1 : (k : Int) < (n : Int) := by omega
      by_cases h14 : k < 14
      · have r4 : (k : Int) < 14 := by omega
        obtain ⟨a, ha⟩ : ∃ a, X[k]? = some a := ⟨_, List.getElem?_eq_getElem (by rw [HX.out.1]; exact hlt)⟩
        obtain ⟨b, o, At, nt, ct, rfl, h0, h1, h2, h3, h4, hnt, hT, hvm⟩ := HX.out.2 k a ha
        obtain ⟨x, e, pv, v, T⟩ := a
        have l0 := later_cell h0 _ HB.out
        have l1 := later_cell h1 _ HB.out
        have l2 := later_cell h2 _ HB.out
        have l3 := later_cell h3 _ HB.out
        have l4 := later_cell h4 _ HB.out
        have hxr := heap_alloc_new wr (.cells #[.int .i64 x, .int .i64 e, .int .i64 pv, .int .i64 v, .slice At nt ct] 64)
        have hal := later_alloc wr (.cells #[.int .i64 x, .int .i64 e, .int .i64 pv, .int .i64 v, .slice At nt ct] 64)
        obtain ⟨W0, hW0⟩ : ∃ W0, W0 = wr.alloc (.cells #[.int .i64 x, .int .i64 e, .int .i64 pv, .int .i64 v, .slice At nt ct] 64) := ⟨_, rfl⟩
        have HW := hide_ hW0.symm
        rw [← hW0] at hxr hal
        have HXR := hide_ hxr
        have HS := hide_ (HTW.out.below hal)
        have HL := hide_ (HB.out.trans hal)
        have HTT := hide_ hT
        have HVM := hide_ (show v ≤ 9223372036854775807 from hvm)
        have HGT := hide_ HS.out.at_
        have hgw : w.heap.size ≤ wr.heap.size := HB.out.size
        have hgw1 : w.heap.size < wr.heap.size := by obtain ⟨_, _, _, _, _, _, _, h, _⟩ := HTW.out.at_; exact heap_lt0 h
        have hgt0 : wr.heap.size < W0.heap.size := heap_lt0 hxr
        clear h0 h1 h2 h3 h4 ha hT hxr hal hW0 hvm
        obtain ⟨E, V, mv, J, tv, mv', tv', hra, hga, hE0, hRG, htv⟩ := HGT.out
        have HRA := hide_ hra; have HGA := hide_ hga; have HTV := hide_ htv
        have r0 := hide_ (Later.refl W0)
        clear hra hga htv
        by_cases x0 : x = 0
        · subst x0
          obtain ⟨d0, d1, d2, d3, d4, d5, d6⟩ := afacts r0.out HXR.out HGA.out
          go_wp2_with (rw [HW.out])
          refine (begin_any e v HRA.out).mono ?_; rintro en w4 hbp
          rcases begin_old hbp with hold | ⟨hq1, hq2, rfl, hr4, hm4, hg4⟩
          · have hb4 : Later W0 w4 := by rcases hold with ⟨_, _, h⟩ | ⟨_, _, _, h⟩ | ⟨_, _, _, h⟩ <;> exact h
            have HB4 := hide_ hb4
            have HS4 := hide_ (HS.out.below hb4).next
            have HL4 := hide_ (HL.out.trans hb4)
            clear d0 d1 d2 d3 d4 d5 d6 hb4 hbp
            obtain ⟨d0, d1, d2, d3, d4, d5, d6⟩ := afacts HB4.out HXR.out HGA.out
            rcases hold with ⟨hc, rfl, _⟩ | ⟨hc, hc2, rfl, _⟩ | ⟨hc, hc2, rfl, _⟩
            · by_cases hc1 : e < 1
              · clear hc
                go_wp2_with fail
                go_roundw
                case rel => exact ⟨k + 1, G, by omega, by omega, by go_num, rfl, HS4, HL4⟩
                case measure => simp [intOf]; omega
              · have hc2 : v < 0 := hc.resolve_left hc1
                clear hc
                go_wp2_with fail
                go_roundw
                case rel => exact ⟨k + 1, G, by omega, by omega, by go_num, rfl, HS4, HL4⟩
                case measure => simp [intOf]; omega
            · have c1 : ¬ e < 1 := fun h => hc (.inl h)
              have c2 : ¬ v < 0 := fun h => hc (.inr h)
              clear hc
              go_wp2_with fail
              have k1 := later_drew_cell d1
              have k5 := later_drew_cell d5
              refine wp_region_k (by kernel_rfl) ?_
              refine wpAnyK_take 0 (v := ?_) rfl (by kernel_rfl) (by kernel_rfl) (by kernel_rfl) (fun _ _ _ h => h) (by rfl) (by intro W hSw; go_simp; with_reducible rfl) ?_; try simp only [Act.put, List.setIfInBounds_toArray, List.set_cons_zero, List.set_cons_succ]
              refine wpAnyK_take 1 (v := ?_) rfl (by kernel_rfl) (by kernel_rfl) (by kernel_rfl) (fun _ _ _ h => h) (by rfl) (by intro W hSw; go_simp; with_reducible rfl) ?_; try simp only [Act.put, List.setIfInBounds_toArray, List.set_cons_zero, List.set_cons_succ]
              refine wpAnyK_take 2 (v := ?_) rfl (by kernel_rfl) (by kernel_rfl) (by kernel_rfl) (fun _ _ _ h => h) (by rfl) (by intro W hSw; go_simp; with_reducible rfl) ?_; try simp only [Act.put, List.setIfInBounds_toArray, List.set_cons_zero, List.set_cons_succ]
              refine wpAnyK_take 3 (v := ?_) rfl (by kernel_rfl) (by kernel_rfl) (by kernel_rfl) (fun _ _ _ h => h) (by rfl) (by intro W hSw; go_simp; with_reducible rfl) ?_; try simp only [Act.put, List.setIfInBounds_toArray, List.set_cons_zero, List.set_cons_succ]
              refine wpAnyK_take 4 (v := ?_) rfl (by kernel_rfl) (by kernel_rfl) (by kernel_rfl) (fun _ _ _ h => h) (by rfl) (by intro W hSw; go_simp; with_reducible rfl) ?_; try simp only [Act.put, List.setIfInBounds_toArray, List.set_cons_zero, List.set_cons_succ]
              refine wpAnyK_take 5 (v := ?_) rfl (by kernel_rfl) (by kernel_rfl) (by kernel_rfl) (fun _ _ _ h => h) (by rfl) (by intro W hSw; go_simp; with_reducible rfl) ?_; try simp only [Act.put, List.setIfInBounds_toArray, List.set_cons_zero, List.set_cons_succ]
              refine wpAnyK_take 6 (v := ?_) rfl (by kernel_rfl) (by kernel_rfl) (by kernel_rfl) (fun _ _ _ h => h) (by rfl) (by intro W hSw; go_simp; with_reducible rfl) ?_; try simp only [Act.put, List.setIfInBounds_toArray, List.set_cons_zero, List.set_cons_succ]
              refine wpAnyK_take 7 (v := ?_) rfl (by kernel_rfl) (by kernel_rfl) (by kernel_rfl) (fun _ _ _ h => h) (by rfl) (by intro W hSw; go_simp; with_reducible rfl) ?_; try simp only [Act.put, List.setIfInBounds_toArray, List.set_cons_zero, List.set_cons_succ]
              refine wpAnyK_done (by kernel_rfl) ?_ _
              clear k1 k5
              have HS5 := hide_ (HS4.out.below (below_drewN (Later.refl w4) 1)); have HL5 := hide_ (HL4.out.trans (below_drewN (Later.refl w4) 1))
              go_wp2_with fail
              go_roundw
              case rel => exact ⟨k + 1, G, by omega, by omega, by go_num, rfl, HS5, HL5⟩
              case measure => simp [intOf]; omega
            · subst hc2
              have c1 : ¬ e < 1 := fun h => hc (.inl h)
              have c2 : ¬ v < 0 := fun h => hc (.inr h)
              have c3 : ¬ e < e := by omega
              clear hc
              go_wp2_with fail
              have k1 := later_drew_cell d1
              have k5 := later_drew_cell d5
              refine wp_region_k (by kernel_rfl) ?_
              refine wpAnyK_take 0 (v := ?_) rfl (by kernel_rfl) (by kernel_rfl) (by kernel_rfl) (fun _ _ _ h => h) (by rfl) (by intro W hSw; go_simp; with_reducible rfl) ?_; try simp only [Act.put, List.setIfInBounds_toArray, List.set_cons_zero, List.set_cons_succ]
              refine wpAnyK_take 1 (v := ?_) rfl (by kernel_rfl) (by kernel_rfl) (by kernel_rfl) (fun _ _ _ h => h) (by rfl) (by intro W hSw; go_simp; with_reducible rfl) ?_; try simp only [Act.put, List.setIfInBounds_toArray, List.set_cons_zero, List.set_cons_succ]
              refine wpAnyK_take 2 (v := ?_) rfl (by kernel_rfl) (by kernel_rfl) (by kernel_rfl) (fun _ _ _ h => h) (by rfl) (by intro W hSw; go_simp; with_reducible rfl) ?_; try simp only [Act.put, List.setIfInBounds_toArray, List.set_cons_zero, List.set_cons_succ]
              refine wpAnyK_take 3 (v := ?_) rfl (by kernel_rfl) (by kernel_rfl) (by kernel_rfl) (fun _ _ _ h => h) (by rfl) (by intro W hSw; go_simp; with_reducible rfl) ?_; try simp only [Act.put, List.setIfInBounds_toArray, List.set_cons_zero, List.set_cons_succ]
              refine wpAnyK_take 4 (v := ?_) rfl (by kernel_rfl) (by kernel_rfl) (by kernel_rfl) (fun _ _ _ h => h) (by rfl) (by intro W hSw; go_simp; with_reducible rfl) ?_; try simp only [Act.put, List.setIfInBounds_toArray, List.set_cons_zero, List.set_cons_succ]
              refine wpAnyK_take 5 (v := ?_) rfl (by kernel_rfl) (by kernel_rfl) (by kernel_rfl) (fun _ _ _ h => h) (by rfl) (by intro W hSw; go_simp; with_reducible rfl) ?_; try simp only [Act.put, List.setIfInBounds_toArray, List.set_cons_zero, List.set_cons_succ]
              refine wpAnyK_take 6 (v := ?_) rfl (by kernel_rfl) (by kernel_rfl) (by kernel_rfl) (fun _ _ _ h => h) (by rfl) (by intro W hSw; go_simp; with_reducible rfl) ?_; try simp only [Act.put, List.setIfInBounds_toArray, List.set_cons_zero, List.set_cons_succ]
              refine wpAnyK_take 7 (v := ?_) rfl (by kernel_rfl) (by kernel_rfl) (by kernel_rfl) (fun _ _ _ h => h) (by rfl) (by intro W hSw; go_simp; with_reducible rfl) ?_; try simp only [Act.put, List.setIfInBounds_toArray, List.set_cons_zero, List.set_cons_succ]
              refine wpAnyK_done (by kernel_rfl) ?_ _
              clear k1 k5
              obtain ⟨W5, hW5⟩ : ∃ W5, W5 = w4.drew := ⟨_, rfl⟩
              rw [← hW5]
              have HB5 := hide_ (show Later w4 W5 by rw [hW5]; exact below_drewN (Later.refl _) 1)
              clear d0 d1 d2 d3 d4 d5 d6 hW5
              obtain ⟨d0, d1, d2, d3, d4, d5, d6⟩ := afacts (HB4.out.trans HB5.out) HXR.out HGA.out
              go_wp2_with fail
              have k1 := later_drew_cell d1
              have k5 := later_drew_cell d5
              refine wp_region_k (by kernel_rfl) ?_
              refine wpAnyK_take 0 (v := ?_) rfl (by kernel_rfl) (by kernel_rfl) (by kernel_rfl) (fun _ _ _ h => h) (by rfl) (by intro W hSw; go_simp; with_reducible rfl) ?_; try simp only [Act.put, List.setIfInBounds_toArray, List.set_cons_zero, List.set_cons_succ]
              refine wpAnyK_take 1 (v := ?_) rfl (by kernel_rfl) (by kernel_rfl) (by kernel_rfl) (fun _ _ _ h => h) (by rfl) (by intro W hSw; go_simp; with_reducible rfl) ?_; try simp only [Act.put, List.setIfInBounds_toArray, List.set_cons_zero, List.set_cons_succ]
              refine wpAnyK_take 2 (v := ?_) rfl (by kernel_rfl) (by kernel_rfl) (by kernel_rfl) (fun _ _ _ h => h) (by rfl) (by intro W hSw; go_simp; with_reducible rfl) ?_; try simp only [Act.put, List.setIfInBounds_toArray, List.set_cons_zero, List.set_cons_succ]
              refine wpAnyK_take 3 (v := ?_) rfl (by kernel_rfl) (by kernel_rfl) (by kernel_rfl) (fun _ _ _ h => h) (by rfl) (by intro W hSw; go_simp; with_reducible rfl) ?_; try simp only [Act.put, List.setIfInBounds_toArray, List.set_cons_zero, List.set_cons_succ]
              refine wpAnyK_take 4 (v := ?_) rfl (by kernel_rfl) (by kernel_rfl) (by kernel_rfl) (fun _ _ _ h => h) (by rfl) (by intro W hSw; go_simp; with_reducible rfl) ?_; try simp only [Act.put, List.setIfInBounds_toArray, List.set_cons_zero, List.set_cons_succ]
              refine wpAnyK_take 5 (v := ?_) rfl (by kernel_rfl) (by kernel_rfl) (by kernel_rfl) (fun _ _ _ h => h) (by rfl) (by intro W hSw; go_simp; with_reducible rfl) ?_; try simp only [Act.put, List.setIfInBounds_toArray, List.set_cons_zero, List.set_cons_succ]
              refine wpAnyK_take 6 (v := ?_) rfl (by kernel_rfl) (by kernel_rfl) (by kernel_rfl) (fun _ _ _ h => h) (by rfl) (by intro W hSw; go_simp; with_reducible rfl) ?_; try simp only [Act.put, List.setIfInBounds_toArray, List.set_cons_zero, List.set_cons_succ]
              refine wpAnyK_take 7 (v := ?_) rfl (by kernel_rfl) (by kernel_rfl) (by kernel_rfl) (fun _ _ _ h => h) (by rfl) (by intro W hSw; go_simp; with_reducible rfl) ?_; try simp only [Act.put, List.setIfInBounds_toArray, List.set_cons_zero, List.set_cons_succ]
              refine wpAnyK_done (by kernel_rfl) ?_ _
              clear k1 k5
              have HS6 := hide_ (HS4.out.below (HB5.out.trans (below_drewN (Later.refl W5) 1))); have HL6 := hide_ (HL4.out.trans (HB5.out.trans (below_drewN (Later.refl W5) 1)))
              go_wp2_with fail
              go_roundw
              case rel => exact ⟨k + 1, G, by omega, by omega, by go_num, rfl, HS6, HL6⟩
              case measure => simp [intOf]; omega
          · have HB4 := hide_ (show Later w w4 from later_of_grown HL.out hg4 (Nat.le_refl _))
            have HRS4 := hide_ (rs_begin hr4 (heap_lt0 HRA.out) hm4 hq1)
            have hra2 : w4.heap[wr.heap.size]? = _ := (hg4.block _ (heap_lt0 HXR.out) (fun h => by have := Option.some.inj h; have := HB2.out.size; omega)).trans HXR.out
            have hne : G ≠ w.heap.size := fun h => by
              have h1 := HGA.out; have h2 := HRA.out
              unfold GameAt at h1; unfold RefAt at h2; rw [h] at h1; rw [h1] at h2; cases h2
            have hga2 : GameAt w4 G E V mv' J tv' := (hg4.block _ (heap_lt0 HGA.out) (fun h => hne (Option.some.inj h))).trans HGA.out
            have HX4 := hide_ hra2; have HG4 := hide_ hga2
            have hszw : w.heap.size ≤ w4.heap.size := HB4.out.size
            clear hbp hr4 hm4 hg4 d0 d1 d2 d3 d4 d5 d6 hra2 hga2
            have c1 : ¬ e < 1 := fun h => hq1 (.inl h)
            have c2 : ¬ v < 0 := fun h => hq1 (.inr h)
            have c3 : ¬ e < E := by omega
            clear hq1
            obtain ⟨d0, d1, d2, d3, d4, d5, d6⟩ := afacts (Later.refl w4) HX4.out HG4.out
            go_wp2_with fail
            have k1 := later_drew_cell d1
            have k5 := later_drew_cell d5
            refine wp_region_k (by kernel_rfl) ?_
            refine wpAnyK_take 0 (v := ?_) rfl (by kernel_rfl) (by kernel_rfl) (by kernel_rfl) (fun _ _ _ h => h) (by rfl) (by intro W hSw; go_simp; with_reducible rfl) ?_; try simp only [Act.put, List.setIfInBounds_toArray, List.set_cons_zero, List.set_cons_succ]
            refine wpAnyK_take 1 (v := ?_) rfl (by kernel_rfl) (by kernel_rfl) (by kernel_rfl) (fun _ _ _ h => h) (by rfl) (by intro W hSw; go_simp; with_reducible rfl) ?_; try simp only [Act.put, List.setIfInBounds_toArray, List.set_cons_zero, List.set_cons_succ]
            refine wpAnyK_take 2 (v := ?_) rfl (by kernel_rfl) (by kernel_rfl) (by kernel_rfl) (fun _ _ _ h => h) (by rfl) (by intro W hSw; go_simp; with_reducible rfl) ?_; try simp only [Act.put, List.setIfInBounds_toArray, List.set_cons_zero, List.set_cons_succ]
            refine wpAnyK_take 3 (v := ?_) rfl (by kernel_rfl) (by kernel_rfl) (by kernel_rfl) (fun _ _ _ h => h) (by rfl) (by intro W hSw; go_simp; with_reducible rfl) ?_; try simp only [Act.put, List.setIfInBounds_toArray, List.set_cons_zero, List.set_cons_succ]
            refine wpAnyK_take 4 (v := ?_) rfl (by kernel_rfl) (by kernel_rfl) (by kernel_rfl) (fun _ _ _ h => h) (by rfl) (by intro W hSw; go_simp; with_reducible rfl) ?_; try simp only [Act.put, List.setIfInBounds_toArray, List.set_cons_zero, List.set_cons_succ]
            refine wpAnyK_take 5 (v := ?_) rfl (by kernel_rfl) (by kernel_rfl) (by kernel_rfl) (fun _ _ _ h => h) (by rfl) (by intro W hSw; go_simp; with_reducible rfl) ?_; try simp only [Act.put, List.setIfInBounds_toArray, List.set_cons_zero, List.set_cons_succ]
            refine wpAnyK_take 6 (v := ?_) rfl (by kernel_rfl) (by kernel_rfl) (by kernel_rfl) (fun _ _ _ h => h) (by rfl) (by intro W hSw; go_simp; with_reducible rfl) ?_; try simp only [Act.put, List.setIfInBounds_toArray, List.set_cons_zero, List.set_cons_succ]
            refine wpAnyK_take 7 (v := ?_) rfl (by kernel_rfl) (by kernel_rfl) (by kernel_rfl) (fun _ _ _ h => h) (by rfl) (by intro W hSw; go_simp; with_reducible rfl) ?_; try simp only [Act.put, List.setIfInBounds_toArray, List.set_cons_zero, List.set_cons_succ]
            refine wpAnyK_done (by kernel_rfl) ?_ _
            clear k1 k5
            obtain ⟨W5, hW5⟩ : ∃ W5, W5 = w4.drew := ⟨_, rfl⟩
            rw [← hW5]
            have HB5 := hide_ (show Later w4 W5 by rw [hW5]; exact below_drewN (Later.refl _) 1)
            clear d0 d1 d2 d3 d4 d5 d6 hW5
            obtain ⟨d0, d1, d2, d3, d4, d5, d6⟩ := afacts HB5.out HX4.out HG4.out
            go_wp2_with fail
            have k1 := later_drew_cell d1
            have k5 := later_drew_cell d5
            refine wp_region_k (by kernel_rfl) ?_
            refine wpAnyK_take 0 (v := ?_) rfl (by kernel_rfl) (by kernel_rfl) (by kernel_rfl) (fun _ _ _ h => h) (by rfl) (by intro W hSw; go_simp; with_reducible rfl) ?_; try simp only [Act.put, List.setIfInBounds_toArray, List.set_cons_zero, List.set_cons_succ]
            refine wpAnyK_take 1 (v := ?_) rfl (by kernel_rfl) (by kernel_rfl) (by kernel_rfl) (fun _ _ _ h => h) (by rfl) (by intro W hSw; go_simp; with_reducible rfl) ?_; try simp only [Act.put, List.setIfInBounds_toArray, List.set_cons_zero, List.set_cons_succ]
            refine wpAnyK_take 2 (v := ?_) rfl (by kernel_rfl) (by kernel_rfl) (by kernel_rfl) (fun _ _ _ h => h) (by rfl) (by intro W hSw; go_simp; with_reducible rfl) ?_; try simp only [Act.put, List.setIfInBounds_toArray, List.set_cons_zero, List.set_cons_succ]
            refine wpAnyK_take 3 (v := ?_) rfl (by kernel_rfl) (by kernel_rfl) (by kernel_rfl) (fun _ _ _ h => h) (by rfl) (by intro W hSw; go_simp; with_reducible rfl) ?_; try simp only [Act.put, List.setIfInBounds_toArray, List.set_cons_zero, List.set_cons_succ]
            refine wpAnyK_take 4 (v := ?_) rfl (by kernel_rfl) (by kernel_rfl) (by kernel_rfl) (fun _ _ _ h => h) (by rfl) (by intro W hSw; go_simp; with_reducible rfl) ?_; try simp only [Act.put, List.setIfInBounds_toArray, List.set_cons_zero, List.set_cons_succ]
            refine wpAnyK_take 5 (v := ?_) rfl (by kernel_rfl) (by kernel_rfl) (by kernel_rfl) (fun _ _ _ h => h) (by rfl) (by intro W hSw; go_simp; with_reducible rfl) ?_; try simp only [Act.put, List.setIfInBounds_toArray, List.set_cons_zero, List.set_cons_succ]
            refine wpAnyK_take 6 (v := ?_) rfl (by kernel_rfl) (by kernel_rfl) (by kernel_rfl) (fun _ _ _ h => h) (by rfl) (by intro W hSw; go_simp; with_reducible rfl) ?_; try simp only [Act.put, List.setIfInBounds_toArray, List.set_cons_zero, List.set_cons_succ]
            refine wpAnyK_take 7 (v := ?_) rfl (by kernel_rfl) (by kernel_rfl) (by kernel_rfl) (fun _ _ _ h => h) (by rfl) (by intro W hSw; go_simp; with_reducible rfl) ?_; try simp only [Act.put, List.setIfInBounds_toArray, List.set_cons_zero, List.set_cons_succ]
            refine wpAnyK_done (by kernel_rfl) ?_ _
            clear k1 k5
            obtain ⟨W6, hW6⟩ : ∃ W6, W6 = W5.drew := ⟨_, rfl⟩
            rw [← hW6]
            have HB6 := hide_ (show Later w4 W6 by rw [hW6]; exact HB5.out.trans (below_drewN (Later.refl _) 1))
            clear d0 d1 d2 d3 d4 d5 d6 hW6
            obtain ⟨d0, d1, d2, d3, d4, d5, d6⟩ := afacts HB6.out HX4.out HG4.out
            go_wp2_with fail
            have k1 := later_drew_cell d1
            have k3 := later_drew_cell d3
            refine wp_region_k (by kernel_rfl) ?_
            refine wpAnyK_take 0 (v := ?_) rfl (by kernel_rfl) (by kernel_rfl) (by kernel_rfl) (fun _ _ _ h => h) (by rfl) (by intro W hSw; go_simp; with_reducible rfl) ?_; try simp only [Act.put, List.setIfInBounds_toArray, List.set_cons_zero, List.set_cons_succ]
            refine wpAnyK_take 1 (v := ?_) rfl (by kernel_rfl) (by kernel_rfl) (by kernel_rfl) (fun _ _ _ h => h) (by rfl) (by intro W hSw; go_simp; with_reducible rfl) ?_; try simp only [Act.put, List.setIfInBounds_toArray, List.set_cons_zero, List.set_cons_succ]
            refine wpAnyK_take 2 (v := ?_) rfl (by kernel_rfl) (by kernel_rfl) (by kernel_rfl) (fun _ _ _ h => h) (by rfl) (by intro W hSw; go_simp; with_reducible rfl) ?_; try simp only [Act.put, List.setIfInBounds_toArray, List.set_cons_zero, List.set_cons_succ]
            refine wpAnyK_take 3 (v := ?_) rfl (by kernel_rfl) (by kernel_rfl) (by kernel_rfl) (fun _ _ _ h => h) (by rfl) (by intro W hSw; go_simp; with_reducible rfl) ?_; try simp only [Act.put, List.setIfInBounds_toArray, List.set_cons_zero, List.set_cons_succ]
            refine wpAnyK_take 4 (v := ?_) rfl (by kernel_rfl) (by kernel_rfl) (by kernel_rfl) (fun _ _ _ h => h) (by rfl) (by intro W hSw; go_simp; with_reducible rfl) ?_; try simp only [Act.put, List.setIfInBounds_toArray, List.set_cons_zero, List.set_cons_succ]
            refine wpAnyK_take 5 (v := ?_) rfl (by kernel_rfl) (by kernel_rfl) (by kernel_rfl) (fun _ _ _ h => h) (by rfl) (by intro W hSw; go_simp; with_reducible rfl) ?_; try simp only [Act.put, List.setIfInBounds_toArray, List.set_cons_zero, List.set_cons_succ]
            refine wpAnyK_one 6 (by kernel_rfl) rfl (fun K hK => ?_)
            go_simp
            refine (dnew_any _ _).mono ?_; rintro en w7 ⟨rfl, hd7, hb7⟩; have HD7 := hide_ hd7; have HB7 := hide_ hb7; clear hd7
            refine hK.out _ _ (by assumption) ?_
            clear hK K; try simp only [Act.put, List.setIfInBounds_toArray, List.set_cons_zero, List.set_cons_succ]
            refine wpAnyK_take 7 (v := ?_) rfl (by kernel_rfl) (by kernel_rfl) (by kernel_rfl) (fun _ _ _ h => h) (by rfl) (by intro W hSw; go_simp; with_reducible rfl) ?_; try simp only [Act.put, List.setIfInBounds_toArray, List.set_cons_zero, List.set_cons_succ]
            refine wpAnyK_one 8 (by kernel_rfl) rfl (fun K hK => ?_)
            go_simp
            refine hK.out _ _ (Below.alloc (Below.refl _ _) (Nat.le_refl _) _) ?_
            clear hK K; try simp only [Act.put, List.setIfInBounds_toArray, List.set_cons_zero, List.set_cons_succ]
            refine wpAnyK_take 9 (v := ?_) rfl (by kernel_rfl) (by kernel_rfl) (by kernel_rfl) (fun _ _ _ h => h) (by rfl) (by intro W hSw; go_simp; with_reducible rfl) ?_; try simp only [Act.put, List.setIfInBounds_toArray, List.set_cons_zero, List.set_cons_succ]
            refine wpAnyK_done (by kernel_rfl) ?_ _
            clear k1 k3 d0 d1 d2 d3 d4 d5 d6
            have hmx : max v 0 = v := by omega
            have hd6 : w4.heap.size ≤ W6.heap.size := HB6.out.size
            have hb67 : W6.heap.size ≤ w7.heap.size := HB7.out.size
            have HL7 := hide_ (HB4.out.trans (HB6.out.trans ((below_drewN (Later.refl W6) 1).trans HB7.out)))
            have hnew := later_alloc w7 (.cells #[.int .i64 e, .int .i64 v, .pointer (some ⟨W6.heap.size, 0, none⟩), .bool false, .slice none 0 0] 62)
            have HS8 := hide_ (show RPS (w7.alloc (.cells #[.int .i64 e, .int .i64 v, .pointer (some ⟨W6.heap.size, 0, none⟩), .bool false, .slice none 0 0] 62)) w.heap.size w7.heap.size (k + 1) from
              .inr ⟨e, v, false, [], [], [], v, 0, HRS4.out.below (HB6.out.trans ((below_drewN (Later.refl W6) 1).trans (HB7.out.trans hnew))), ⟨W6.heap.size, none, 0, 0, heap_alloc_new _ _, by omega, by omega, by have h := HD7.out; rw [hmx] at h; exact h.below hnew, World.ownsRow_nil _ _ _ _, rfl⟩, agree_start _ (by omega), HVM.out, by simp, by simp, by simp⟩)
            have HL8 := hide_ (HL7.out.trans hnew)
            clear hnew
            go_wp2_with fail
            go_roundw
            case rel => exact ⟨k + 1, w7.heap.size, by omega, by omega, by go_num, rfl, HS8, HL8⟩
            case measure => simp [intOf]; omega
        · have b0 : (x == 0) = false := beq_eq_false_iff_ne.2 x0
          have b1 : decide (x = 0) = false := decide_eq_false x0
          clear x0
          obtain ⟨d0, d1, d2, d3, d4, d5, d6⟩ := afacts r0.out HXR.out HGA.out
          by_cases he : e = E ∧ 1 ≤ E
          · obtain ⟨rfl, hE1⟩ := he
            rcases HS.out with ⟨hf1, hf2, _⟩ | ⟨E, V, J, told, L, W, f, l, hRS, hGS, hAg, hVm, ht4, hLl, hWl⟩
            · exfalso
              have h1 := HGA.out; unfold GameAt at h1 hf2; rw [hf2] at h1; injection h1 with h1; injection h1 with h1; injection h1 with h1; injection h1 with h1; injection h1 with h2; omega
            · obtain rfl : E = e := by
                obtain ⟨Dg, Ag, ng, cg, h5, _⟩ := hGS
                have h1 := HGA.out; unfold GameAt at h1 h5; rw [h5] at h1; injection h1 with h1; injection h1 with h1; injection h1 with h1; injection h1 with h1; injection h1
              have HRS := hide_ hRS; have HGS := hide_ hGS; have HAg := hide_ hAg
              have hfit := hRS.fit
              have HFT := hide_ hfit
              clear hRS hGS hAg hfit
              go_wp2_with (rw [HW.out])
              refine (prj_any pv v HRS.out (HTT.out.below HL.out) hnt (by omega) (by omega) HVM.out).mono ?_; rintro en w4 ⟨A4, n4, c4, er, R, V', J', told', L', f', l', rfl, hway, hRl, hRo, hRS4, hT4⟩
              have hrf := rway_fit hway HFT.out.1 HFT.out.2.2.2.1 ht4
              have HGS4 := hide_ (HGS.out.turns hT4 ref_game ref_dm ref_dw ref_int)
              have HX4 := hide_ (hT4.row HXR.out (show ¬ isRef 64 by unfold isRef isMarks; decide))
              have HB4 := hide_ (later_turns HL.out hT4 (Nat.le_refl _))
              have HRS4 := hide_ hRS4; have HRO4 := hide_ hRo; have HRL4 := hide_ hRl; have HWY := hide_ hway; have HRF := hide_ hrf
              have hsz4 : W0.heap.size ≤ w4.heap.size := hT4.size
              clear hway hRl hRo hRS4 hT4 hrf d0 d1 d2 d3 d4 d5 d6 l0 l1 l2 l3 l4
              have hx4 := HX4.out
              have d0 := cell_of_row _ _ 0 _ _ (0, 0) hx4
              have d1 := cell_of_row _ _ 1 _ _ (0, 0) hx4
              have d2 := cell_of_row _ _ 2 _ _ (0, 0) hx4
              have d3 := cell_of_row _ _ 3 _ _ (0, 0) hx4
              have d4 := cell_of_row _ _ 4 _ _ (0, 0) hx4
              clear hx4
              go_wp2_with fail
              refine (gj_any x pv v HGS4.out hE1 (fun Wx hx => HTT.out.below (Below.trans HB4.out hx)) hnt HAg.out HFT.out.1 HFT.out.2.1 HFT.out.2.2.1 HFT.out.2.2.2.1 (by omega) hVm HVM.out HWY.out).mono ?_; rintro en w5 ⟨A5, n5, c5, W', rfl, hRl5, hRo5, hGS5, hAg5, hWl5, hT5⟩
              obtain rfl : n5 = n4 := by rw [← hRl5]; exact HRL4.out
              have HI1 := hide_ (Rd.of_own (hT5.own HRO4.out gsort_int)); have HI2 := hide_ (Rd.of_own hRo5)
              have HRS5 := hide_ (HRS4.out.turns hT5 gsort_ref gsort_marks gsort_mark gsort_int)
              have HGS5 := hide_ hGS5; have HAG5 := hide_ hAg5
              have HB5 := hide_ (show Later w w5 from Below.trans HB4.out hT5.below)
              have HVV := hide_ (show V' ≤ 9223372036854775807 by have h := HWY.out; have h2 := HVM.out; rcases h with ⟨_, h3, _⟩ | ⟨_, _, _, _, _, h3, _⟩ <;> omega)
              clear hRl5 hRo5 hGS5 hAg5 hT5 d0 d1 d2 d3 d4
              go_wp2_with fail
              obtain ⟨mv5, tv5, hat5⟩ := HRS5.out.at_
              refine (rends_any hat5).mono ?_; rintro en w6 ⟨rfl, hb6⟩
              have HGS6 := hide_ (HGS5.out.below hb6); have HRS6 := hide_ (HRS5.out.below hb6); have HB6 := hide_ (HB5.out.trans hb6)
              have hin6 := hide_ (ints_same (c := c4) (c' := c5) (HI1.out.below hb6) (HI2.out.below hb6) HRL4.out (by have := HRF.out; have := HRL4.out; omega))
              clear hb6 hat5
              go_wp2_with fail
              refine hin6.out.mono ?_; rintro en w7 ⟨rfl, hb7⟩
              have HGS7 := hide_ (HGS6.out.below hb7); have HRS7 := hide_ (HRS6.out.below hb7); have HB7 := hide_ (HB6.out.trans hb7)
              obtain ⟨Dg, Ag, ng, cg, hga7, _⟩ := HGS7.out
              have d5 := cell_of_row _ _ 0 _ _ (0, 0) hga7
              have d6 := cell_of_row _ _ 1 _ _ (0, 0) hga7
              have HS8 := hide_ (show RPS w7 w.heap.size G (k + 1) from .inr ⟨E, V', J', told', L', W', f', l', HRS7.out, HGS7.out, HAG5.out, HVV.out, HRF.out.2.1, by have := HRF.out; omega, by omega⟩)
              clear hb7 hin6 hga7
              go_wp2_with fail
              go_roundw
              case rel => exact ⟨k + 1, G, by omega, by omega, by go_num, rfl, HS8, HB7⟩
              case measure => simp [intOf]; omega
          · have hw1 : e ≠ E ∨ e = 0 := by omega
            have hw2' : e ≠ E ∨ E = 0 := by omega
            have HW1 := hide_ hw1; have HW2 := hide_ hw2'
            clear he hw1 hw2'
            go_wp2_with (rw [HW.out])
            refine (rjudge_wrong e pv v HRA.out HW1.out).mono ?_; rintro en w4 ⟨rfl, hb4⟩
            have HB4 := hide_ hb4
            clear hb4 d0 d1 d2 d3 d4 d5 d6
            obtain ⟨d0, d1, d2, d3, d4, d5, d6⟩ := afacts HB4.out HXR.out HGA.out
            go_wp2_with fail
            refine (gjudge_wrong x e pv v (later_row HB4.out HGA.out) HW2.out ⟨_, _, _, rfl⟩).mono ?_; rintro en w5 ⟨rfl, hb5⟩
            have HB5 := hide_ (HB4.out.trans hb5)
            clear hb5 d0 d1 d2 d3 d4 d5 d6
            go_wp2_with fail
            refine (rends_any (later_row HB5.out HRA.out)).mono ?_; rintro en w6 ⟨rfl, hb6⟩
            have HB6 := hide_ (HB5.out.trans hb6)
            clear hb6
            go_wp2_with fail
            refine (ints_same (V := []) (Rd.nil _ _ _) (Rd.nil _ _ _) rfl (by omega)).mono ?_; rintro en w7 ⟨rfl, hb7⟩
            have HB7 := hide_ (HB6.out.trans hb7)
            clear hb7
            obtain ⟨d0, d1, d2, d3, d4, d5, d6⟩ := afacts HB7.out HXR.out HGA.out
            have HS8 := hide_ (HS.out.below HB7.out).next
            have HL8 := hide_ (HL.out.trans HB7.out)
            go_wp2_with fail
            go_roundw
            case rel => exact ⟨k + 1, G, by omega, by omega, by go_num, rfl, HS8, HL8⟩
            case measure => simp [intOf]; omega
      · have r4 : ¬ (k : Int) < 14 := by omega
        go_wp2_with fail
        go_ret
        exact ⟨rfl, HB.out⟩
    · have r1 : ¬ (k : Int) < (n : Int) := by omega
      go_wp2_with fail
      go_ret
      exact ⟨rfl, HB.out⟩
set_option maxRecDepth 20000 in
theorem refereePlays_contract (H : Type) (enc : TypeId × Value → H) (W : World) (base : Nat) (args : Array Value) (ds : List (DataW H)) (before : List MemPlace)
    (hval : ∀ (j : Nat) t v, Try.f9.params[j]? = some t → args[j]? = some v → Value.okWide Try.prog W .any base t v)
    (hA : DataW.TrodAll enc Try.prog W 0 (fun _ => true) true Try.f9.params.toList args.toList ds before)
    (_hsz : (DataW.weightsEach Try.prog (Try.f9.params.toList ++ Rows.refereePlaysSpec.plain.varTypes Try.prog) (ds ++ [])).all (· ≤ reachBytes) = true)
    (hk : Rows.uptoSmall H (ds ++ []) = true) :
    Calls Try.prog 9 args W fun e W' => e = .returned (.bool true) ∧ Below W.heap.size W W' := by
  rw [Try.params9] at hA hval
  obtain ⟨v0, vs0, d0, ds0, p0, q0, hargs, rfl, rfl, h0, r0⟩ := trodAll_cons hA
  obtain ⟨rfl, rfl, rfl⟩ := trodAll_nil r0
  obtain rfl : args = #[v0] := by cases args; simp_all
  have hbb := bulk_bound hk
  have hb0 := bulk_mem (d := d0) (l := [d0]) (by simp)
  obtain ⟨A, c, X, rfl, hcm, hX⟩ := mopen_racts (hval 0 57 v0 rfl rfl) h0 (by omega)
  exact refereePlays_walk A _ c X hX hcm

set_option maxRecDepth 100000 in
theorem refereePlays_lifted (os : Os) (started : os.Started) (H : Type) (enc : TypeId × Value → H) (F : Stop.Interp) :
    ReturnsInHanded {} Try.checked os 9 .any ((Rows.OpenSpec.upto Rows.refereePlaysSpec).pre6 enc Try.prog Try.f9 Rows.refereePlaysUptoRow.domain false) (((Rows.OpenSpec.upto Rows.refereePlaysSpec).at F).post enc Try.prog Try.f9 false true false false) := by
  refine returnsInHanded_of_cond_sized (C := Try.checked) (s := Rows.OpenSpec.upto Rows.refereePlaysSpec) (k := Rows.uptoSmall) rfl own started (by kernel_rfl) Try.func9
    (OpenSpec.witness (enc := enc) (C := Try.checked) (s := Rows.OpenSpec.upto Rows.refereePlaysSpec) (k := Rows.uptoSmall) rfl false ⟨#[], #[.slice none 0 0], []⟩ 8 (by kernel_rfl) (by kernel_rfl) (by kernel_rfl)
      (x := ([.nil], [], [])) (by kernel_rfl) rfl (by kernel_rfl)) ?_
  intro W base args ds gs before hval hW _ hk hsz _
  have hW' := hW
  obtain ⟨p, q, hA0, hV, rfl, hfz, hnd⟩ := hW
  obtain ⟨rfl, rfl⟩ := trodVars_none hV
  have hA : DataW.TrodAll enc Try.prog W 0 (fun _ => true) true Try.f9.params.toList args.toList ds p := hA0
  refine (refereePlays_contract H enc W base args ds p hval hA hsz hk).mono fun e W' ⟨he, hb⟩ => ?_
  subst he
  have hds : ds.length = 1 := by
    rw [Try.params9] at hA
    obtain ⟨v0, vs0, d0, ds0, p0, q0, _, rfl, rfl, _, r0⟩ := trodAll_cons hA
    obtain ⟨_, rfl, rfl⟩ := trodAll_nil r0
    rfl
  have hsh : ∃ d0 : DataW H, ds = [d0] := by
    match ds, hds with
    | [d0], _ => exact ⟨d0, rfl⟩
  obtain ⟨d0, rfl⟩ := hsh
  exact ⟨_, rfl, post_law (s := Rows.refereePlaysSpec) laidOut (by kernel_rfl) Try.underlying4 rfl (by kernel_rfl) hW' rfl rfl rfl hb⟩
theorem refereePlays_over : Rows.refereePlaysUptoRow.holds Try.pinned (Rows.OpenSpec.upto Rows.refereePlaysSpec) :=
  OpenClaim.holds_of_cond 9 Try.f9 rfl rfl rfl rfl rfl rfl rfl ⟨rfl, rfl, rfl, rfl, rfl⟩ rfl rfl rfl rfl rfl (by kernel_rfl) Try.func9 (by kernel_rfl)
    (of_decide_eq_true (by kernel_rfl)) (by unfold Func.isWrapper; first | (rw [if_pos (by decide +kernel)]; kernel_rfl) | (rw [if_neg (by decide +kernel)]; exact ⟨rfl, rfl⟩))
    (fun os started H enc _ F => refereePlays_lifted os started H enc F)
/-- The statement. -/
theorem refereePlays_holds : Rows.RefereePlaysUptoSaid := refereePlays_over
end Go.Proofs.Ytidlkomgondkiaa
