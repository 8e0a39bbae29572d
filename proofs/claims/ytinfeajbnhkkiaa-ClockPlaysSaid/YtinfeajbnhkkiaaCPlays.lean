/-
  ClockPlays: for any calls a clock answers as the document's clock does; it writes nothing that was there.
  Conditions: none.
-/
import Derived.Test.YtinfeajbnhkkiaaCBoth
namespace Go.Proofs.Ytinfeajbnhkkiaa
open Go.ChangeShapes Go.WideShapes Go.ChangeAt Go.RowKit
set_option linter.unusedVariables false
set_option linter.unusedSimpArgs false
/-- Both clocks stand, and say the same. -/
def TwoC (base : Nat) (w : World) (C R k : Nat) : Prop := ∃ t L n, CK w C n t L ∧ RK w R t L ∧ n ≤ k ∧ CB base w C ∧ CU R w C
theorem but_same {b : Int} {L : List Bel} : (butB b L).length = L.length ↔ ∀ x, x ∈ L → x.1 ≠ b := by
  unfold butB
  rw [List.length_filter_eq_length_iff]
  exact ⟨fun h x hx => by have := h x hx; simpa using this, fun h x hx => by simpa using h x hx⟩
theorem CK.bells {w : World} {C n : Nat} {t : Int} {L : List Bel} (h : CK w C n t L) : Bells L ∧ 0 ≤ t ∧ t ≤ 1099511627776 := by obtain ⟨B, h1, h2, h3, h4, h5, h6⟩ := h; exact ⟨h3, h4, h5⟩
set_option maxRecDepth 100000 in
set_option maxHeartbeats 32000000 in
theorem clockPlays_walk {w : World} (A : Option Addr) (n c : Nat) (X : List ActC) (hX : ActCRow w A n X) (hcm : n ≤ maxLen) :
    Calls Try.prog 4 #[.slice A n c] w fun e w' => e = .returned (.bool true) ∧ Below w.heap.size w w' := by
  have HX := hide_ hX
  unfold maxLen at hcm
  have hn2 : (n : Int) ≤ 9223372036854775807 := by omega
  clear hX
  go_enter Try.func4, Try.ntmps4
  go_wp2_with fail
  refine (cknew_any _).mono ?_; rintro e w1 ⟨rfl, hck, hcb, hb1⟩
  have HCK1 := hide_ hck; have HCB1 := hide_ hcb; have HB1 := hide_ hb1
  clear hck hcb hb1
  go_wp2_with fail
  refine (cawake_yes _).mono ?_; rintro e w2 ⟨rfl, hb2⟩
  have HCB2 := hide_ (HCB1.out.later HCK1.out.lt hb2); have HCK2 := hide_ (HCK1.out.later hb2); have HB2 := hide_ (HB1.out.trans hb2)
  clear hb2
  have hal := later_alloc w2 (.cells #[.int .i64 0, .slice none 0 0] 39)
  have hwc := HCK2.out.lt
  have HT3 := hide_ (show TwoC w.heap.size (w2.alloc (.cells #[.int .i64 0, .slice none 0 0] 39)) (w.heap.size + 1) w2.heap.size 0 from
    ⟨0, [], 0, HCK2.out.later hal, ⟨none, 0, 0, heap_alloc_new _ _, Rd.nil _ _ _, rfl, by omega, fun _ => rfl, fun b o e => nomatch e⟩, by omega, HCB2.out.later hwc hal, by
      refine ⟨hwc, fun B t hk => ?_⟩
      obtain ⟨B2, g1, ⟨D, g2, _⟩, _⟩ := HCK2.out
      have := ckAt_uniq ((hal.block _ g1.lt).trans g1) hk
      subst this; exact g2.lt⟩)
  have HB3 := hide_ (HB2.out.trans hal)
  have hsz2 : w.heap.size + 1 ≤ w2.heap.size := by omega
  clear hal
  go_wp2_with fail
  go_loopw [5] (fun s5 wr => ∃ (k : Nat), k ≤ n ∧ k ≤ 200 ∧ s5 = .int .i64 k ∧ Hid (TwoC w.heap.size wr (w.heap.size + 1) w2.heap.size k) ∧ Hid (Later w wr)) (fun i _ => 200 - (intOf i).toNat)
  case atStart => exact ⟨0, by omega, by omega, rfl, HT3, HB3⟩
  case round =>
    obtain ⟨k, hk, hk14, rfl, HTW, HB⟩ := hrel
    have r3 : (0 : Int) ≤ (k : Int) := by omega
    have r5 : (k : Int) ≤ 200 := by omega
    by_cases hlt : k < n
    · have r1 : (k : Int) < (n : Int) := by omega
      by_cases h14 : k < 200
      · have r4 : (k : Int) < 200 := by omega
        obtain ⟨a, ha⟩ : ∃ a, X[k]? = some a := ⟨_, List.getElem?_eq_getElem (by rw [HX.out.1]; exact hlt)⟩
        obtain ⟨b, o, rfl, h0, h1, h2, hwb, hwv⟩ := HX.out.2 k a ha
        obtain ⟨x, bl, v⟩ := a
        have l0 := later_cell h0 _ HB.out
        have l1 := later_cell h1 _ HB.out
        have l2 := later_cell h2 _ HB.out
        obtain ⟨t, L, nn, hck, hrk, hnn, hcb, hcu⟩ := HTW.out
        have hal := later_alloc wr (.cells #[.int .i64 x, .int .i64 bl, .int .i64 v] 41)
        have hxr := heap_alloc_new wr (.cells #[.int .i64 x, .int .i64 bl, .int .i64 v] 41)
        obtain ⟨W0, hW0⟩ : ∃ W0, W0 = wr.alloc (.cells #[.int .i64 x, .int .i64 bl, .int .i64 v] 41) := ⟨_, rfl⟩
        have HW := hide_ hW0.symm
        rw [← hW0] at hal hxr
        have hwv2 := i64_iff.1 hwv
        have hwb2 := i64_iff.1 hwb
        have hv1 : v ≤ 9223372036854775807 := hwv2.2
        have HCK := hide_ (hck.later hal); have HRK := hide_ (hrk.later hal); have HCB := hide_ (hcb.later hck.lt hal); have HCU := hide_ (hcu.grown hck.lt (grown_later hal _))
        have HL := hide_ (HB.out.trans hal); have HXR := hide_ hxr
        have a0 := cell_of_row _ _ 0 _ _ (0, 0) hxr; have a1 := cell_of_row _ _ 1 _ _ (0, 0) hxr; have a2 := cell_of_row _ _ 2 _ _ (0, 0) hxr
        have hbe := hck.bells
        have hlen := hbe.1.length
        have ht0 := hbe.2.1; have ht1 := hbe.2.2
        have hRw := hrk.lt
        have hCR := hcu.1
        have HCUT := hide_ (fun (W' : World) (ht : CTurn (w.heap.size + 1) W0 W') => (ht.later HL.out HCB.out))
        have hact : ∀ W', CTurn (w.heap.size + 1) W0 W' → W'.heap[wr.heap.size]? = some (.cells #[.int .i64 x, .int .i64 bl, .int .i64 v] 41 (0, 0)) := fun W' ⟨B, t1, t2, k1, k2, k3, k4, k5, k6, k7⟩ => (k7 _ (theap_lt HXR.out) (by omega) (by have := HCU.out.2 B t1 k1; omega)).trans HXR.out
        have HACT := hide_ hact
        clear h0 h1 h2 ha hck hrk hcb hcu hal hxr hW0 hbe hact hwb hwv
        by_cases x0 : x = 0 ∨ x = 1
        rotate_left
        · have e0 : ¬ x = 0 := fun h => x0 (.inl h)
          have e1 : ¬ x = 1 := fun h => x0 (.inr h)
          have z0 : decide (x = 0) = false := decide_eq_false e0
          have z1 : decide (x = 1) = false := decide_eq_false e1
          have y0 : (x == 0) = false := beq_eq_false_iff_ne.2 e0
          have y1 : (x == 1) = false := beq_eq_false_iff_ne.2 e1
          clear x0 e0 e1
          by_cases x2 : x = 2
          · subst x2
            go_wp2_with (rw [HW.out])
            refine (ckstop_any bl HCK.out).mono ?_; rintro e w4 h
            rcases h with ⟨hb0, rfl, rfl⟩ | ⟨hb0, hb1, hno, rfl, rfl⟩ | ⟨hb0, hb1, hex, rfl, hck4, ht4⟩
            · have HXc := HXR
              have d0 := cell_of_row _ _ 0 _ _ (0, 0) HXc.out
              have d1 := cell_of_row _ _ 1 _ _ (0, 0) HXc.out
              have d2 := cell_of_row _ _ 2 _ _ (0, 0) HXc.out
              have HST := hide_ (rstop_any bl HRK.out hlen)
              clear l0 l1 l2
              go_wp2_with fail
              refine HST.out.mono ?_; rintro e wz h
              rcases h with ⟨_, rfl, hbz⟩ | ⟨g0, g1, _⟩ | ⟨g0, g1, _⟩
              rotate_left
              · exfalso; omega
              · exfalso; omega
              have HCKz := hide_ (HCK.out.later hbz); have HRKz := hide_ (HRK.out.later hbz); have HBz := hide_ (HL.out.trans hbz); have HCBz := hide_ (HCB.out.later HCK.out.lt hbz); have HCUz := hide_ (HCU.out.grown HCK.out.lt (grown_later hbz _))
              obtain ⟨nz, hnz⟩ : ∃ nz, nz = nn := ⟨_, rfl⟩
              rw [← hnz] at HCKz
              clear hbz
              have HXz := hide_ (Rd.nil wz.drew 1 none)
              have HYz := hide_ (Rd.nil wz.drew 1 none)
              have HVz := hide_ (show ([] : List Int).length = 0 from rfl)
              have hmz : 0 ≤ 1048576 := by omega
              have HRZ := hide_ HRKz.out
              obtain ⟨Az, mz, cz, hraz, _⟩ := HRZ.out
              have kz := later_drew_cell (cell_of_row _ _ 0 _ _ (0, 0) hraz)
              have hin := hide_ (ints_same (w := wz.drew) (c := 0) (c' := 0) HXz.out HYz.out HVz.out hmz)
              have hnow := hide_ (fun (Wx : World) (hx : Later wz.drew Wx) => cnow_any (HCKz.out.later ((below_drewN (Later.refl wz) 1).trans hx)))
              clear hraz d0 d1 d2
              go_wp2_with fail
              refine wp_region_k (by kernel_rfl) ?_
              refine wpAnyK_take 0 (v := ?_) rfl (by kernel_rfl) (by kernel_rfl) (by kernel_rfl) (fun _ _ _ h => h) (by rfl) (by intro W hSw; go_simp; with_reducible rfl) ?_; try simp only [Act.put, List.setIfInBounds_toArray, List.set_cons_zero, List.set_cons_succ]
              refine wpAnyK_take 1 (v := ?_) rfl (by kernel_rfl) (by kernel_rfl) (by kernel_rfl) (fun _ _ _ h => h) (by rfl) (by intro W hSw; go_simp; with_reducible rfl) ?_; try simp only [Act.put, List.setIfInBounds_toArray, List.set_cons_zero, List.set_cons_succ]
              refine wpAnyK_take 2 (v := ?_) rfl (by kernel_rfl) (by kernel_rfl) (by kernel_rfl) (fun _ _ _ h => h) (by rfl) (by intro W hSw; go_simp; with_reducible rfl) ?_; try simp only [Act.put, List.setIfInBounds_toArray, List.set_cons_zero, List.set_cons_succ]
              refine wpAnyK_take 3 (v := ?_) rfl (by kernel_rfl) (by kernel_rfl) (by kernel_rfl) (fun _ _ _ h => h) (by rfl) (by intro W hSw; go_simp; with_reducible rfl) ?_; try simp only [Act.put, List.setIfInBounds_toArray, List.set_cons_zero, List.set_cons_succ]
              refine wpAnyK_take 4 (v := ?_) rfl (by kernel_rfl) (by kernel_rfl) (by kernel_rfl) (fun _ _ _ h => h) (by rfl) (by intro W hSw; go_simp; with_reducible rfl) ?_; try simp only [Act.put, List.setIfInBounds_toArray, List.set_cons_zero, List.set_cons_succ]
              refine wpAnyK_take 5 (v := ?_) rfl (by kernel_rfl) (by kernel_rfl) (by kernel_rfl) (fun _ _ _ h => h) (by rfl) (by intro W hSw; go_simp; with_reducible rfl) ?_; try simp only [Act.put, List.setIfInBounds_toArray, List.set_cons_zero, List.set_cons_succ]
              refine wpAnyK_one 6 (by kernel_rfl) rfl (fun K hK => ?_)
              go_simp
              refine hin.out.mono ?_; rintro e w20 ⟨rfl, hb20⟩; have kz2 := later_cell (kz _ hb20)
              refine hK.out _ _ (by assumption) ?_
              clear hK K; try simp only [Act.put, List.setIfInBounds_toArray, List.set_cons_zero, List.set_cons_succ]
              refine wpAnyK_take 7 (v := ?_) rfl (by kernel_rfl) (by kernel_rfl) (by kernel_rfl) (fun _ _ _ h => h) (by rfl) (by intro W hSw; go_simp; with_reducible rfl) ?_; try simp only [Act.put, List.setIfInBounds_toArray, List.set_cons_zero, List.set_cons_succ]
              refine wpAnyK_take 8 (v := ?_) rfl (by kernel_rfl) (by kernel_rfl) (by kernel_rfl) (fun _ _ _ h => h) (by rfl) (by intro W hSw; go_simp; with_reducible rfl) ?_; try simp only [Act.put, List.setIfInBounds_toArray, List.set_cons_zero, List.set_cons_succ]
              refine wpAnyK_take 9 (v := ?_) rfl (by kernel_rfl) (by kernel_rfl) (by kernel_rfl) (fun _ _ _ h => h) (by rfl) (by intro W hSw; go_simp; with_reducible rfl) ?_; try simp only [Act.put, List.setIfInBounds_toArray, List.set_cons_zero, List.set_cons_succ]
              refine wpAnyK_take 10 (v := ?_) rfl (by kernel_rfl) (by kernel_rfl) (by kernel_rfl) (fun _ _ _ h => h) (by rfl) (by intro W hSw; go_simp; with_reducible rfl) ?_; try simp only [Act.put, List.setIfInBounds_toArray, List.set_cons_zero, List.set_cons_succ]
              refine wpAnyK_take 12 (v := ?_) rfl (by kernel_rfl) (by kernel_rfl) (by kernel_rfl) (fun _ _ _ h => h) (by rfl) (by intro W hSw; go_simp; with_reducible rfl) ?_; try simp only [Act.put, List.setIfInBounds_toArray, List.set_cons_zero, List.set_cons_succ]
              refine wpAnyK_take 13 (v := ?_) rfl (by kernel_rfl) (by kernel_rfl) (by kernel_rfl) (fun _ _ _ h => h) (by rfl) (by intro W hSw; go_simp; with_reducible rfl) ?_; try simp only [Act.put, List.setIfInBounds_toArray, List.set_cons_zero, List.set_cons_succ]
              refine wpAnyK_take 14 (v := ?_) rfl (by kernel_rfl) (by kernel_rfl) (by kernel_rfl) (fun _ _ _ h => h) (by rfl) (by intro W hSw; go_simp; with_reducible rfl) ?_; try simp only [Act.put, List.setIfInBounds_toArray, List.set_cons_zero, List.set_cons_succ]
              refine wpAnyK_take 15 (v := ?_) rfl (by kernel_rfl) (by kernel_rfl) (by kernel_rfl) (fun _ _ _ h => h) (by rfl) (by intro W hSw; go_simp; with_reducible rfl) ?_; try simp only [Act.put, List.setIfInBounds_toArray, List.set_cons_zero, List.set_cons_succ]
              refine wpAnyK_one 11 (by kernel_rfl) rfl (fun K hK => ?_)
              go_simp
              refine (hnow.out _ hb20).mono ?_; rintro e w21 ⟨rfl, rfl⟩; have hlr := Later.refl w20
              refine hK.out _ _ (by assumption) ?_
              clear hK K; try simp only [Act.put, List.setIfInBounds_toArray, List.set_cons_zero, List.set_cons_succ]
              refine wpAnyK_take 16 (v := ?_) rfl (by kernel_rfl) (by kernel_rfl) (by kernel_rfl) (fun _ _ _ h => h) (by rfl) (by intro W hSw; go_simp; with_reducible rfl) ?_; try simp only [Act.put, List.setIfInBounds_toArray, List.set_cons_zero, List.set_cons_succ]
              refine wpAnyK_take 17 (v := ?_) rfl (by kernel_rfl) (by kernel_rfl) (by kernel_rfl) (fun _ _ _ h => h) (by rfl) (by intro W hSw; go_simp; with_reducible rfl) ?_; try simp only [Act.put, List.setIfInBounds_toArray, List.set_cons_zero, List.set_cons_succ]
              refine wpAnyK_done (by kernel_rfl) ?_ _
              have hlz := (below_drewN (Later.refl wz) 1).trans hb20
              have HT8 := hide_ (show TwoC w.heap.size w20 (w.heap.size + 1) w2.heap.size (k + 1) from ⟨_, _, nz, HCKz.out.later hlz, HRKz.out.later hlz, by omega, HCBz.out.later HCKz.out.lt hlz, HCUz.out.grown HCKz.out.lt (grown_later hlz _)⟩)
              have HB8 := hide_ (HBz.out.trans hlz)
              clear kz kz2 hin hnow hb20 hlz
              go_wp2_with fail
              go_roundw
              case rel => exact ⟨k + 1, by omega, by omega, by go_num, HT8, HB8⟩
              case measure => simp [intOf]; omega
            · have HXc := HXR
              have d0 := cell_of_row _ _ 0 _ _ (0, 0) HXc.out
              have d1 := cell_of_row _ _ 1 _ _ (0, 0) HXc.out
              have d2 := cell_of_row _ _ 2 _ _ (0, 0) HXc.out
              have HST := hide_ (rstop_any bl HRK.out hlen)
              clear l0 l1 l2
              go_wp2_with fail
              refine HST.out.mono ?_; rintro e wz h
              rcases h with ⟨g0, _⟩ | ⟨_, _, _, rfl, hbz⟩ | ⟨_, _, hne, _⟩
              · exfalso; omega
              rotate_left
              · exact absurd (but_same.2 hno) hne
              have HCKz := hide_ (HCK.out.later hbz); have HRKz := hide_ (HRK.out.later hbz); have HBz := hide_ (HL.out.trans hbz); have HCBz := hide_ (HCB.out.later HCK.out.lt hbz); have HCUz := hide_ (HCU.out.grown HCK.out.lt (grown_later hbz _))
              obtain ⟨nz, hnz⟩ : ∃ nz, nz = nn := ⟨_, rfl⟩
              rw [← hnz] at HCKz
              clear hbz
              have HXz := hide_ (Rd.nil wz.drew 1 none)
              have HYz := hide_ (Rd.nil wz.drew 1 none)
              have HVz := hide_ (show ([] : List Int).length = 0 from rfl)
              have hmz : 0 ≤ 1048576 := by omega
              have HRZ := hide_ HRKz.out
              obtain ⟨Az, mz, cz, hraz, _⟩ := HRZ.out
              have kz := later_drew_cell (cell_of_row _ _ 0 _ _ (0, 0) hraz)
              have hin := hide_ (ints_same (w := wz.drew) (c := 0) (c' := 0) HXz.out HYz.out HVz.out hmz)
              have hnow := hide_ (fun (Wx : World) (hx : Later wz.drew Wx) => cnow_any (HCKz.out.later ((below_drewN (Later.refl wz) 1).trans hx)))
              clear hraz d0 d1 d2
              go_wp2_with fail
              refine wp_region_k (by kernel_rfl) ?_
              refine wpAnyK_take 0 (v := ?_) rfl (by kernel_rfl) (by kernel_rfl) (by kernel_rfl) (fun _ _ _ h => h) (by rfl) (by intro W hSw; go_simp; with_reducible rfl) ?_; try simp only [Act.put, List.setIfInBounds_toArray, List.set_cons_zero, List.set_cons_succ]
              refine wpAnyK_take 1 (v := ?_) rfl (by kernel_rfl) (by kernel_rfl) (by kernel_rfl) (fun _ _ _ h => h) (by rfl) (by intro W hSw; go_simp; with_reducible rfl) ?_; try simp only [Act.put, List.setIfInBounds_toArray, List.set_cons_zero, List.set_cons_succ]
              refine wpAnyK_take 2 (v := ?_) rfl (by kernel_rfl) (by kernel_rfl) (by kernel_rfl) (fun _ _ _ h => h) (by rfl) (by intro W hSw; go_simp; with_reducible rfl) ?_; try simp only [Act.put, List.setIfInBounds_toArray, List.set_cons_zero, List.set_cons_succ]
              refine wpAnyK_take 3 (v := ?_) rfl (by kernel_rfl) (by kernel_rfl) (by kernel_rfl) (fun _ _ _ h => h) (by rfl) (by intro W hSw; go_simp; with_reducible rfl) ?_; try simp only [Act.put, List.setIfInBounds_toArray, List.set_cons_zero, List.set_cons_succ]
              refine wpAnyK_take 4 (v := ?_) rfl (by kernel_rfl) (by kernel_rfl) (by kernel_rfl) (fun _ _ _ h => h) (by rfl) (by intro W hSw; go_simp; with_reducible rfl) ?_; try simp only [Act.put, List.setIfInBounds_toArray, List.set_cons_zero, List.set_cons_succ]
              refine wpAnyK_take 5 (v := ?_) rfl (by kernel_rfl) (by kernel_rfl) (by kernel_rfl) (fun _ _ _ h => h) (by rfl) (by intro W hSw; go_simp; with_reducible rfl) ?_; try simp only [Act.put, List.setIfInBounds_toArray, List.set_cons_zero, List.set_cons_succ]
              refine wpAnyK_one 6 (by kernel_rfl) rfl (fun K hK => ?_)
              go_simp
              refine hin.out.mono ?_; rintro e w20 ⟨rfl, hb20⟩; have kz2 := later_cell (kz _ hb20)
              refine hK.out _ _ (by assumption) ?_
              clear hK K; try simp only [Act.put, List.setIfInBounds_toArray, List.set_cons_zero, List.set_cons_succ]
              refine wpAnyK_take 7 (v := ?_) rfl (by kernel_rfl) (by kernel_rfl) (by kernel_rfl) (fun _ _ _ h => h) (by rfl) (by intro W hSw; go_simp; with_reducible rfl) ?_; try simp only [Act.put, List.setIfInBounds_toArray, List.set_cons_zero, List.set_cons_succ]
              refine wpAnyK_take 8 (v := ?_) rfl (by kernel_rfl) (by kernel_rfl) (by kernel_rfl) (fun _ _ _ h => h) (by rfl) (by intro W hSw; go_simp; with_reducible rfl) ?_; try simp only [Act.put, List.setIfInBounds_toArray, List.set_cons_zero, List.set_cons_succ]
              refine wpAnyK_take 9 (v := ?_) rfl (by kernel_rfl) (by kernel_rfl) (by kernel_rfl) (fun _ _ _ h => h) (by rfl) (by intro W hSw; go_simp; with_reducible rfl) ?_; try simp only [Act.put, List.setIfInBounds_toArray, List.set_cons_zero, List.set_cons_succ]
              refine wpAnyK_take 10 (v := ?_) rfl (by kernel_rfl) (by kernel_rfl) (by kernel_rfl) (fun _ _ _ h => h) (by rfl) (by intro W hSw; go_simp; with_reducible rfl) ?_; try simp only [Act.put, List.setIfInBounds_toArray, List.set_cons_zero, List.set_cons_succ]
              refine wpAnyK_take 12 (v := ?_) rfl (by kernel_rfl) (by kernel_rfl) (by kernel_rfl) (fun _ _ _ h => h) (by rfl) (by intro W hSw; go_simp; with_reducible rfl) ?_; try simp only [Act.put, List.setIfInBounds_toArray, List.set_cons_zero, List.set_cons_succ]
              refine wpAnyK_take 13 (v := ?_) rfl (by kernel_rfl) (by kernel_rfl) (by kernel_rfl) (fun _ _ _ h => h) (by rfl) (by intro W hSw; go_simp; with_reducible rfl) ?_; try simp only [Act.put, List.setIfInBounds_toArray, List.set_cons_zero, List.set_cons_succ]
              refine wpAnyK_take 14 (v := ?_) rfl (by kernel_rfl) (by kernel_rfl) (by kernel_rfl) (fun _ _ _ h => h) (by rfl) (by intro W hSw; go_simp; with_reducible rfl) ?_; try simp only [Act.put, List.setIfInBounds_toArray, List.set_cons_zero, List.set_cons_succ]
              refine wpAnyK_take 15 (v := ?_) rfl (by kernel_rfl) (by kernel_rfl) (by kernel_rfl) (fun _ _ _ h => h) (by rfl) (by intro W hSw; go_simp; with_reducible rfl) ?_; try simp only [Act.put, List.setIfInBounds_toArray, List.set_cons_zero, List.set_cons_succ]
              refine wpAnyK_one 11 (by kernel_rfl) rfl (fun K hK => ?_)
              go_simp
              refine (hnow.out _ hb20).mono ?_; rintro e w21 ⟨rfl, rfl⟩; have hlr := Later.refl w20
              refine hK.out _ _ (by assumption) ?_
              clear hK K; try simp only [Act.put, List.setIfInBounds_toArray, List.set_cons_zero, List.set_cons_succ]
              refine wpAnyK_take 16 (v := ?_) rfl (by kernel_rfl) (by kernel_rfl) (by kernel_rfl) (fun _ _ _ h => h) (by rfl) (by intro W hSw; go_simp; with_reducible rfl) ?_; try simp only [Act.put, List.setIfInBounds_toArray, List.set_cons_zero, List.set_cons_succ]
              refine wpAnyK_take 17 (v := ?_) rfl (by kernel_rfl) (by kernel_rfl) (by kernel_rfl) (fun _ _ _ h => h) (by rfl) (by intro W hSw; go_simp; with_reducible rfl) ?_; try simp only [Act.put, List.setIfInBounds_toArray, List.set_cons_zero, List.set_cons_succ]
              refine wpAnyK_done (by kernel_rfl) ?_ _
              have hlz := (below_drewN (Later.refl wz) 1).trans hb20
              have HT8 := hide_ (show TwoC w.heap.size w20 (w.heap.size + 1) w2.heap.size (k + 1) from ⟨_, _, nz, HCKz.out.later hlz, HRKz.out.later hlz, by omega, HCBz.out.later HCKz.out.lt hlz, HCUz.out.grown HCKz.out.lt (grown_later hlz _)⟩)
              have HB8 := hide_ (HBz.out.trans hlz)
              clear kz kz2 hin hnow hb20 hlz
              go_wp2_with fail
              go_roundw
              case rel => exact ⟨k + 1, by omega, by omega, by go_num, HT8, HB8⟩
              case measure => simp [intOf]; omega
            · have HXc := hide_ (HACT.out w4 ht4)
              have HRK4 := hide_ (HRK.out.turn ht4 HCU.out); have HCK4 := hide_ hck4; have HB4 := hide_ (HCUT.out w4 ht4); have HCB4 := hide_ (HCB.out.turn ht4); have HCU4 := hide_ (HCU.out.turn ht4)
              have d0 := cell_of_row _ _ 0 _ _ (0, 0) HXc.out
              have d1 := cell_of_row _ _ 1 _ _ (0, 0) HXc.out
              have d2 := cell_of_row _ _ 2 _ _ (0, 0) HXc.out
              have HST := hide_ (rstop_any bl HRK4.out hlen)
              clear l0 l1 l2 ht4 hck4
              go_wp2_with fail
              refine HST.out.mono ?_; rintro e wz h
              rcases h with ⟨g0, _⟩ | ⟨_, _, heq, _⟩ | ⟨_, _, _, rfl, hrkz, hgz⟩
              · exfalso; omega
              · obtain ⟨y, hy, hyb⟩ := hex; exact absurd hyb (but_same.1 heq y hy)
              have HCKz := hide_ (HCK4.out.grown HCU4.out hgz); have HRKz := hide_ hrkz; have HBz := hide_ (grown_laterR HB4.out hgz (by omega)); have HCBz := hide_ (HCB4.out.grown HCU4.out HCK4.out.lt hgz); have HCUz := hide_ (HCU4.out.grown HCK4.out.lt hgz)
              obtain ⟨nz, hnz⟩ : ∃ nz, nz = nn := ⟨_, rfl⟩
              rw [← hnz] at HCKz
              clear hrkz hgz
              have HXz := hide_ (Rd.nil wz.drew 1 none)
              have HYz := hide_ (Rd.nil wz.drew 1 none)
              have HVz := hide_ (show ([] : List Int).length = 0 from rfl)
              have hmz : 0 ≤ 1048576 := by omega
              have HRZ := hide_ HRKz.out
              obtain ⟨Az, mz, cz, hraz, _⟩ := HRZ.out
              have kz := later_drew_cell (cell_of_row _ _ 0 _ _ (0, 0) hraz)
              have hin := hide_ (ints_same (w := wz.drew) (c := 0) (c' := 0) HXz.out HYz.out HVz.out hmz)
              have hnow := hide_ (fun (Wx : World) (hx : Later wz.drew Wx) => cnow_any (HCKz.out.later ((below_drewN (Later.refl wz) 1).trans hx)))
              clear hraz d0 d1 d2
              go_wp2_with fail
              refine wp_region_k (by kernel_rfl) ?_
              refine wpAnyK_take 0 (v := ?_) rfl (by kernel_rfl) (by kernel_rfl) (by kernel_rfl) (fun _ _ _ h => h) (by rfl) (by intro W hSw; go_simp; with_reducible rfl) ?_; try simp only [Act.put, List.setIfInBounds_toArray, List.set_cons_zero, List.set_cons_succ]
              refine wpAnyK_take 1 (v := ?_) rfl (by kernel_rfl) (by kernel_rfl) (by kernel_rfl) (fun _ _ _ h => h) (by rfl) (by intro W hSw; go_simp; with_reducible rfl) ?_; try simp only [Act.put, List.setIfInBounds_toArray, List.set_cons_zero, List.set_cons_succ]
              refine wpAnyK_take 2 (v := ?_) rfl (by kernel_rfl) (by kernel_rfl) (by kernel_rfl) (fun _ _ _ h => h) (by rfl) (by intro W hSw; go_simp; with_reducible rfl) ?_; try simp only [Act.put, List.setIfInBounds_toArray, List.set_cons_zero, List.set_cons_succ]
              refine wpAnyK_take 3 (v := ?_) rfl (by kernel_rfl) (by kernel_rfl) (by kernel_rfl) (fun _ _ _ h => h) (by rfl) (by intro W hSw; go_simp; with_reducible rfl) ?_; try simp only [Act.put, List.setIfInBounds_toArray, List.set_cons_zero, List.set_cons_succ]
              refine wpAnyK_take 4 (v := ?_) rfl (by kernel_rfl) (by kernel_rfl) (by kernel_rfl) (fun _ _ _ h => h) (by rfl) (by intro W hSw; go_simp; with_reducible rfl) ?_; try simp only [Act.put, List.setIfInBounds_toArray, List.set_cons_zero, List.set_cons_succ]
              refine wpAnyK_take 5 (v := ?_) rfl (by kernel_rfl) (by kernel_rfl) (by kernel_rfl) (fun _ _ _ h => h) (by rfl) (by intro W hSw; go_simp; with_reducible rfl) ?_; try simp only [Act.put, List.setIfInBounds_toArray, List.set_cons_zero, List.set_cons_succ]
              refine wpAnyK_one 6 (by kernel_rfl) rfl (fun K hK => ?_)
              go_simp
              refine hin.out.mono ?_; rintro e w20 ⟨rfl, hb20⟩; have kz2 := later_cell (kz _ hb20)
              refine hK.out _ _ (by assumption) ?_
              clear hK K; try simp only [Act.put, List.setIfInBounds_toArray, List.set_cons_zero, List.set_cons_succ]
              refine wpAnyK_take 7 (v := ?_) rfl (by kernel_rfl) (by kernel_rfl) (by kernel_rfl) (fun _ _ _ h => h) (by rfl) (by intro W hSw; go_simp; with_reducible rfl) ?_; try simp only [Act.put, List.setIfInBounds_toArray, List.set_cons_zero, List.set_cons_succ]
              refine wpAnyK_take 8 (v := ?_) rfl (by kernel_rfl) (by kernel_rfl) (by kernel_rfl) (fun _ _ _ h => h) (by rfl) (by intro W hSw; go_simp; with_reducible rfl) ?_; try simp only [Act.put, List.setIfInBounds_toArray, List.set_cons_zero, List.set_cons_succ]
              refine wpAnyK_take 9 (v := ?_) rfl (by kernel_rfl) (by kernel_rfl) (by kernel_rfl) (fun _ _ _ h => h) (by rfl) (by intro W hSw; go_simp; with_reducible rfl) ?_; try simp only [Act.put, List.setIfInBounds_toArray, List.set_cons_zero, List.set_cons_succ]
              refine wpAnyK_take 10 (v := ?_) rfl (by kernel_rfl) (by kernel_rfl) (by kernel_rfl) (fun _ _ _ h => h) (by rfl) (by intro W hSw; go_simp; with_reducible rfl) ?_; try simp only [Act.put, List.setIfInBounds_toArray, List.set_cons_zero, List.set_cons_succ]
              refine wpAnyK_take 12 (v := ?_) rfl (by kernel_rfl) (by kernel_rfl) (by kernel_rfl) (fun _ _ _ h => h) (by rfl) (by intro W hSw; go_simp; with_reducible rfl) ?_; try simp only [Act.put, List.setIfInBounds_toArray, List.set_cons_zero, List.set_cons_succ]
              refine wpAnyK_take 13 (v := ?_) rfl (by kernel_rfl) (by kernel_rfl) (by kernel_rfl) (fun _ _ _ h => h) (by rfl) (by intro W hSw; go_simp; with_reducible rfl) ?_; try simp only [Act.put, List.setIfInBounds_toArray, List.set_cons_zero, List.set_cons_succ]
              refine wpAnyK_take 14 (v := ?_) rfl (by kernel_rfl) (by kernel_rfl) (by kernel_rfl) (fun _ _ _ h => h) (by rfl) (by intro W hSw; go_simp; with_reducible rfl) ?_; try simp only [Act.put, List.setIfInBounds_toArray, List.set_cons_zero, List.set_cons_succ]
              refine wpAnyK_take 15 (v := ?_) rfl (by kernel_rfl) (by kernel_rfl) (by kernel_rfl) (fun _ _ _ h => h) (by rfl) (by intro W hSw; go_simp; with_reducible rfl) ?_; try simp only [Act.put, List.setIfInBounds_toArray, List.set_cons_zero, List.set_cons_succ]
              refine wpAnyK_one 11 (by kernel_rfl) rfl (fun K hK => ?_)
              go_simp
              refine (hnow.out _ hb20).mono ?_; rintro e w21 ⟨rfl, rfl⟩; have hlr := Later.refl w20
              refine hK.out _ _ (by assumption) ?_
              clear hK K; try simp only [Act.put, List.setIfInBounds_toArray, List.set_cons_zero, List.set_cons_succ]
              refine wpAnyK_take 16 (v := ?_) rfl (by kernel_rfl) (by kernel_rfl) (by kernel_rfl) (fun _ _ _ h => h) (by rfl) (by intro W hSw; go_simp; with_reducible rfl) ?_; try simp only [Act.put, List.setIfInBounds_toArray, List.set_cons_zero, List.set_cons_succ]
              refine wpAnyK_take 17 (v := ?_) rfl (by kernel_rfl) (by kernel_rfl) (by kernel_rfl) (fun _ _ _ h => h) (by rfl) (by intro W hSw; go_simp; with_reducible rfl) ?_; try simp only [Act.put, List.setIfInBounds_toArray, List.set_cons_zero, List.set_cons_succ]
              refine wpAnyK_done (by kernel_rfl) ?_ _
              have hlz := (below_drewN (Later.refl wz) 1).trans hb20
              have HT8 := hide_ (show TwoC w.heap.size w20 (w.heap.size + 1) w2.heap.size (k + 1) from ⟨_, _, nz, HCKz.out.later hlz, HRKz.out.later hlz, by omega, HCBz.out.later HCKz.out.lt hlz, HCUz.out.grown HCKz.out.lt (grown_later hlz _)⟩)
              have HB8 := hide_ (HBz.out.trans hlz)
              clear kz kz2 hin hnow hb20 hlz
              go_wp2_with fail
              go_roundw
              case rel => exact ⟨k + 1, by omega, by omega, by go_num, HT8, HB8⟩
              case measure => simp [intOf]; omega
          · have z2 : decide (x = 2) = false := decide_eq_false x2
            have y2 : (x == 2) = false := beq_eq_false_iff_ne.2 x2
            clear x2
            go_wp2_with (rw [HW.out])
            refine (ckpass_any v HCK.out hv1).mono ?_; rintro e w4 h
            rcases h with ⟨hb0, rfl, hb4⟩ | ⟨hb0, hb1, rfl, hb4⟩ | ⟨hb0, hb1, A4, m4, c4, rfl, hm4, ho4, hck4, ht4⟩
            · have HXc := hide_ (later_row hb4 HXR.out)
              have HRK4 := hide_ (HRK.out.later hb4); have HCK4 := hide_ (HCK.out.later hb4); have HB4 := hide_ (HL.out.trans hb4); have HCB4 := hide_ (HCB.out.later HCK.out.lt hb4); have HCU4 := hide_ (HCU.out.grown HCK.out.lt (grown_later hb4 _))
              have d0 := cell_of_row _ _ 0 _ _ (0, 0) HXc.out
              have d1 := cell_of_row _ _ 1 _ _ (0, 0) HXc.out
              have d2 := cell_of_row _ _ 2 _ _ (0, 0) HXc.out
              have HST := hide_ (rpass_any v HRK4.out hlen ht0 ht1 hv1)
              clear l0 l1 l2 hb4
              go_wp2_with fail
              refine HST.out.mono ?_; rintro e wz h
              rcases h with ⟨_, rfl, hbz⟩ | ⟨g0, _⟩ | ⟨g0, _⟩
              rotate_left
              · exfalso; omega
              · exfalso; omega
              have HCKz := hide_ (HCK4.out.later hbz); have HRKz := hide_ (HRK4.out.later hbz); have HBz := hide_ (HB4.out.trans hbz); have HCBz := hide_ (HCB4.out.later HCK4.out.lt hbz); have HCUz := hide_ (HCU4.out.grown HCK4.out.lt (grown_later hbz _))
              obtain ⟨nz, hnz⟩ : ∃ nz, nz = nn := ⟨_, rfl⟩
              rw [← hnz] at HCKz
              clear hbz
              have HXz := hide_ (Rd.nil wz.drew 1 none)
              have HYz := hide_ (Rd.nil wz.drew 1 none)
              have HVz := hide_ (show ([] : List Int).length = 0 from rfl)
              have hmz : 0 ≤ 1048576 := by omega
              have HRZ := hide_ HRKz.out
              obtain ⟨Az, mz, cz, hraz, _⟩ := HRZ.out
              have kz := later_drew_cell (cell_of_row _ _ 0 _ _ (0, 0) hraz)
              have hin := hide_ (ints_same (w := wz.drew) (c := 0) (c' := 0) HXz.out HYz.out HVz.out hmz)
              have hnow := hide_ (fun (Wx : World) (hx : Later wz.drew Wx) => cnow_any (HCKz.out.later ((below_drewN (Later.refl wz) 1).trans hx)))
              clear hraz d0 d1 d2
              go_wp2_with fail
              refine wp_region_k (by kernel_rfl) ?_
              refine wpAnyK_take 0 (v := ?_) rfl (by kernel_rfl) (by kernel_rfl) (by kernel_rfl) (fun _ _ _ h => h) (by rfl) (by intro W hSw; go_simp; with_reducible rfl) ?_; try simp only [Act.put, List.setIfInBounds_toArray, List.set_cons_zero, List.set_cons_succ]
              refine wpAnyK_take 1 (v := ?_) rfl (by kernel_rfl) (by kernel_rfl) (by kernel_rfl) (fun _ _ _ h => h) (by rfl) (by intro W hSw; go_simp; with_reducible rfl) ?_; try simp only [Act.put, List.setIfInBounds_toArray, List.set_cons_zero, List.set_cons_succ]
              refine wpAnyK_take 2 (v := ?_) rfl (by kernel_rfl) (by kernel_rfl) (by kernel_rfl) (fun _ _ _ h => h) (by rfl) (by intro W hSw; go_simp; with_reducible rfl) ?_; try simp only [Act.put, List.setIfInBounds_toArray, List.set_cons_zero, List.set_cons_succ]
              refine wpAnyK_take 3 (v := ?_) rfl (by kernel_rfl) (by kernel_rfl) (by kernel_rfl) (fun _ _ _ h => h) (by rfl) (by intro W hSw; go_simp; with_reducible rfl) ?_; try simp only [Act.put, List.setIfInBounds_toArray, List.set_cons_zero, List.set_cons_succ]
              refine wpAnyK_take 4 (v := ?_) rfl (by kernel_rfl) (by kernel_rfl) (by kernel_rfl) (fun _ _ _ h => h) (by rfl) (by intro W hSw; go_simp; with_reducible rfl) ?_; try simp only [Act.put, List.setIfInBounds_toArray, List.set_cons_zero, List.set_cons_succ]
              refine wpAnyK_take 5 (v := ?_) rfl (by kernel_rfl) (by kernel_rfl) (by kernel_rfl) (fun _ _ _ h => h) (by rfl) (by intro W hSw; go_simp; with_reducible rfl) ?_; try simp only [Act.put, List.setIfInBounds_toArray, List.set_cons_zero, List.set_cons_succ]
              refine wpAnyK_one 6 (by kernel_rfl) rfl (fun K hK => ?_)
              go_simp
              refine hin.out.mono ?_; rintro e w20 ⟨rfl, hb20⟩; have kz2 := later_cell (kz _ hb20)
              refine hK.out _ _ (by assumption) ?_
              clear hK K; try simp only [Act.put, List.setIfInBounds_toArray, List.set_cons_zero, List.set_cons_succ]
              refine wpAnyK_take 7 (v := ?_) rfl (by kernel_rfl) (by kernel_rfl) (by kernel_rfl) (fun _ _ _ h => h) (by rfl) (by intro W hSw; go_simp; with_reducible rfl) ?_; try simp only [Act.put, List.setIfInBounds_toArray, List.set_cons_zero, List.set_cons_succ]
              refine wpAnyK_take 8 (v := ?_) rfl (by kernel_rfl) (by kernel_rfl) (by kernel_rfl) (fun _ _ _ h => h) (by rfl) (by intro W hSw; go_simp; with_reducible rfl) ?_; try simp only [Act.put, List.setIfInBounds_toArray, List.set_cons_zero, List.set_cons_succ]
              refine wpAnyK_take 9 (v := ?_) rfl (by kernel_rfl) (by kernel_rfl) (by kernel_rfl) (fun _ _ _ h => h) (by rfl) (by intro W hSw; go_simp; with_reducible rfl) ?_; try simp only [Act.put, List.setIfInBounds_toArray, List.set_cons_zero, List.set_cons_succ]
              refine wpAnyK_take 10 (v := ?_) rfl (by kernel_rfl) (by kernel_rfl) (by kernel_rfl) (fun _ _ _ h => h) (by rfl) (by intro W hSw; go_simp; with_reducible rfl) ?_; try simp only [Act.put, List.setIfInBounds_toArray, List.set_cons_zero, List.set_cons_succ]
              refine wpAnyK_take 12 (v := ?_) rfl (by kernel_rfl) (by kernel_rfl) (by kernel_rfl) (fun _ _ _ h => h) (by rfl) (by intro W hSw; go_simp; with_reducible rfl) ?_; try simp only [Act.put, List.setIfInBounds_toArray, List.set_cons_zero, List.set_cons_succ]
              refine wpAnyK_take 13 (v := ?_) rfl (by kernel_rfl) (by kernel_rfl) (by kernel_rfl) (fun _ _ _ h => h) (by rfl) (by intro W hSw; go_simp; with_reducible rfl) ?_; try simp only [Act.put, List.setIfInBounds_toArray, List.set_cons_zero, List.set_cons_succ]
              refine wpAnyK_take 14 (v := ?_) rfl (by kernel_rfl) (by kernel_rfl) (by kernel_rfl) (fun _ _ _ h => h) (by rfl) (by intro W hSw; go_simp; with_reducible rfl) ?_; try simp only [Act.put, List.setIfInBounds_toArray, List.set_cons_zero, List.set_cons_succ]
              refine wpAnyK_take 15 (v := ?_) rfl (by kernel_rfl) (by kernel_rfl) (by kernel_rfl) (fun _ _ _ h => h) (by rfl) (by intro W hSw; go_simp; with_reducible rfl) ?_; try simp only [Act.put, List.setIfInBounds_toArray, List.set_cons_zero, List.set_cons_succ]
              refine wpAnyK_one 11 (by kernel_rfl) rfl (fun K hK => ?_)
              go_simp
              refine (hnow.out _ hb20).mono ?_; rintro e w21 ⟨rfl, rfl⟩; have hlr := Later.refl w20
              refine hK.out _ _ (by assumption) ?_
              clear hK K; try simp only [Act.put, List.setIfInBounds_toArray, List.set_cons_zero, List.set_cons_succ]
              refine wpAnyK_take 16 (v := ?_) rfl (by kernel_rfl) (by kernel_rfl) (by kernel_rfl) (fun _ _ _ h => h) (by rfl) (by intro W hSw; go_simp; with_reducible rfl) ?_; try simp only [Act.put, List.setIfInBounds_toArray, List.set_cons_zero, List.set_cons_succ]
              refine wpAnyK_take 17 (v := ?_) rfl (by kernel_rfl) (by kernel_rfl) (by kernel_rfl) (fun _ _ _ h => h) (by rfl) (by intro W hSw; go_simp; with_reducible rfl) ?_; try simp only [Act.put, List.setIfInBounds_toArray, List.set_cons_zero, List.set_cons_succ]
              refine wpAnyK_done (by kernel_rfl) ?_ _
              have hlz := (below_drewN (Later.refl wz) 1).trans hb20
              have HT8 := hide_ (show TwoC w.heap.size w20 (w.heap.size + 1) w2.heap.size (k + 1) from ⟨_, _, nz, HCKz.out.later hlz, HRKz.out.later hlz, by omega, HCBz.out.later HCKz.out.lt hlz, HCUz.out.grown HCKz.out.lt (grown_later hlz _)⟩)
              have HB8 := hide_ (HBz.out.trans hlz)
              clear kz kz2 hin hnow hb20 hlz
              go_wp2_with fail
              go_roundw
              case rel => exact ⟨k + 1, by omega, by omega, by go_num, HT8, HB8⟩
              case measure => simp [intOf]; omega
            · have HXc := hide_ (later_row hb4 HXR.out)
              have HRK4 := hide_ (HRK.out.later hb4); have HCK4 := hide_ (HCK.out.later hb4); have HB4 := hide_ (HL.out.trans hb4); have HCB4 := hide_ (HCB.out.later HCK.out.lt hb4); have HCU4 := hide_ (HCU.out.grown HCK.out.lt (grown_later hb4 _))
              have d0 := cell_of_row _ _ 0 _ _ (0, 0) HXc.out
              have d1 := cell_of_row _ _ 1 _ _ (0, 0) HXc.out
              have d2 := cell_of_row _ _ 2 _ _ (0, 0) HXc.out
              have HST := hide_ (rpass_any v HRK4.out hlen ht0 ht1 hv1)
              clear l0 l1 l2 hb4
              go_wp2_with fail
              refine HST.out.mono ?_; rintro e wz h
              rcases h with ⟨g0, _⟩ | ⟨_, _, rfl, hbz⟩ | ⟨_, g1, _⟩
              · exfalso; omega
              rotate_left
              · exfalso; omega
              have HCKz := hide_ (HCK4.out.later hbz); have HRKz := hide_ (HRK4.out.later hbz); have HBz := hide_ (HB4.out.trans hbz); have HCBz := hide_ (HCB4.out.later HCK4.out.lt hbz); have HCUz := hide_ (HCU4.out.grown HCK4.out.lt (grown_later hbz _))
              obtain ⟨nz, hnz⟩ : ∃ nz, nz = nn := ⟨_, rfl⟩
              rw [← hnz] at HCKz
              clear hbz
              have HXz := hide_ (Rd.nil wz.drew 1 none)
              have HYz := hide_ (Rd.nil wz.drew 1 none)
              have HVz := hide_ (show ([] : List Int).length = 0 from rfl)
              have hmz : 0 ≤ 1048576 := by omega
              have HRZ := hide_ HRKz.out
              obtain ⟨Az, mz, cz, hraz, _⟩ := HRZ.out
              have kz := later_drew_cell (cell_of_row _ _ 0 _ _ (0, 0) hraz)
              have hin := hide_ (ints_same (w := wz.drew) (c := 0) (c' := 0) HXz.out HYz.out HVz.out hmz)
              have hnow := hide_ (fun (Wx : World) (hx : Later wz.drew Wx) => cnow_any (HCKz.out.later ((below_drewN (Later.refl wz) 1).trans hx)))
              clear hraz d0 d1 d2
              go_wp2_with fail
              refine wp_region_k (by kernel_rfl) ?_
              refine wpAnyK_take 0 (v := ?_) rfl (by kernel_rfl) (by kernel_rfl) (by kernel_rfl) (fun _ _ _ h => h) (by rfl) (by intro W hSw; go_simp; with_reducible rfl) ?_; try simp only [Act.put, List.setIfInBounds_toArray, List.set_cons_zero, List.set_cons_succ]
              refine wpAnyK_take 1 (v := ?_) rfl (by kernel_rfl) (by kernel_rfl) (by kernel_rfl) (fun _ _ _ h => h) (by rfl) (by intro W hSw; go_simp; with_reducible rfl) ?_; try simp only [Act.put, List.setIfInBounds_toArray, List.set_cons_zero, List.set_cons_succ]
              refine wpAnyK_take 2 (v := ?_) rfl (by kernel_rfl) (by kernel_rfl) (by kernel_rfl) (fun _ _ _ h => h) (by rfl) (by intro W hSw; go_simp; with_reducible rfl) ?_; try simp only [Act.put, List.setIfInBounds_toArray, List.set_cons_zero, List.set_cons_succ]
              refine wpAnyK_take 3 (v := ?_) rfl (by kernel_rfl) (by kernel_rfl) (by kernel_rfl) (fun _ _ _ h => h) (by rfl) (by intro W hSw; go_simp; with_reducible rfl) ?_; try simp only [Act.put, List.setIfInBounds_toArray, List.set_cons_zero, List.set_cons_succ]
              refine wpAnyK_take 4 (v := ?_) rfl (by kernel_rfl) (by kernel_rfl) (by kernel_rfl) (fun _ _ _ h => h) (by rfl) (by intro W hSw; go_simp; with_reducible rfl) ?_; try simp only [Act.put, List.setIfInBounds_toArray, List.set_cons_zero, List.set_cons_succ]
              refine wpAnyK_take 5 (v := ?_) rfl (by kernel_rfl) (by kernel_rfl) (by kernel_rfl) (fun _ _ _ h => h) (by rfl) (by intro W hSw; go_simp; with_reducible rfl) ?_; try simp only [Act.put, List.setIfInBounds_toArray, List.set_cons_zero, List.set_cons_succ]
              refine wpAnyK_one 6 (by kernel_rfl) rfl (fun K hK => ?_)
              go_simp
              refine hin.out.mono ?_; rintro e w20 ⟨rfl, hb20⟩; have kz2 := later_cell (kz _ hb20)
              refine hK.out _ _ (by assumption) ?_
              clear hK K; try simp only [Act.put, List.setIfInBounds_toArray, List.set_cons_zero, List.set_cons_succ]
              refine wpAnyK_take 7 (v := ?_) rfl (by kernel_rfl) (by kernel_rfl) (by kernel_rfl) (fun _ _ _ h => h) (by rfl) (by intro W hSw; go_simp; with_reducible rfl) ?_; try simp only [Act.put, List.setIfInBounds_toArray, List.set_cons_zero, List.set_cons_succ]
              refine wpAnyK_take 8 (v := ?_) rfl (by kernel_rfl) (by kernel_rfl) (by kernel_rfl) (fun _ _ _ h => h) (by rfl) (by intro W hSw; go_simp; with_reducible rfl) ?_; try simp only [Act.put, List.setIfInBounds_toArray, List.set_cons_zero, List.set_cons_succ]
              refine wpAnyK_take 9 (v := ?_) rfl (by kernel_rfl) (by kernel_rfl) (by kernel_rfl) (fun _ _ _ h => h) (by rfl) (by intro W hSw; go_simp; with_reducible rfl) ?_; try simp only [Act.put, List.setIfInBounds_toArray, List.set_cons_zero, List.set_cons_succ]
              refine wpAnyK_take 10 (v := ?_) rfl (by kernel_rfl) (by kernel_rfl) (by kernel_rfl) (fun _ _ _ h => h) (by rfl) (by intro W hSw; go_simp; with_reducible rfl) ?_; try simp only [Act.put, List.setIfInBounds_toArray, List.set_cons_zero, List.set_cons_succ]
              refine wpAnyK_take 12 (v := ?_) rfl (by kernel_rfl) (by kernel_rfl) (by kernel_rfl) (fun _ _ _ h => h) (by rfl) (by intro W hSw; go_simp; with_reducible rfl) ?_; try simp only [Act.put, List.setIfInBounds_toArray, List.set_cons_zero, List.set_cons_succ]
              refine wpAnyK_take 13 (v := ?_) rfl (by kernel_rfl) (by kernel_rfl) (by kernel_rfl) (fun _ _ _ h => h) (by rfl) (by intro W hSw; go_simp; with_reducible rfl) ?_; try simp only [Act.put, List.setIfInBounds_toArray, List.set_cons_zero, List.set_cons_succ]
              refine wpAnyK_take 14 (v := ?_) rfl (by kernel_rfl) (by kernel_rfl) (by kernel_rfl) (fun _ _ _ h => h) (by rfl) (by intro W hSw; go_simp; with_reducible rfl) ?_; try simp only [Act.put, List.setIfInBounds_toArray, List.set_cons_zero, List.set_cons_succ]
              refine wpAnyK_take 15 (v := ?_) rfl (by kernel_rfl) (by kernel_rfl) (by kernel_rfl) (fun _ _ _ h => h) (by rfl) (by intro W hSw; go_simp; with_reducible rfl) ?_; try simp only [Act.put, List.setIfInBounds_toArray, List.set_cons_zero, List.set_cons_succ]
              refine wpAnyK_one 11 (by kernel_rfl) rfl (fun K hK => ?_)
              go_simp
              refine (hnow.out _ hb20).mono ?_; rintro e w21 ⟨rfl, rfl⟩; have hlr := Later.refl w20
              refine hK.out _ _ (by assumption) ?_
              clear hK K; try simp only [Act.put, List.setIfInBounds_toArray, List.set_cons_zero, List.set_cons_succ]
              refine wpAnyK_take 16 (v := ?_) rfl (by kernel_rfl) (by kernel_rfl) (by kernel_rfl) (fun _ _ _ h => h) (by rfl) (by intro W hSw; go_simp; with_reducible rfl) ?_; try simp only [Act.put, List.setIfInBounds_toArray, List.set_cons_zero, List.set_cons_succ]
              refine wpAnyK_take 17 (v := ?_) rfl (by kernel_rfl) (by kernel_rfl) (by kernel_rfl) (fun _ _ _ h => h) (by rfl) (by intro W hSw; go_simp; with_reducible rfl) ?_; try simp only [Act.put, List.setIfInBounds_toArray, List.set_cons_zero, List.set_cons_succ]
              refine wpAnyK_done (by kernel_rfl) ?_ _
              have hlz := (below_drewN (Later.refl wz) 1).trans hb20
              have HT8 := hide_ (show TwoC w.heap.size w20 (w.heap.size + 1) w2.heap.size (k + 1) from ⟨_, _, nz, HCKz.out.later hlz, HRKz.out.later hlz, by omega, HCBz.out.later HCKz.out.lt hlz, HCUz.out.grown HCKz.out.lt (grown_later hlz _)⟩)
              have HB8 := hide_ (HBz.out.trans hlz)
              clear kz kz2 hin hnow hb20 hlz
              go_wp2_with fail
              go_roundw
              case rel => exact ⟨k + 1, by omega, by omega, by go_num, HT8, HB8⟩
              case measure => simp [intOf]; omega
            · have HXc := hide_ (HACT.out w4 ht4)
              have HRK4 := hide_ (HRK.out.turn ht4 HCU.out); have HCK4 := hide_ hck4; have HB4 := hide_ (HCUT.out w4 ht4); have HCB4 := hide_ (HCB.out.turn ht4); have HCU4 := hide_ (HCU.out.turn ht4)
              have HO4 := hide_ (own_base ho4 (show w2.heap.size + 1 ≤ W0.heap.size by have := HRK.out.lt; omega)); have HM4 := hide_ hm4
              have d0 := cell_of_row _ _ 0 _ _ (0, 0) HXc.out
              have d1 := cell_of_row _ _ 1 _ _ (0, 0) HXc.out
              have d2 := cell_of_row _ _ 2 _ _ (0, 0) HXc.out
              have HST := hide_ (rpass_any v HRK4.out hlen ht0 ht1 hv1)
              clear l0 l1 l2 ht4 hck4 ho4 hm4
              go_wp2_with fail
              refine HST.out.mono ?_; rintro e wz h
              rcases h with ⟨g0, _⟩ | ⟨_, g1, _⟩ | ⟨_, _, A5, m5, c5, rfl, hm5, ho5, hrkz, hgz⟩
              · exfalso; omega
              · exfalso; omega
              obtain rfl : m5 = m4 := by rw [← hm5]; exact HM4.out
              have HCKz := hide_ (HCK4.out.grown HCU4.out hgz); have HRKz := hide_ hrkz; have HBz := hide_ (grown_laterR HB4.out hgz (by omega)); have HCBz := hide_ (HCB4.out.grown HCU4.out HCK4.out.lt hgz); have HCUz := hide_ (HCU4.out.grown HCK4.out.lt hgz)
              obtain ⟨nz, hnz⟩ : ∃ nz, nz = nn := ⟨_, rfl⟩
              rw [← hnz] at HCKz
              have hx0 := own_keep HO4.out hgz (by omega)
              have HXz := hide_ (Rd.of_own hx0).drew
              have HYz := hide_ (Rd.of_own ho5).drew
              clear hx0
              have HVz := hide_ (show ((dueB (t + v) L).map (·.1)).length = m5 by rw [List.length_map]; exact hm5)
              have hmz : m5 ≤ 1048576 := by rw [← hm5]; exact Nat.le_trans (List.takeWhile_sublist _).length_le (by omega)
              clear hrkz hgz ho5 hm5
              have HRZ := hide_ HRKz.out
              obtain ⟨Az, mz, cz, hraz, _⟩ := HRZ.out
              have kz := later_drew_cell (cell_of_row _ _ 0 _ _ (0, 0) hraz)
              have hin := hide_ (ints_same (w := wz.drew) (c := c4) (c' := c5) HXz.out HYz.out HVz.out hmz)
              have hnow := hide_ (fun (Wx : World) (hx : Later wz.drew Wx) => cnow_any (HCKz.out.later ((below_drewN (Later.refl wz) 1).trans hx)))
              clear hraz d0 d1 d2
              go_wp2_with fail
              refine wp_region_k (by kernel_rfl) ?_
              refine wpAnyK_take 0 (v := ?_) rfl (by kernel_rfl) (by kernel_rfl) (by kernel_rfl) (fun _ _ _ h => h) (by rfl) (by intro W hSw; go_simp; with_reducible rfl) ?_; try simp only [Act.put, List.setIfInBounds_toArray, List.set_cons_zero, List.set_cons_succ]
              refine wpAnyK_take 1 (v := ?_) rfl (by kernel_rfl) (by kernel_rfl) (by kernel_rfl) (fun _ _ _ h => h) (by rfl) (by intro W hSw; go_simp; with_reducible rfl) ?_; try simp only [Act.put, List.setIfInBounds_toArray, List.set_cons_zero, List.set_cons_succ]
              refine wpAnyK_take 2 (v := ?_) rfl (by kernel_rfl) (by kernel_rfl) (by kernel_rfl) (fun _ _ _ h => h) (by rfl) (by intro W hSw; go_simp; with_reducible rfl) ?_; try simp only [Act.put, List.setIfInBounds_toArray, List.set_cons_zero, List.set_cons_succ]
              refine wpAnyK_take 3 (v := ?_) rfl (by kernel_rfl) (by kernel_rfl) (by kernel_rfl) (fun _ _ _ h => h) (by rfl) (by intro W hSw; go_simp; with_reducible rfl) ?_; try simp only [Act.put, List.setIfInBounds_toArray, List.set_cons_zero, List.set_cons_succ]
              refine wpAnyK_take 4 (v := ?_) rfl (by kernel_rfl) (by kernel_rfl) (by kernel_rfl) (fun _ _ _ h => h) (by rfl) (by intro W hSw; go_simp; with_reducible rfl) ?_; try simp only [Act.put, List.setIfInBounds_toArray, List.set_cons_zero, List.set_cons_succ]
              refine wpAnyK_take 5 (v := ?_) rfl (by kernel_rfl) (by kernel_rfl) (by kernel_rfl) (fun _ _ _ h => h) (by rfl) (by intro W hSw; go_simp; with_reducible rfl) ?_; try simp only [Act.put, List.setIfInBounds_toArray, List.set_cons_zero, List.set_cons_succ]
              refine wpAnyK_one 6 (by kernel_rfl) rfl (fun K hK => ?_)
              go_simp
              refine hin.out.mono ?_; rintro e w20 ⟨rfl, hb20⟩; have kz2 := later_cell (kz _ hb20)
              refine hK.out _ _ (by assumption) ?_
              clear hK K; try simp only [Act.put, List.setIfInBounds_toArray, List.set_cons_zero, List.set_cons_succ]
              refine wpAnyK_take 7 (v := ?_) rfl (by kernel_rfl) (by kernel_rfl) (by kernel_rfl) (fun _ _ _ h => h) (by rfl) (by intro W hSw; go_simp; with_reducible rfl) ?_; try simp only [Act.put, List.setIfInBounds_toArray, List.set_cons_zero, List.set_cons_succ]
              refine wpAnyK_take 8 (v := ?_) rfl (by kernel_rfl) (by kernel_rfl) (by kernel_rfl) (fun _ _ _ h => h) (by rfl) (by intro W hSw; go_simp; with_reducible rfl) ?_; try simp only [Act.put, List.setIfInBounds_toArray, List.set_cons_zero, List.set_cons_succ]
              refine wpAnyK_take 9 (v := ?_) rfl (by kernel_rfl) (by kernel_rfl) (by kernel_rfl) (fun _ _ _ h => h) (by rfl) (by intro W hSw; go_simp; with_reducible rfl) ?_; try simp only [Act.put, List.setIfInBounds_toArray, List.set_cons_zero, List.set_cons_succ]
              refine wpAnyK_take 10 (v := ?_) rfl (by kernel_rfl) (by kernel_rfl) (by kernel_rfl) (fun _ _ _ h => h) (by rfl) (by intro W hSw; go_simp; with_reducible rfl) ?_; try simp only [Act.put, List.setIfInBounds_toArray, List.set_cons_zero, List.set_cons_succ]
              refine wpAnyK_take 12 (v := ?_) rfl (by kernel_rfl) (by kernel_rfl) (by kernel_rfl) (fun _ _ _ h => h) (by rfl) (by intro W hSw; go_simp; with_reducible rfl) ?_; try simp only [Act.put, List.setIfInBounds_toArray, List.set_cons_zero, List.set_cons_succ]
              refine wpAnyK_take 13 (v := ?_) rfl (by kernel_rfl) (by kernel_rfl) (by kernel_rfl) (fun _ _ _ h => h) (by rfl) (by intro W hSw; go_simp; with_reducible rfl) ?_; try simp only [Act.put, List.setIfInBounds_toArray, List.set_cons_zero, List.set_cons_succ]
              refine wpAnyK_take 14 (v := ?_) rfl (by kernel_rfl) (by kernel_rfl) (by kernel_rfl) (fun _ _ _ h => h) (by rfl) (by intro W hSw; go_simp; with_reducible rfl) ?_; try simp only [Act.put, List.setIfInBounds_toArray, List.set_cons_zero, List.set_cons_succ]
              refine wpAnyK_take 15 (v := ?_) rfl (by kernel_rfl) (by kernel_rfl) (by kernel_rfl) (fun _ _ _ h => h) (by rfl) (by intro W hSw; go_simp; with_reducible rfl) ?_; try simp only [Act.put, List.setIfInBounds_toArray, List.set_cons_zero, List.set_cons_succ]
              refine wpAnyK_one 11 (by kernel_rfl) rfl (fun K hK => ?_)
              go_simp
              refine (hnow.out _ hb20).mono ?_; rintro e w21 ⟨rfl, rfl⟩; have hlr := Later.refl w20
              refine hK.out _ _ (by assumption) ?_
              clear hK K; try simp only [Act.put, List.setIfInBounds_toArray, List.set_cons_zero, List.set_cons_succ]
              refine wpAnyK_take 16 (v := ?_) rfl (by kernel_rfl) (by kernel_rfl) (by kernel_rfl) (fun _ _ _ h => h) (by rfl) (by intro W hSw; go_simp; with_reducible rfl) ?_; try simp only [Act.put, List.setIfInBounds_toArray, List.set_cons_zero, List.set_cons_succ]
              refine wpAnyK_take 17 (v := ?_) rfl (by kernel_rfl) (by kernel_rfl) (by kernel_rfl) (fun _ _ _ h => h) (by rfl) (by intro W hSw; go_simp; with_reducible rfl) ?_; try simp only [Act.put, List.setIfInBounds_toArray, List.set_cons_zero, List.set_cons_succ]
              refine wpAnyK_done (by kernel_rfl) ?_ _
              have hlz := (below_drewN (Later.refl wz) 1).trans hb20
              have HT8 := hide_ (show TwoC w.heap.size w20 (w.heap.size + 1) w2.heap.size (k + 1) from ⟨_, _, nz, HCKz.out.later hlz, HRKz.out.later hlz, by omega, HCBz.out.later HCKz.out.lt hlz, HCUz.out.grown HCKz.out.lt (grown_later hlz _)⟩)
              have HB8 := hide_ (HBz.out.trans hlz)
              clear kz kz2 hin hnow hb20 hlz
              go_wp2_with fail
              go_roundw
              case rel => exact ⟨k + 1, by omega, by omega, by go_num, HT8, HB8⟩
              case measure => simp [intOf]; omega
        · rcases x0 with rfl | rfl
          all_goals
            go_wp2_with (rw [HW.out])
            refine (ckset_any bl v HCK.out (by omega)).mono ?_; rintro e w4 h
            rcases h with ⟨hb0, rfl, rfl⟩ | ⟨hb0, hb1, hb2, rfl, rfl⟩ | ⟨hb0, hb1, hb2, hb3, rfl, rfl⟩ | ⟨hb0, hb1, hb2, hb3, rfl, hck4, ht4⟩
            · have HXc := HXR
              have d0 := cell_of_row _ _ 0 _ _ (0, 0) HXc.out
              have d1 := cell_of_row _ _ 1 _ _ (0, 0) HXc.out
              have d2 := cell_of_row _ _ 2 _ _ (0, 0) HXc.out
              have HST := hide_ (rset_any bl v HRK.out hlen)
              clear l0 l1 l2
              go_wp2_with fail
              refine HST.out.mono ?_; rintro e wz h
              rcases h with ⟨g0, rfl, hbz⟩ | ⟨g0, g1, g2, _⟩ | ⟨g0, g1, g2, g3, _⟩ | ⟨g0, g1, g2, g3, _⟩
              rotate_left
              · exfalso; omega
              · exfalso; omega
              · exfalso; omega
              have HCKz := hide_ (HCK.out.later hbz); have HRKz := hide_ (HRK.out.later hbz); have HBz := hide_ (HL.out.trans hbz); have HCBz := hide_ (HCB.out.later HCK.out.lt hbz); have HCUz := hide_ (HCU.out.grown HCK.out.lt (grown_later hbz _))
              obtain ⟨nz, hnz⟩ : ∃ nz, nz = nn := ⟨_, rfl⟩
              rw [← hnz] at HCKz
              clear hbz
              have HXz := hide_ (Rd.nil wz.drew 1 none)
              have HYz := hide_ (Rd.nil wz.drew 1 none)
              have HVz := hide_ (show ([] : List Int).length = 0 from rfl)
              have hmz : 0 ≤ 1048576 := by omega
              have HRZ := hide_ HRKz.out
              obtain ⟨Az, mz, cz, hraz, _⟩ := HRZ.out
              have kz := later_drew_cell (cell_of_row _ _ 0 _ _ (0, 0) hraz)
              have hin := hide_ (ints_same (w := wz.drew) (c := 0) (c' := 0) HXz.out HYz.out HVz.out hmz)
              have hnow := hide_ (fun (Wx : World) (hx : Later wz.drew Wx) => cnow_any (HCKz.out.later ((below_drewN (Later.refl wz) 1).trans hx)))
              clear hraz d0 d1 d2
              go_wp2_with fail
              refine wp_region_k (by kernel_rfl) ?_
              refine wpAnyK_take 0 (v := ?_) rfl (by kernel_rfl) (by kernel_rfl) (by kernel_rfl) (fun _ _ _ h => h) (by rfl) (by intro W hSw; go_simp; with_reducible rfl) ?_; try simp only [Act.put, List.setIfInBounds_toArray, List.set_cons_zero, List.set_cons_succ]
              refine wpAnyK_take 1 (v := ?_) rfl (by kernel_rfl) (by kernel_rfl) (by kernel_rfl) (fun _ _ _ h => h) (by rfl) (by intro W hSw; go_simp; with_reducible rfl) ?_; try simp only [Act.put, List.setIfInBounds_toArray, List.set_cons_zero, List.set_cons_succ]
              refine wpAnyK_take 2 (v := ?_) rfl (by kernel_rfl) (by kernel_rfl) (by kernel_rfl) (fun _ _ _ h => h) (by rfl) (by intro W hSw; go_simp; with_reducible rfl) ?_; try simp only [Act.put, List.setIfInBounds_toArray, List.set_cons_zero, List.set_cons_succ]
              refine wpAnyK_take 3 (v := ?_) rfl (by kernel_rfl) (by kernel_rfl) (by kernel_rfl) (fun _ _ _ h => h) (by rfl) (by intro W hSw; go_simp; with_reducible rfl) ?_; try simp only [Act.put, List.setIfInBounds_toArray, List.set_cons_zero, List.set_cons_succ]
              refine wpAnyK_take 4 (v := ?_) rfl (by kernel_rfl) (by kernel_rfl) (by kernel_rfl) (fun _ _ _ h => h) (by rfl) (by intro W hSw; go_simp; with_reducible rfl) ?_; try simp only [Act.put, List.setIfInBounds_toArray, List.set_cons_zero, List.set_cons_succ]
              refine wpAnyK_take 5 (v := ?_) rfl (by kernel_rfl) (by kernel_rfl) (by kernel_rfl) (fun _ _ _ h => h) (by rfl) (by intro W hSw; go_simp; with_reducible rfl) ?_; try simp only [Act.put, List.setIfInBounds_toArray, List.set_cons_zero, List.set_cons_succ]
              refine wpAnyK_one 6 (by kernel_rfl) rfl (fun K hK => ?_)
              go_simp
              refine hin.out.mono ?_; rintro e w20 ⟨rfl, hb20⟩; have kz2 := later_cell (kz _ hb20)
              refine hK.out _ _ (by assumption) ?_
              clear hK K; try simp only [Act.put, List.setIfInBounds_toArray, List.set_cons_zero, List.set_cons_succ]
              refine wpAnyK_take 7 (v := ?_) rfl (by kernel_rfl) (by kernel_rfl) (by kernel_rfl) (fun _ _ _ h => h) (by rfl) (by intro W hSw; go_simp; with_reducible rfl) ?_; try simp only [Act.put, List.setIfInBounds_toArray, List.set_cons_zero, List.set_cons_succ]
              refine wpAnyK_take 8 (v := ?_) rfl (by kernel_rfl) (by kernel_rfl) (by kernel_rfl) (fun _ _ _ h => h) (by rfl) (by intro W hSw; go_simp; with_reducible rfl) ?_; try simp only [Act.put, List.setIfInBounds_toArray, List.set_cons_zero, List.set_cons_succ]
              refine wpAnyK_take 9 (v := ?_) rfl (by kernel_rfl) (by kernel_rfl) (by kernel_rfl) (fun _ _ _ h => h) (by rfl) (by intro W hSw; go_simp; with_reducible rfl) ?_; try simp only [Act.put, List.setIfInBounds_toArray, List.set_cons_zero, List.set_cons_succ]
              refine wpAnyK_take 10 (v := ?_) rfl (by kernel_rfl) (by kernel_rfl) (by kernel_rfl) (fun _ _ _ h => h) (by rfl) (by intro W hSw; go_simp; with_reducible rfl) ?_; try simp only [Act.put, List.setIfInBounds_toArray, List.set_cons_zero, List.set_cons_succ]
              refine wpAnyK_take 12 (v := ?_) rfl (by kernel_rfl) (by kernel_rfl) (by kernel_rfl) (fun _ _ _ h => h) (by rfl) (by intro W hSw; go_simp; with_reducible rfl) ?_; try simp only [Act.put, List.setIfInBounds_toArray, List.set_cons_zero, List.set_cons_succ]
              refine wpAnyK_take 13 (v := ?_) rfl (by kernel_rfl) (by kernel_rfl) (by kernel_rfl) (fun _ _ _ h => h) (by rfl) (by intro W hSw; go_simp; with_reducible rfl) ?_; try simp only [Act.put, List.setIfInBounds_toArray, List.set_cons_zero, List.set_cons_succ]
              refine wpAnyK_take 14 (v := ?_) rfl (by kernel_rfl) (by kernel_rfl) (by kernel_rfl) (fun _ _ _ h => h) (by rfl) (by intro W hSw; go_simp; with_reducible rfl) ?_; try simp only [Act.put, List.setIfInBounds_toArray, List.set_cons_zero, List.set_cons_succ]
              refine wpAnyK_take 15 (v := ?_) rfl (by kernel_rfl) (by kernel_rfl) (by kernel_rfl) (fun _ _ _ h => h) (by rfl) (by intro W hSw; go_simp; with_reducible rfl) ?_; try simp only [Act.put, List.setIfInBounds_toArray, List.set_cons_zero, List.set_cons_succ]
              refine wpAnyK_one 11 (by kernel_rfl) rfl (fun K hK => ?_)
              go_simp
              refine (hnow.out _ hb20).mono ?_; rintro e w21 ⟨rfl, rfl⟩; have hlr := Later.refl w20
              refine hK.out _ _ (by assumption) ?_
              clear hK K; try simp only [Act.put, List.setIfInBounds_toArray, List.set_cons_zero, List.set_cons_succ]
              refine wpAnyK_take 16 (v := ?_) rfl (by kernel_rfl) (by kernel_rfl) (by kernel_rfl) (fun _ _ _ h => h) (by rfl) (by intro W hSw; go_simp; with_reducible rfl) ?_; try simp only [Act.put, List.setIfInBounds_toArray, List.set_cons_zero, List.set_cons_succ]
              refine wpAnyK_take 17 (v := ?_) rfl (by kernel_rfl) (by kernel_rfl) (by kernel_rfl) (fun _ _ _ h => h) (by rfl) (by intro W hSw; go_simp; with_reducible rfl) ?_; try simp only [Act.put, List.setIfInBounds_toArray, List.set_cons_zero, List.set_cons_succ]
              refine wpAnyK_done (by kernel_rfl) ?_ _
              have hlz := (below_drewN (Later.refl wz) 1).trans hb20
              have HT8 := hide_ (show TwoC w.heap.size w20 (w.heap.size + 1) w2.heap.size (k + 1) from ⟨_, _, nz, HCKz.out.later hlz, HRKz.out.later hlz, by omega, HCBz.out.later HCKz.out.lt hlz, HCUz.out.grown HCKz.out.lt (grown_later hlz _)⟩)
              have HB8 := hide_ (HBz.out.trans hlz)
              clear kz kz2 hin hnow hb20 hlz
              go_wp2_with fail
              go_roundw
              case rel => exact ⟨k + 1, by omega, by omega, by go_num, HT8, HB8⟩
              case measure => simp [intOf]; omega
            · have HXc := HXR
              have d0 := cell_of_row _ _ 0 _ _ (0, 0) HXc.out
              have d1 := cell_of_row _ _ 1 _ _ (0, 0) HXc.out
              have d2 := cell_of_row _ _ 2 _ _ (0, 0) HXc.out
              have HST := hide_ (rset_any bl v HRK.out hlen)
              clear l0 l1 l2
              go_wp2_with fail
              refine HST.out.mono ?_; rintro e wz h
              rcases h with ⟨g0, _⟩ | ⟨g0, g1, g2, rfl, hbz⟩ | ⟨g0, g1, g2, g3, _⟩ | ⟨g0, g1, g2, g3, _⟩
              · exfalso; omega
              rotate_left
              · exfalso; omega
              · exfalso; omega
              have HCKz := hide_ (HCK.out.later hbz); have HRKz := hide_ (HRK.out.later hbz); have HBz := hide_ (HL.out.trans hbz); have HCBz := hide_ (HCB.out.later HCK.out.lt hbz); have HCUz := hide_ (HCU.out.grown HCK.out.lt (grown_later hbz _))
              obtain ⟨nz, hnz⟩ : ∃ nz, nz = nn := ⟨_, rfl⟩
              rw [← hnz] at HCKz
              clear hbz
              have HXz := hide_ (Rd.nil wz.drew 1 none)
              have HYz := hide_ (Rd.nil wz.drew 1 none)
              have HVz := hide_ (show ([] : List Int).length = 0 from rfl)
              have hmz : 0 ≤ 1048576 := by omega
              have HRZ := hide_ HRKz.out
              obtain ⟨Az, mz, cz, hraz, _⟩ := HRZ.out
              have kz := later_drew_cell (cell_of_row _ _ 0 _ _ (0, 0) hraz)
              have hin := hide_ (ints_same (w := wz.drew) (c := 0) (c' := 0) HXz.out HYz.out HVz.out hmz)
              have hnow := hide_ (fun (Wx : World) (hx : Later wz.drew Wx) => cnow_any (HCKz.out.later ((below_drewN (Later.refl wz) 1).trans hx)))
              clear hraz d0 d1 d2
              go_wp2_with fail
              refine wp_region_k (by kernel_rfl) ?_
              refine wpAnyK_take 0 (v := ?_) rfl (by kernel_rfl) (by kernel_rfl) (by kernel_rfl) (fun _ _ _ h => h) (by rfl) (by intro W hSw; go_simp; with_reducible rfl) ?_; try simp only [Act.put, List.setIfInBounds_toArray, List.set_cons_zero, List.set_cons_succ]
              refine wpAnyK_take 1 (v := ?_) rfl (by kernel_rfl) (by kernel_rfl) (by kernel_rfl) (fun _ _ _ h => h) (by rfl) (by intro W hSw; go_simp; with_reducible rfl) ?_; try simp only [Act.put, List.setIfInBounds_toArray, List.set_cons_zero, List.set_cons_succ]
              refine wpAnyK_take 2 (v := ?_) rfl (by kernel_rfl) (by kernel_rfl) (by kernel_rfl) (fun _ _ _ h => h) (by rfl) (by intro W hSw; go_simp; with_reducible rfl) ?_; try simp only [Act.put, List.setIfInBounds_toArray, List.set_cons_zero, List.set_cons_succ]
              refine wpAnyK_take 3 (v := ?_) rfl (by kernel_rfl) (by kernel_rfl) (by kernel_rfl) (fun _ _ _ h => h) (by rfl) (by intro W hSw; go_simp; with_reducible rfl) ?_; try simp only [Act.put, List.setIfInBounds_toArray, List.set_cons_zero, List.set_cons_succ]
              refine wpAnyK_take 4 (v := ?_) rfl (by kernel_rfl) (by kernel_rfl) (by kernel_rfl) (fun _ _ _ h => h) (by rfl) (by intro W hSw; go_simp; with_reducible rfl) ?_; try simp only [Act.put, List.setIfInBounds_toArray, List.set_cons_zero, List.set_cons_succ]
              refine wpAnyK_take 5 (v := ?_) rfl (by kernel_rfl) (by kernel_rfl) (by kernel_rfl) (fun _ _ _ h => h) (by rfl) (by intro W hSw; go_simp; with_reducible rfl) ?_; try simp only [Act.put, List.setIfInBounds_toArray, List.set_cons_zero, List.set_cons_succ]
              refine wpAnyK_one 6 (by kernel_rfl) rfl (fun K hK => ?_)
              go_simp
              refine hin.out.mono ?_; rintro e w20 ⟨rfl, hb20⟩; have kz2 := later_cell (kz _ hb20)
              refine hK.out _ _ (by assumption) ?_
              clear hK K; try simp only [Act.put, List.setIfInBounds_toArray, List.set_cons_zero, List.set_cons_succ]
              refine wpAnyK_take 7 (v := ?_) rfl (by kernel_rfl) (by kernel_rfl) (by kernel_rfl) (fun _ _ _ h => h) (by rfl) (by intro W hSw; go_simp; with_reducible rfl) ?_; try simp only [Act.put, List.setIfInBounds_toArray, List.set_cons_zero, List.set_cons_succ]
              refine wpAnyK_take 8 (v := ?_) rfl (by kernel_rfl) (by kernel_rfl) (by kernel_rfl) (fun _ _ _ h => h) (by rfl) (by intro W hSw; go_simp; with_reducible rfl) ?_; try simp only [Act.put, List.setIfInBounds_toArray, List.set_cons_zero, List.set_cons_succ]
              refine wpAnyK_take 9 (v := ?_) rfl (by kernel_rfl) (by kernel_rfl) (by kernel_rfl) (fun _ _ _ h => h) (by rfl) (by intro W hSw; go_simp; with_reducible rfl) ?_; try simp only [Act.put, List.setIfInBounds_toArray, List.set_cons_zero, List.set_cons_succ]
              refine wpAnyK_take 10 (v := ?_) rfl (by kernel_rfl) (by kernel_rfl) (by kernel_rfl) (fun _ _ _ h => h) (by rfl) (by intro W hSw; go_simp; with_reducible rfl) ?_; try simp only [Act.put, List.setIfInBounds_toArray, List.set_cons_zero, List.set_cons_succ]
              refine wpAnyK_take 12 (v := ?_) rfl (by kernel_rfl) (by kernel_rfl) (by kernel_rfl) (fun _ _ _ h => h) (by rfl) (by intro W hSw; go_simp; with_reducible rfl) ?_; try simp only [Act.put, List.setIfInBounds_toArray, List.set_cons_zero, List.set_cons_succ]
              refine wpAnyK_take 13 (v := ?_) rfl (by kernel_rfl) (by kernel_rfl) (by kernel_rfl) (fun _ _ _ h => h) (by rfl) (by intro W hSw; go_simp; with_reducible rfl) ?_; try simp only [Act.put, List.setIfInBounds_toArray, List.set_cons_zero, List.set_cons_succ]
              refine wpAnyK_take 14 (v := ?_) rfl (by kernel_rfl) (by kernel_rfl) (by kernel_rfl) (fun _ _ _ h => h) (by rfl) (by intro W hSw; go_simp; with_reducible rfl) ?_; try simp only [Act.put, List.setIfInBounds_toArray, List.set_cons_zero, List.set_cons_succ]
              refine wpAnyK_take 15 (v := ?_) rfl (by kernel_rfl) (by kernel_rfl) (by kernel_rfl) (fun _ _ _ h => h) (by rfl) (by intro W hSw; go_simp; with_reducible rfl) ?_; try simp only [Act.put, List.setIfInBounds_toArray, List.set_cons_zero, List.set_cons_succ]
              refine wpAnyK_one 11 (by kernel_rfl) rfl (fun K hK => ?_)
              go_simp
              refine (hnow.out _ hb20).mono ?_; rintro e w21 ⟨rfl, rfl⟩; have hlr := Later.refl w20
              refine hK.out _ _ (by assumption) ?_
              clear hK K; try simp only [Act.put, List.setIfInBounds_toArray, List.set_cons_zero, List.set_cons_succ]
              refine wpAnyK_take 16 (v := ?_) rfl (by kernel_rfl) (by kernel_rfl) (by kernel_rfl) (fun _ _ _ h => h) (by rfl) (by intro W hSw; go_simp; with_reducible rfl) ?_; try simp only [Act.put, List.setIfInBounds_toArray, List.set_cons_zero, List.set_cons_succ]
              refine wpAnyK_take 17 (v := ?_) rfl (by kernel_rfl) (by kernel_rfl) (by kernel_rfl) (fun _ _ _ h => h) (by rfl) (by intro W hSw; go_simp; with_reducible rfl) ?_; try simp only [Act.put, List.setIfInBounds_toArray, List.set_cons_zero, List.set_cons_succ]
              refine wpAnyK_done (by kernel_rfl) ?_ _
              have hlz := (below_drewN (Later.refl wz) 1).trans hb20
              have HT8 := hide_ (show TwoC w.heap.size w20 (w.heap.size + 1) w2.heap.size (k + 1) from ⟨_, _, nz, HCKz.out.later hlz, HRKz.out.later hlz, by omega, HCBz.out.later HCKz.out.lt hlz, HCUz.out.grown HCKz.out.lt (grown_later hlz _)⟩)
              have HB8 := hide_ (HBz.out.trans hlz)
              clear kz kz2 hin hnow hb20 hlz
              go_wp2_with fail
              go_roundw
              case rel => exact ⟨k + 1, by omega, by omega, by go_num, HT8, HB8⟩
              case measure => simp [intOf]; omega
            · have HXc := HXR
              have d0 := cell_of_row _ _ 0 _ _ (0, 0) HXc.out
              have d1 := cell_of_row _ _ 1 _ _ (0, 0) HXc.out
              have d2 := cell_of_row _ _ 2 _ _ (0, 0) HXc.out
              have HST := hide_ (rset_any bl v HRK.out hlen)
              clear l0 l1 l2
              go_wp2_with fail
              refine HST.out.mono ?_; rintro e wz h
              rcases h with ⟨g0, _⟩ | ⟨g0, g1, g2, _⟩ | ⟨g0, g1, g2, g3, rfl, hbz⟩ | ⟨g0, g1, g2, g3, _⟩
              · exfalso; omega
              · exfalso; omega
              rotate_left
              · exfalso; omega
              have HCKz := hide_ (HCK.out.later hbz); have HRKz := hide_ (HRK.out.later hbz); have HBz := hide_ (HL.out.trans hbz); have HCBz := hide_ (HCB.out.later HCK.out.lt hbz); have HCUz := hide_ (HCU.out.grown HCK.out.lt (grown_later hbz _))
              obtain ⟨nz, hnz⟩ : ∃ nz, nz = nn := ⟨_, rfl⟩
              rw [← hnz] at HCKz
              clear hbz
              have HXz := hide_ (Rd.nil wz.drew 1 none)
              have HYz := hide_ (Rd.nil wz.drew 1 none)
              have HVz := hide_ (show ([] : List Int).length = 0 from rfl)
              have hmz : 0 ≤ 1048576 := by omega
              have HRZ := hide_ HRKz.out
              obtain ⟨Az, mz, cz, hraz, _⟩ := HRZ.out
              have kz := later_drew_cell (cell_of_row _ _ 0 _ _ (0, 0) hraz)
              have hin := hide_ (ints_same (w := wz.drew) (c := 0) (c' := 0) HXz.out HYz.out HVz.out hmz)
              have hnow := hide_ (fun (Wx : World) (hx : Later wz.drew Wx) => cnow_any (HCKz.out.later ((below_drewN (Later.refl wz) 1).trans hx)))
              clear hraz d0 d1 d2
              go_wp2_with fail
              refine wp_region_k (by kernel_rfl) ?_
              refine wpAnyK_take 0 (v := ?_) rfl (by kernel_rfl) (by kernel_rfl) (by kernel_rfl) (fun _ _ _ h => h) (by rfl) (by intro W hSw; go_simp; with_reducible rfl) ?_; try simp only [Act.put, List.setIfInBounds_toArray, List.set_cons_zero, List.set_cons_succ]
              refine wpAnyK_take 1 (v := ?_) rfl (by kernel_rfl) (by kernel_rfl) (by kernel_rfl) (fun _ _ _ h => h) (by rfl) (by intro W hSw; go_simp; with_reducible rfl) ?_; try simp only [Act.put, List.setIfInBounds_toArray, List.set_cons_zero, List.set_cons_succ]
              refine wpAnyK_take 2 (v := ?_) rfl (by kernel_rfl) (by kernel_rfl) (by kernel_rfl) (fun _ _ _ h => h) (by rfl) (by intro W hSw; go_simp; with_reducible rfl) ?_; try simp only [Act.put, List.setIfInBounds_toArray, List.set_cons_zero, List.set_cons_succ]
              refine wpAnyK_take 3 (v := ?_) rfl (by kernel_rfl) (by kernel_rfl) (by kernel_rfl) (fun _ _ _ h => h) (by rfl) (by intro W hSw; go_simp; with_reducible rfl) ?_; try simp only [Act.put, List.setIfInBounds_toArray, List.set_cons_zero, List.set_cons_succ]
              refine wpAnyK_take 4 (v := ?_) rfl (by kernel_rfl) (by kernel_rfl) (by kernel_rfl) (fun _ _ _ h => h) (by rfl) (by intro W hSw; go_simp; with_reducible rfl) ?_; try simp only [Act.put, List.setIfInBounds_toArray, List.set_cons_zero, List.set_cons_succ]
              refine wpAnyK_take 5 (v := ?_) rfl (by kernel_rfl) (by kernel_rfl) (by kernel_rfl) (fun _ _ _ h => h) (by rfl) (by intro W hSw; go_simp; with_reducible rfl) ?_; try simp only [Act.put, List.setIfInBounds_toArray, List.set_cons_zero, List.set_cons_succ]
              refine wpAnyK_one 6 (by kernel_rfl) rfl (fun K hK => ?_)
              go_simp
              refine hin.out.mono ?_; rintro e w20 ⟨rfl, hb20⟩; have kz2 := later_cell (kz _ hb20)
              refine hK.out _ _ (by assumption) ?_
              clear hK K; try simp only [Act.put, List.setIfInBounds_toArray, List.set_cons_zero, List.set_cons_succ]
              refine wpAnyK_take 7 (v := ?_) rfl (by kernel_rfl) (by kernel_rfl) (by kernel_rfl) (fun _ _ _ h => h) (by rfl) (by intro W hSw; go_simp; with_reducible rfl) ?_; try simp only [Act.put, List.setIfInBounds_toArray, List.set_cons_zero, List.set_cons_succ]
              refine wpAnyK_take 8 (v := ?_) rfl (by kernel_rfl) (by kernel_rfl) (by kernel_rfl) (fun _ _ _ h => h) (by rfl) (by intro W hSw; go_simp; with_reducible rfl) ?_; try simp only [Act.put, List.setIfInBounds_toArray, List.set_cons_zero, List.set_cons_succ]
              refine wpAnyK_take 9 (v := ?_) rfl (by kernel_rfl) (by kernel_rfl) (by kernel_rfl) (fun _ _ _ h => h) (by rfl) (by intro W hSw; go_simp; with_reducible rfl) ?_; try simp only [Act.put, List.setIfInBounds_toArray, List.set_cons_zero, List.set_cons_succ]
              refine wpAnyK_take 10 (v := ?_) rfl (by kernel_rfl) (by kernel_rfl) (by kernel_rfl) (fun _ _ _ h => h) (by rfl) (by intro W hSw; go_simp; with_reducible rfl) ?_; try simp only [Act.put, List.setIfInBounds_toArray, List.set_cons_zero, List.set_cons_succ]
              refine wpAnyK_take 12 (v := ?_) rfl (by kernel_rfl) (by kernel_rfl) (by kernel_rfl) (fun _ _ _ h => h) (by rfl) (by intro W hSw; go_simp; with_reducible rfl) ?_; try simp only [Act.put, List.setIfInBounds_toArray, List.set_cons_zero, List.set_cons_succ]
              refine wpAnyK_take 13 (v := ?_) rfl (by kernel_rfl) (by kernel_rfl) (by kernel_rfl) (fun _ _ _ h => h) (by rfl) (by intro W hSw; go_simp; with_reducible rfl) ?_; try simp only [Act.put, List.setIfInBounds_toArray, List.set_cons_zero, List.set_cons_succ]
              refine wpAnyK_take 14 (v := ?_) rfl (by kernel_rfl) (by kernel_rfl) (by kernel_rfl) (fun _ _ _ h => h) (by rfl) (by intro W hSw; go_simp; with_reducible rfl) ?_; try simp only [Act.put, List.setIfInBounds_toArray, List.set_cons_zero, List.set_cons_succ]
              refine wpAnyK_take 15 (v := ?_) rfl (by kernel_rfl) (by kernel_rfl) (by kernel_rfl) (fun _ _ _ h => h) (by rfl) (by intro W hSw; go_simp; with_reducible rfl) ?_; try simp only [Act.put, List.setIfInBounds_toArray, List.set_cons_zero, List.set_cons_succ]
              refine wpAnyK_one 11 (by kernel_rfl) rfl (fun K hK => ?_)
              go_simp
              refine (hnow.out _ hb20).mono ?_; rintro e w21 ⟨rfl, rfl⟩; have hlr := Later.refl w20
              refine hK.out _ _ (by assumption) ?_
              clear hK K; try simp only [Act.put, List.setIfInBounds_toArray, List.set_cons_zero, List.set_cons_succ]
              refine wpAnyK_take 16 (v := ?_) rfl (by kernel_rfl) (by kernel_rfl) (by kernel_rfl) (fun _ _ _ h => h) (by rfl) (by intro W hSw; go_simp; with_reducible rfl) ?_; try simp only [Act.put, List.setIfInBounds_toArray, List.set_cons_zero, List.set_cons_succ]
              refine wpAnyK_take 17 (v := ?_) rfl (by kernel_rfl) (by kernel_rfl) (by kernel_rfl) (fun _ _ _ h => h) (by rfl) (by intro W hSw; go_simp; with_reducible rfl) ?_; try simp only [Act.put, List.setIfInBounds_toArray, List.set_cons_zero, List.set_cons_succ]
              refine wpAnyK_done (by kernel_rfl) ?_ _
              have hlz := (below_drewN (Later.refl wz) 1).trans hb20
              have HT8 := hide_ (show TwoC w.heap.size w20 (w.heap.size + 1) w2.heap.size (k + 1) from ⟨_, _, nz, HCKz.out.later hlz, HRKz.out.later hlz, by omega, HCBz.out.later HCKz.out.lt hlz, HCUz.out.grown HCKz.out.lt (grown_later hlz _)⟩)
              have HB8 := hide_ (HBz.out.trans hlz)
              clear kz kz2 hin hnow hb20 hlz
              go_wp2_with fail
              go_roundw
              case rel => exact ⟨k + 1, by omega, by omega, by go_num, HT8, HB8⟩
              case measure => simp [intOf]; omega
            · have HXc := hide_ (HACT.out w4 ht4)
              have HRK4 := hide_ (HRK.out.turn ht4 HCU.out); have HCK4 := hide_ hck4; have HB4 := hide_ (HCUT.out w4 ht4); have HCB4 := hide_ (HCB.out.turn ht4); have HCU4 := hide_ (HCU.out.turn ht4)
              have d0 := cell_of_row _ _ 0 _ _ (0, 0) HXc.out
              have d1 := cell_of_row _ _ 1 _ _ (0, 0) HXc.out
              have d2 := cell_of_row _ _ 2 _ _ (0, 0) HXc.out
              have HST := hide_ (rset_any bl v HRK4.out hlen)
              clear l0 l1 l2 ht4 hck4
              go_wp2_with fail
              refine HST.out.mono ?_; rintro e wz h
              rcases h with ⟨g0, _⟩ | ⟨g0, g1, g2, _⟩ | ⟨g0, g1, g2, g3, _⟩ | ⟨g0, g1, g2, g3, rfl, hrkz, hgz⟩
              · exfalso; omega
              · exfalso; omega
              · exfalso; omega
              have HCKz := hide_ (HCK4.out.grown HCU4.out hgz); have HRKz := hide_ hrkz; have HBz := hide_ (grown_laterR HB4.out hgz (by omega)); have HCBz := hide_ (HCB4.out.grown HCU4.out HCK4.out.lt hgz); have HCUz := hide_ (HCU4.out.grown HCK4.out.lt hgz)
              obtain ⟨nz, hnz⟩ : ∃ nz, nz = nn + 1 := ⟨_, rfl⟩
              rw [← hnz] at HCKz
              clear hrkz hgz
              have HXz := hide_ (Rd.nil wz.drew 1 none)
              have HYz := hide_ (Rd.nil wz.drew 1 none)
              have HVz := hide_ (show ([] : List Int).length = 0 from rfl)
              have hmz : 0 ≤ 1048576 := by omega
              have HRZ := hide_ HRKz.out
              obtain ⟨Az, mz, cz, hraz, _⟩ := HRZ.out
              have kz := later_drew_cell (cell_of_row _ _ 0 _ _ (0, 0) hraz)
              have hin := hide_ (ints_same (w := wz.drew) (c := 0) (c' := 0) HXz.out HYz.out HVz.out hmz)
              have hnow := hide_ (fun (Wx : World) (hx : Later wz.drew Wx) => cnow_any (HCKz.out.later ((below_drewN (Later.refl wz) 1).trans hx)))
              clear hraz d0 d1 d2
              go_wp2_with fail
              refine wp_region_k (by kernel_rfl) ?_
              refine wpAnyK_take 0 (v := ?_) rfl (by kernel_rfl) (by kernel_rfl) (by kernel_rfl) (fun _ _ _ h => h) (by rfl) (by intro W hSw; go_simp; with_reducible rfl) ?_; try simp only [Act.put, List.setIfInBounds_toArray, List.set_cons_zero, List.set_cons_succ]
              refine wpAnyK_take 1 (v := ?_) rfl (by kernel_rfl) (by kernel_rfl) (by kernel_rfl) (fun _ _ _ h => h) (by rfl) (by intro W hSw; go_simp; with_reducible rfl) ?_; try simp only [Act.put, List.setIfInBounds_toArray, List.set_cons_zero, List.set_cons_succ]
              refine wpAnyK_take 2 (v := ?_) rfl (by kernel_rfl) (by kernel_rfl) (by kernel_rfl) (fun _ _ _ h => h) (by rfl) (by intro W hSw; go_simp; with_reducible rfl) ?_; try simp only [Act.put, List.setIfInBounds_toArray, List.set_cons_zero, List.set_cons_succ]
              refine wpAnyK_take 3 (v := ?_) rfl (by kernel_rfl) (by kernel_rfl) (by kernel_rfl) (fun _ _ _ h => h) (by rfl) (by intro W hSw; go_simp; with_reducible rfl) ?_; try simp only [Act.put, List.setIfInBounds_toArray, List.set_cons_zero, List.set_cons_succ]
              refine wpAnyK_take 4 (v := ?_) rfl (by kernel_rfl) (by kernel_rfl) (by kernel_rfl) (fun _ _ _ h => h) (by rfl) (by intro W hSw; go_simp; with_reducible rfl) ?_; try simp only [Act.put, List.setIfInBounds_toArray, List.set_cons_zero, List.set_cons_succ]
              refine wpAnyK_take 5 (v := ?_) rfl (by kernel_rfl) (by kernel_rfl) (by kernel_rfl) (fun _ _ _ h => h) (by rfl) (by intro W hSw; go_simp; with_reducible rfl) ?_; try simp only [Act.put, List.setIfInBounds_toArray, List.set_cons_zero, List.set_cons_succ]
              refine wpAnyK_one 6 (by kernel_rfl) rfl (fun K hK => ?_)
              go_simp
              refine hin.out.mono ?_; rintro e w20 ⟨rfl, hb20⟩; have kz2 := later_cell (kz _ hb20)
              refine hK.out _ _ (by assumption) ?_
              clear hK K; try simp only [Act.put, List.setIfInBounds_toArray, List.set_cons_zero, List.set_cons_succ]
              refine wpAnyK_take 7 (v := ?_) rfl (by kernel_rfl) (by kernel_rfl) (by kernel_rfl) (fun _ _ _ h => h) (by rfl) (by intro W hSw; go_simp; with_reducible rfl) ?_; try simp only [Act.put, List.setIfInBounds_toArray, List.set_cons_zero, List.set_cons_succ]
              refine wpAnyK_take 8 (v := ?_) rfl (by kernel_rfl) (by kernel_rfl) (by kernel_rfl) (fun _ _ _ h => h) (by rfl) (by intro W hSw; go_simp; with_reducible rfl) ?_; try simp only [Act.put, List.setIfInBounds_toArray, List.set_cons_zero, List.set_cons_succ]
              refine wpAnyK_take 9 (v := ?_) rfl (by kernel_rfl) (by kernel_rfl) (by kernel_rfl) (fun _ _ _ h => h) (by rfl) (by intro W hSw; go_simp; with_reducible rfl) ?_; try simp only [Act.put, List.setIfInBounds_toArray, List.set_cons_zero, List.set_cons_succ]
              refine wpAnyK_take 10 (v := ?_) rfl (by kernel_rfl) (by kernel_rfl) (by kernel_rfl) (fun _ _ _ h => h) (by rfl) (by intro W hSw; go_simp; with_reducible rfl) ?_; try simp only [Act.put, List.setIfInBounds_toArray, List.set_cons_zero, List.set_cons_succ]
              refine wpAnyK_take 12 (v := ?_) rfl (by kernel_rfl) (by kernel_rfl) (by kernel_rfl) (fun _ _ _ h => h) (by rfl) (by intro W hSw; go_simp; with_reducible rfl) ?_; try simp only [Act.put, List.setIfInBounds_toArray, List.set_cons_zero, List.set_cons_succ]
              refine wpAnyK_take 13 (v := ?_) rfl (by kernel_rfl) (by kernel_rfl) (by kernel_rfl) (fun _ _ _ h => h) (by rfl) (by intro W hSw; go_simp; with_reducible rfl) ?_; try simp only [Act.put, List.setIfInBounds_toArray, List.set_cons_zero, List.set_cons_succ]
              refine wpAnyK_take 14 (v := ?_) rfl (by kernel_rfl) (by kernel_rfl) (by kernel_rfl) (fun _ _ _ h => h) (by rfl) (by intro W hSw; go_simp; with_reducible rfl) ?_; try simp only [Act.put, List.setIfInBounds_toArray, List.set_cons_zero, List.set_cons_succ]
              refine wpAnyK_take 15 (v := ?_) rfl (by kernel_rfl) (by kernel_rfl) (by kernel_rfl) (fun _ _ _ h => h) (by rfl) (by intro W hSw; go_simp; with_reducible rfl) ?_; try simp only [Act.put, List.setIfInBounds_toArray, List.set_cons_zero, List.set_cons_succ]
              refine wpAnyK_one 11 (by kernel_rfl) rfl (fun K hK => ?_)
              go_simp
              refine (hnow.out _ hb20).mono ?_; rintro e w21 ⟨rfl, rfl⟩; have hlr := Later.refl w20
              refine hK.out _ _ (by assumption) ?_
              clear hK K; try simp only [Act.put, List.setIfInBounds_toArray, List.set_cons_zero, List.set_cons_succ]
              refine wpAnyK_take 16 (v := ?_) rfl (by kernel_rfl) (by kernel_rfl) (by kernel_rfl) (fun _ _ _ h => h) (by rfl) (by intro W hSw; go_simp; with_reducible rfl) ?_; try simp only [Act.put, List.setIfInBounds_toArray, List.set_cons_zero, List.set_cons_succ]
              refine wpAnyK_take 17 (v := ?_) rfl (by kernel_rfl) (by kernel_rfl) (by kernel_rfl) (fun _ _ _ h => h) (by rfl) (by intro W hSw; go_simp; with_reducible rfl) ?_; try simp only [Act.put, List.setIfInBounds_toArray, List.set_cons_zero, List.set_cons_succ]
              refine wpAnyK_done (by kernel_rfl) ?_ _
              have hlz := (below_drewN (Later.refl wz) 1).trans hb20
              have HT8 := hide_ (show TwoC w.heap.size w20 (w.heap.size + 1) w2.heap.size (k + 1) from ⟨_, _, nz, HCKz.out.later hlz, HRKz.out.later hlz, by omega, HCBz.out.later HCKz.out.lt hlz, HCUz.out.grown HCKz.out.lt (grown_later hlz _)⟩)
              have HB8 := hide_ (HBz.out.trans hlz)
              clear kz kz2 hin hnow hb20 hlz
              go_wp2_with fail
              go_roundw
              case rel => exact ⟨k + 1, by omega, by omega, by go_num, HT8, HB8⟩
              case measure => simp [intOf]; omega
      · have r4 : ¬ (k : Int) < 200 := by omega
        go_wp2_with fail
        go_ret
        exact ⟨rfl, HB.out⟩
    · have r1 : ¬ (k : Int) < (n : Int) := by omega
      go_wp2_with fail
      go_ret
      exact ⟨rfl, HB.out⟩
set_option maxRecDepth 20000 in
theorem clockPlays_contract (H : Type) (enc : TypeId × Value → H) (W : World) (base : Nat) (args : Array Value) (ds : List (DataW H)) (before : List MemPlace)
    (hval : ∀ (j : Nat) t v, Try.f4.params[j]? = some t → args[j]? = some v → Value.okWide Try.prog W .any base t v)
    (hA : DataW.TrodAll enc Try.prog W 0 (fun _ => true) true Try.f4.params.toList args.toList ds before)
    (_hsz : (DataW.weightsEach Try.prog (Try.f4.params.toList ++ Rows.clockPlaysSpec.plain.varTypes Try.prog) (ds ++ [])).all (· ≤ reachBytes) = true) :
    Calls Try.prog 4 args W fun e W' => e = .returned (.bool true) ∧ Below W.heap.size W W' := by
  rw [Try.params4] at hA hval
  obtain ⟨v0, vs0, d0, ds0, p0, q0, hargs, rfl, rfl, h0, r0⟩ := trodAll_cons hA
  obtain ⟨rfl, rfl, rfl⟩ := trodAll_nil r0
  obtain rfl : args = #[v0] := by cases args; simp_all
  obtain ⟨A, c, X, rfl, hcm, hX⟩ := copen_acts (hval 0 35 v0 rfl rfl) h0
  exact clockPlays_walk A _ c X hX hcm

set_option maxRecDepth 100000 in
theorem clockPlays_lifted (os : Os) (started : os.Started) (H : Type) (enc : TypeId × Value → H) :
    ReturnsInHanded {} Try.checked os 4 .any (Rows.clockPlaysSpec.pre6 enc Try.prog Try.f4 Rows.clockPlaysRow.domain false) (Rows.clockPlaysSpec.post enc Try.prog Try.f4 false true false false) := by
  refine returnsInHanded_of_change_sized (C := Try.checked) own started (by kernel_rfl) Try.func4
    (ChangeSpec.witness6 (enc := enc) (C := Try.checked) false ⟨#[], #[.slice none 0 0], []⟩ 8 (by kernel_rfl) (by kernel_rfl) (by kernel_rfl) (by kernel_rfl)) ?_
  intro W base args ds gs before hval hW _ hsz _
  have hW' := hW
  obtain ⟨p, q, hA0, hV, rfl, hfz, hnd⟩ := hW
  obtain ⟨rfl, rfl⟩ := trodVars_none hV
  have hA : DataW.TrodAll enc Try.prog W 0 (fun _ => true) true Try.f4.params.toList args.toList ds p := hA0
  refine (clockPlays_contract H enc W base args ds p hval hA hsz).mono fun e W' ⟨he, hb⟩ => ?_
  subst he
  have hds : ds.length = 1 := by
    rw [Try.params4] at hA
    obtain ⟨v0, vs0, d0, ds0, p0, q0, _, rfl, rfl, _, r0⟩ := trodAll_cons hA
    obtain ⟨_, rfl, rfl⟩ := trodAll_nil r0
    rfl
  have hsh : ∃ d0 : DataW H, ds = [d0] := by
    match ds, hds with
    | [d0], _ => exact ⟨d0, rfl⟩
  obtain ⟨d0, rfl⟩ := hsh
  exact ⟨_, rfl, post_law (s := Rows.clockPlaysSpec) laidOut (by kernel_rfl) Try.underlying4 rfl (by kernel_rfl) hW' rfl rfl rfl hb⟩
theorem clockPlays_over : Rows.clockPlaysRow.holds Try.pinned (OpenSpec.ofChange Rows.clockPlaysSpec) :=
  OpenClaim.holds_of_wide 4 Try.f4 rfl rfl rfl rfl rfl rfl rfl ⟨rfl, rfl, rfl, rfl, rfl⟩ rfl rfl rfl rfl rfl (by kernel_rfl) Try.func4 (by kernel_rfl)
    (of_decide_eq_true (by kernel_rfl)) (by unfold Func.isWrapper; first | (rw [if_pos (by decide +kernel)]; kernel_rfl) | (rw [if_neg (by decide +kernel)]; exact ⟨rfl, rfl⟩))
    (fun os started H enc _ => clockPlays_lifted os started H enc)
/-- The statement. -/
theorem clockPlays_holds : Rows.ClockPlaysSaid := clockPlays_over
end Go.Proofs.Ytinfeajbnhkkiaa
