/-
  book: Add of one record.
-/
import Derived.Test.YtlgnnmpfipmjeaaGreatZkBook2
import Derived.Test.YtlgnnmpfipmjeaaGreatZkZone
import Derived.Defers
namespace Go.Proofs.YtlgnnmpfipmjeaaGreat
open Go.RowKit
set_option linter.unusedVariables false
set_option linter.unusedSimpArgs false
set_option maxHeartbeats 2000000 in
theorem bdefer_any {u : FrameMode} {w : World} {E X b : Nat} (he : w.cell? ⟨E, 0, none⟩ = some (.int .i64 0)) (hx : w.cell? ⟨X, 0, none⟩ = some (.pointer (some ⟨b, 0, none⟩))) {y : Value} (hy : w.cell? ⟨b, 2, none⟩ = some y) (hf : w.frozen? ⟨b, 2, none⟩ = false) :
    CallsD Tryz.prog 83 #[.pointer (some ⟨E, 0, none⟩), .pointer (some ⟨X, 0, none⟩)] u w fun e u' w' => u' = u ∧ (e = .returned (.tuple #[]) ∧ w' = w.setCell ⟨b, 2, none⟩ (.bool false)) := by
  go_enter_d Tryz.func83, Tryz.ntmps83
  go_wp2_with fail
  go_returns
  exact ⟨rfl, rfl⟩
set_option maxHeartbeats 4000000 in
set_option maxRecDepth 100000 in
theorem badd_one {w : World} {B b t : Nat} {v vr : Value} {used room : Nat} (h : BookAt w B b t v vr used room) (hB : B ≤ w.heap.size) (hroom : room ≤ 1048576) {g gb o n c cc : Nat} {l : List UInt8} (hg : w.cell? ⟨g, 0, none⟩ = some (.slice (some ⟨gb, o, none⟩) n c)) (hr : Rd w 1 (some ⟨gb, o, none⟩) n (bvs l)) (hl : l.length = n) (hn : n ≤ 65000) (hfit : used + n + 7 ≤ room) (hgF : ¬ bFp b t v vr g) (hgbF : ¬ bFp b t v vr gb) :
    Calls Tryz.prog 64 #[.pointer (some ⟨b, 0, none⟩), .slice (some ⟨g, 0, none⟩) 1 cc] w fun e w' => e = .returned (.int .i64 0) ∧ ∃ v' vr', BookAt w' B b t v' vr' (used + n + 7) room ∧ Hits (bFp b t v vr) w w' ∧ NS w v v' ∧ NS w vr vr' := by
  have hmf : ∀ (fn : Fn) (first cap : Array Value) (w : World), (Instr.makeFunc fn first cap).run Tryz.prog w = .ok (.func fn first cap) w := fun _ _ _ _ => rfl
  obtain ⟨W0, hW0⟩ : ∃ W0, W0 = (w.alloc (.cells #[.pointer (some ⟨b, 0, none⟩)] 55)).alloc (.cells #[.int .i64 0] 23) := ⟨_, rfl⟩
  have HW := hide_ hW0.symm
  have hl0 : Later w W0 := by rw [hW0]; exact (later_alloc _ _).al _
  have hbx : W0.heap[w.heap.size]? = some (.cells #[.pointer (some ⟨b, 0, none⟩)] 55 (0, 0)) := by rw [hW0]; exact later_row (later_alloc _ _) (heap_alloc_new w _)
  have hex : W0.heap[w.heap.size + 1]? = some (.cells #[.int .i64 0] 23 (0, 0)) := by rw [hW0]; have := heap_alloc_new (w.alloc (.cells #[.pointer (some ⟨b, 0, none⟩)] 55)) (.cells #[.int .i64 0] 23); simpa using this
  have HZ0 := hide_ (show W0.heap.size = w.heap.size + 2 by rw [hW0]; simp)
  have HBK := hide_ (h.later hl0)
  have HBK0 := hide_ h
  have HG0 := hide_ hg; have HR0 := hide_ hr; have HGF := hide_ hgF; have HGBF := hide_ hgbF
  have HG := hide_ (later_cell hg _ hl0); have HR := hide_ (hr.below hl0); have HL := hide_ hl
  have HLAY := hide_ (blay_one (cc := cc) HBK.out HG.out HR.out hl hn)
  have HBX := hide_ hbx; have HEX := hide_ hex; have HL0 := hide_ hl0
  have x0 := cell_of_row _ _ 0 _ _ (0, 0) hbx
  clear h hg hr hl hW0 hl0 hbx hex hgF hgbF
  go_enter_defers Tryz.func64, Tryz.ntmps64
  go_wp2_with (rw [HW.out])
  refine HLAY.out.mono ?_; rintro e w1 ⟨v1, m, rfl, hm1, hm2, ho1, hl1⟩
  obtain ⟨A1, c1, hv1⟩ := own_form ho1
  subst hv1
  have HO1 := hide_ ho1; have HM1 := hide_ hm1; have HM2 := hide_ hm2
  have HL1 := hide_ hl1
  have HBK1 := hide_ (HBK.out.later hl1)
  have hbx1 := later_row hl1 HBX.out
  have hex1 := later_row hl1 HEX.out
  have hzz := hide_ hl1.size
  have HZ1 := hide_ (show w.heap.size + 2 ≤ w1.heap.size by have := HZ0.out; have := hzz.out; omega)
  have x0 := cell_of_row _ _ 0 _ _ (0, 0) hbx1
  have y0 := cell_of_row _ _ 0 _ _ (0, 0) hex1
  have g0 := frozen_of_row _ _ 0 _ _ hex1
  have HBX1 := hide_ hbx1; have HEX1 := hide_ hex1
  clear hm1 hm2 ho1 hl1 hbx1 hex1
  obtain ⟨W2, hW2⟩ : ∃ W2, W2 = w1.setCell ⟨w.heap.size + 1, 0, none⟩ (.int .i64 0) := ⟨_, rfl⟩
  have hh2 : Hits (· = w.heap.size + 1) w1 W2 := by rw [hW2]; exact (Hits.refl (· = w.heap.size + 1) w1).setCell (g := w.heap.size + 1) (fun _ => rfl) 0 _
  have hex2 : W2.heap[w.heap.size + 1]? = some (.cells #[.int .i64 0] 23 (0, 0)) := by rw [hW2]; exact heap_setCell_same w1 _ 0 _ _ _ HEX1.out
  have hbx2 := hh2.row HBX1.out (by omega)
  have HLTB := hide_ HBK0.out.lt
  have HBK2 := hide_ (HBK1.out.hits hh2 (fun k hk => by have := (HLTB.out k hk).1; omega))
  have HO2 := hide_ (hh2.own HO1.out (fun k hk => by have := (HO1.out.lt _ hk).1; have := HZ0.out; omega))
  have HH2 := hide_ hh2; have HEX2 := hide_ hex2; have HBX2 := hide_ hbx2
  have x0 := cell_of_row _ _ 0 _ _ (0, 0) hbx2
  have y0 := cell_of_row _ _ 0 _ _ (0, 0) hex2
  have b0 := cell_of_row _ _ 0 _ _ (0, 0) HBK2.out.2.1
  have HW2 := hide_ hW2.symm
  clear hh2 hex2 hbx2 hW2
  go_wp2_with (rw [HW2.out])
  obtain ⟨hb1, hb2, ⟨l0, sure, htp, hlu⟩, nr, xr, hor, hnu⟩ := HBK2.out
  obtain ⟨Ar, cr, hvr⟩ := own_form hor
  subst hvr
  have HB2 := hide_ hb2; have HOR := hide_ hor; have HLU := hide_ hlu; have HNU := hide_ hnu; have HTP := hide_ htp
  have HS2 := hide_ HH2.out.size
  have hB2 : B ≤ W2.heap.size := by have := HS2.out; have := HZ1.out; omega
  have HBT := hide_ (show b ≠ t from fun e => by subst e; have h := HB2.out; rw [HTP.out.2.1] at h; injection h with h; injection h with _ h; exact absurd h (by decide))
  have HBV := hide_ (show v.ownBlock ≠ some b from fun e => by
    obtain ⟨_, _, cs, hc⟩ := own_block HTP.out.2.2 e
    have h := HB2.out; rw [hc] at h; injection h with h; injection h with _ h; exact absurd h (by decide))
  have HRT := hide_ (show ∀ k, (Value.slice Ar nr cr).ownBlock = some k → k ≠ t ∧ v.ownBlock ≠ some k ∧ k ≠ b from fun k hk => by
    obtain ⟨_, _, cs, hc⟩ := own_block HOR.out hk
    refine ⟨fun e => ?_, fun e => ?_, fun e => ?_⟩
    · subst e; have h := HTP.out.2.1; rw [hc] at h; injection h with h; injection h with _ h; exact absurd h (by decide)
    · obtain ⟨_, _, cs2, hc2⟩ := own_block HTP.out.2.2 e
      rw [hc] at hc2; injection hc2 with hc2; injection hc2 with _ hc2; exact absurd hc2 (by decide)
    · subst e; have h := HB2.out; rw [hc] at h; injection h with h; injection h with _ h; exact absurd h (by decide))
  refine (tadd_any htp hroom (news := m) (m := m.length) (c := c1) (A := A1) (Rd.of_own HO2.out) rfl (own_nil HO2.out) (by have := HM1.out; omega) hB2).mono ?_; rintro e w3 ⟨rfl, v3, htp3, hh3, hns3⟩
  have HTP3 := hide_ htp3; have HH3 := hide_ hh3; have HNS3 := hide_ hns3
  have HTLT := hide_ (show ∀ k, wFp t v k → k < w.heap.size from fun k hk => (HLTB.out k (by rcases hk with hk | hk; exact .inr (.inl hk); exact .inr (.inr (.inl hk)))).1)
  have hex3 := hh3.row HEX2.out (fun h => by have := HTLT.out _ h; omega)
  have hbx3 := hh3.row HBX2.out (fun h => by have := HTLT.out _ h; omega)
  have hb3 := hh3.row HB2.out (fun h => by rcases h with h | h; exact HBT.out h; exact HBV.out h)
  have hor3 := hh3.own HOR.out (fun k hk h => by have h3 := HRT.out k hk; rcases h with h | h; exact h3.1 h; exact h3.2.1 h)
  have g0 := frozen_of_row _ _ 0 _ _ hex3
  have y0 := cell_of_row _ _ 0 _ _ (0, 0) hex3
  obtain ⟨W4, hW4⟩ : ∃ W4, W4 = w3.setCell ⟨w.heap.size + 1, 0, none⟩ (.int .i64 0) := ⟨_, rfl⟩
  have hh4 : Hits (· = w.heap.size + 1) w3 W4 := by rw [hW4]; exact (Hits.refl (· = w.heap.size + 1) w3).setCell (g := w.heap.size + 1) (fun _ => rfl) 0 _
  have hex4 : W4.heap[w.heap.size + 1]? = some (.cells #[.int .i64 0] 23 (0, 0)) := by rw [hW4]; exact heap_setCell_same w3 _ 0 _ _ _ hex3
  have hbx4 := hh4.row hbx3 (by omega)
  have hb4 := hh4.row hb3 (by have := (HLTB.out b (.inl rfl)).1; omega)
  have hor4 := hh4.own hor3 (fun k hk => by have := (HLTB.out k (.inr (.inr (.inr hk)))).1; omega)
  have htp4 := htp3.hits hh4 (by have := (HLTB.out t (.inr (.inl rfl))).1; omega) (fun k hk => by
    rcases HNS3.out with h | ⟨g, h, hg⟩
    · rw [h] at hk; have := HTLT.out k (.inr hk); omega
    · rw [h] at hk; injection hk with hk; have := HS2.out; have := HZ1.out; omega)
  have HEX4 := hide_ hex4; have HBX4 := hide_ hbx4; have HB4 := hide_ hb4; have HOR4 := hide_ hor4; have HTP4 := hide_ htp4; have HH4 := hide_ hh4
  have x0 := cell_of_row _ _ 0 _ _ (0, 0) hbx4
  have y4 := cell_of_row _ _ 0 _ _ (0, 0) hex4
  have b0 := cell_of_row _ _ 0 _ _ (0, 0) hb4
  have HW4 := hide_ hW4.symm
  clear htp htp3 hh3 hns3 hex3 hbx3 hb3 hor3 hh4 hex4 hbx4 hb4 hor4 htp4 hor hlu hnu hb2 hW4
  go_wp2_with (rw [HW4.out])
  refine (tsync_any HTP4.out hroom).mono ?_; rintro e w5 ⟨rfl, htp5, hh5⟩
  have hex5 := hh5.row HEX4.out (fun h => by have := (HLTB.out t (.inr (.inl rfl))).1; omega)
  have hbx5 := hh5.row HBX4.out (fun h => by have := (HLTB.out t (.inr (.inl rfl))).1; omega)
  have hb5 := hh5.row HB4.out (fun h => HBT.out h)
  have hor5 := hh5.own HOR4.out (fun k hk h => (HRT.out k hk).1 h)
  have g0 := frozen_of_row _ _ 0 _ _ hex5
  have y0 := cell_of_row _ _ 0 _ _ (0, 0) hex5
  obtain ⟨W6, hW6⟩ : ∃ W6, W6 = w5.setCell ⟨w.heap.size + 1, 0, none⟩ (.int .i64 0) := ⟨_, rfl⟩
  have hh6 : Hits (· = w.heap.size + 1) w5 W6 := by rw [hW6]; exact (Hits.refl (· = w.heap.size + 1) w5).setCell (g := w.heap.size + 1) (fun _ => rfl) 0 _
  have hex6 : W6.heap[w.heap.size + 1]? = some (.cells #[.int .i64 0] 23 (0, 0)) := by rw [hW6]; exact heap_setCell_same w5 _ 0 _ _ _ hex5
  have hbx6 := hh6.row hbx5 (by omega)
  have hb6 := hh6.row hb5 (by have := (HLTB.out b (.inl rfl)).1; omega)
  have hor6 := hh6.own hor5 (fun k hk => by have := (HLTB.out k (.inr (.inr (.inr hk)))).1; omega)
  have HNV := hide_ (show ∀ k, v3.ownBlock = some k → k ≠ w.heap.size ∧ k ≠ w.heap.size + 1 ∧ k ≠ b from fun k hk => by
    have hb := (HLTB.out b (.inl rfl)).1
    rcases HNS3.out with h | ⟨g, h, hg⟩
    · rw [h] at hk; have := HTLT.out k (.inr hk); exact ⟨by omega, by omega, fun e => HBV.out (by rw [hk, e])⟩
    · rw [h] at hk; injection hk with hk; have := HS2.out; have := HZ1.out; exact ⟨by omega, by omega, by omega⟩)
  have htp6 := htp5.hits hh6 (by have := (HLTB.out t (.inr (.inl rfl))).1; omega) (fun k hk => (HNV.out k hk).2.1)
  have HSZ6 := hide_ (show w1.heap.size ≤ W6.heap.size from by have := HS2.out; have := HH3.out.size; have := HH4.out.size; have := hh5.size; have := hh6.size; omega)
  have HTOT := hide_ (show Hits (fun k => bFp b t v (.slice Ar nr cr) k ∨ w.heap.size ≤ k) w W6 from by
    have a := (((Hits.later (F := fun k => bFp b t v (.slice Ar nr cr) k ∨ w.heap.size ≤ k) (HL0.out.trans HL1.out)).trans HH2.out (fun k hk h => .inr (by omega))).trans HH3.out (fun k hk h => .inl (by rcases h with h | h; exact .inr (.inl h); exact .inr (.inr (.inl h))))).trans HH4.out (fun k hk h => .inr (by omega))
    exact (a.trans hh5 (fun k hk h => .inl (.inr (.inl h)))).trans hh6 (fun k hk h => .inr (by omega)))
  have HEX6 := hide_ hex6; have HBX6 := hide_ hbx6; have HB6 := hide_ hb6; have HOR6 := hide_ hor6; have HTP6 := hide_ htp6
  have x0 := cell_of_row _ _ 0 _ _ (0, 0) hbx6
  have y6 := cell_of_row _ _ 0 _ _ (0, 0) hex6
  have HW6 := hide_ hW6.symm
  clear htp5 hh5 hex5 hbx5 hb5 hor5 hh6 hex6 hbx6 hb6 hor6 htp6 hW6 b0 y4
  go_wp2_with (rw [HW6.out])
  have HG6 := hide_ (HTOT.out.cell HG0.out (by have := cell_lt HG0.out; rintro (h | h); exact HGF.out h; omega))
  have HR6 := hide_ (show Rd W6 1 (some ⟨gb, o, none⟩) n (bvs l) from by
    by_cases h0 : 0 < (bvs l).length
    · exact HTOT.out.rd HR0.out (by
        intro a ha; injection ha with ha; subst ha
        rintro (h | h)
        · exact HGBF.out h
        · obtain ⟨b', o', e', hc'⟩ := HR0.out.2 h0
          injection e' with e'; injection e' with e1 e2
          obtain ⟨u, hu⟩ : ∃ u, (bvs l)[0]? = some u := ⟨_, List.getElem?_eq_getElem h0⟩
          have := cell_lt (hc' 0 u hu); simp only at h; omega)
    · exact ⟨HR0.out.1, fun h => absurd h h0⟩)
  have hX6 := Stands.cell (X := (fun k => k = w.heap.size ∨ k = b)) x0 (.inl rfl)
  have hB6 := Stands.cell (X := (fun k => k = w.heap.size ∨ k = b)) (cell_of_row _ _ 1 _ _ (0, 0) HB6.out) (.inr rfl)
  clear x0 y0 y6 g0
  refine wp_only ?_
  refine wp_region_z (R := Stands (fun k => k = w.heap.size ∨ k = b)) [10] (by kernel_rfl) ?_
  refine wpAnyZ_take (Stands.steady (fun k => k = w.heap.size ∨ k = b)) 0 (v := ?_) rfl (by kernel_rfl) (by kernel_rfl) (by kernel_rfl) (by kernel_rfl) (fun _ _ _ h => h) (by rfl) (by intro W hSw; have hS0 := Stands.trans (show Stands (fun k => k = w.heap.size ∨ k = b) W6 _ from by repeat first | assumption | exact Stands.refl _ _ | refine Stands.alloc ?_ _ | refine Stands.drew ?_ | refine Stands.trans ?_ (by assumption)) hSw; go_simp; with_reducible rfl) ?_; try simp only [Act.put, List.setIfInBounds_toArray, List.set_cons_zero, List.set_cons_succ]
  refine wpAnyZ_take (Stands.steady (fun k => k = w.heap.size ∨ k = b)) 1 (v := ?_) rfl (by kernel_rfl) (by kernel_rfl) (by kernel_rfl) (by kernel_rfl) (fun _ _ _ h => h) (by rfl) (by intro W hSw; have hS0 := Stands.trans (show Stands (fun k => k = w.heap.size ∨ k = b) W6 _ from by repeat first | assumption | exact Stands.refl _ _ | refine Stands.alloc ?_ _ | refine Stands.drew ?_ | refine Stands.trans ?_ (by assumption)) hSw; go_simp; with_reducible rfl) ?_; try simp only [Act.put, List.setIfInBounds_toArray, List.set_cons_zero, List.set_cons_succ]
  refine wpAnyZ_pure (Stands.steady (fun k => k = w.heap.size ∨ k = b)) 2 (v := ?_) rfl (by kernel_rfl) (by kernel_rfl) (by kernel_rfl) (fun _ _ _ h => h) (by rfl) (by intro W; go_simp; with_reducible rfl) ?_; try simp only [Act.put, List.setIfInBounds_toArray, List.set_cons_zero, List.set_cons_succ]
  refine wpAnyZ_pure (Stands.steady (fun k => k = w.heap.size ∨ k = b)) 3 (v := ?_) rfl (by kernel_rfl) (by kernel_rfl) (by kernel_rfl) (fun _ _ _ h => h) (by rfl) (by intro W; go_simp; with_reducible rfl) ?_; try simp only [Act.put, List.setIfInBounds_toArray, List.set_cons_zero, List.set_cons_succ]
  refine wpAnyZ_take (Stands.steady (fun k => k = w.heap.size ∨ k = b)) 4 (v := ?_) rfl (by kernel_rfl) (by kernel_rfl) (by kernel_rfl) (by kernel_rfl) (fun _ _ _ h => h) (by rfl) (by intro W hSw; have hS0 := Stands.trans (show Stands (fun k => k = w.heap.size ∨ k = b) W6 _ from by repeat first | assumption | exact Stands.refl _ _ | refine Stands.alloc ?_ _ | refine Stands.drew ?_ | refine Stands.trans ?_ (by assumption)) hSw; go_simp; with_reducible rfl) ?_; try simp only [Act.put, List.setIfInBounds_toArray, List.set_cons_zero, List.set_cons_succ]
  refine wpAnyZ_pure (Stands.steady (fun k => k = w.heap.size ∨ k = b)) 5 (v := ?_) rfl (by kernel_rfl) (by kernel_rfl) (by kernel_rfl) (fun _ _ _ h => h) (by rfl) (by intro W; go_simp; with_reducible rfl) ?_; try simp only [Act.put, List.setIfInBounds_toArray, List.set_cons_zero, List.set_cons_succ]
  refine wpAnyZ_one 6 (by kernel_rfl) rfl (fun K hK => ?_)
  go_simp
  refine (bclone_one (cc := cc) (c := c) (n := n) (o := o) (b := gb) (g := g) (by exact HG6.out) (by exact HR6.out) HL.out (by omega)).mono ?_; rintro e w7 ⟨A7, c7, x, rfl, ho7, hx7, hl7⟩; have HO7 := hide_ ho7; have HX7 := hide_ hx7; have HL7 := hide_ (show Later W6 w7 from (Later.dr (Later.refl _)).trans hl7); have hb7 : Stands (fun k => k = w.heap.size ∨ k = b) _ w7 := Stands.of_later hl7; clear ho7 hx7 hl7
  refine hK.out _ _ (by repeat first | assumption | exact Stands.refl _ _ | refine Stands.alloc ?_ _ | refine Stands.drew ?_ | refine Stands.of_later ?_) ?_
  clear hK K; try simp only [Act.put, List.setIfInBounds_toArray, List.set_cons_zero, List.set_cons_succ]
  refine wpAnyZ_one 7 (by kernel_rfl) rfl (fun K hK => ?_)
  refine step_append_rd (by rfl) (.tmp 35) (.tmp 37) 61 rfl B 43 1 24 rowsT (.slice Ar nr cr) nr xr rfl (own_below HOR6.out HL7.out) A7 1 c7 [x] rfl (Rd.of_own HO7.out) (by intro u hu; rw [List.mem_singleton] at hu; subst hu; exact HX7.out) (by have := HNU.out; omega) (by have := HNU.out; unfold maxLen; omega) (by have := HL7.out.size; have := HSZ6.out; have := HZ1.out; omega) (fun h => by subst h; have := own_nil HO7.out rfl; omega) ?_; intro v9 w9 hown hg9 hat; obtain ⟨A9, c9, hv9⟩ := own_form hown; subst hv9; have HO9 := hide_ hown; have HG9 := hide_ hg9; have HAT := hide_ hat; have hb9 := (hg9.block b (theap_lt (later_row HL7.out HB6.out)) (fun e => ((HRT.out b e.symm).2.2 rfl))).trans (later_row HL7.out HB6.out); have HB9 := hide_ hb9; have k9 := cell_of_row _ _ 1 _ _ (0, 0) hb9; have f9 := frozen_of_row _ _ 1 _ _ hb9; have hb90 : Stands (fun k => k = w.heap.size ∨ k = b) w7 w9 := ((Hits.refl (fun k => (Value.slice Ar nr cr).ownBlock = some k) w7).grown hg9 (fun g hg _ => hg)).stands (by intro k _ hk hx; rcases hx with hx | hx; (subst hx; have := (HLTB.out _ (.inr (.inr (.inr hk)))).1; omega); (subst hx; exact (HRT.out _ hk).2.2 rfl)); clear hown hg9 hat hb9
  refine hK.out _ _ (by repeat first | assumption | exact Stands.refl _ _ | refine Stands.alloc ?_ _ | refine Stands.drew ?_ | refine Stands.of_later ?_) ?_
  clear hK K; try simp only [Act.put, List.setIfInBounds_toArray, List.set_cons_zero, List.set_cons_succ]
  refine wpAnyZ_pure (Stands.steady (fun k => k = w.heap.size ∨ k = b)) 8 (v := ?_) rfl (by kernel_rfl) (by kernel_rfl) (by kernel_rfl) (fun _ _ _ h => h) (by rfl) (by intro W; go_simp; with_reducible rfl) ?_; try simp only [Act.put, List.setIfInBounds_toArray, List.set_cons_zero, List.set_cons_succ]
  refine wpAnyZ_pure (Stands.steady (fun k => k = w.heap.size ∨ k = b)) 9 (v := ?_) rfl (by kernel_rfl) (by kernel_rfl) (by kernel_rfl) (fun _ _ _ h => h) (by rfl) (by intro W; go_simp; with_reducible rfl) ?_; try simp only [Act.put, List.setIfInBounds_toArray, List.set_cons_zero, List.set_cons_succ]
  refine wpAnyZ_loud 10 (by kernel_rfl) (by rfl) rfl (fun K hK => ?_)
  go_simp
  refine hK.out _ _ ?_
  clear hK K; try simp only [Act.put, List.setIfInBounds_toArray, List.set_cons_zero, List.set_cons_succ]
  refine wpAnyZ_done (by kernel_rfl) ?_ _
  simp only [OnlyNormal]
  obtain ⟨W8, hW8⟩ : ∃ W8, W8 = w9.setCell ⟨b, 1, none⟩ (Value.slice A9 (nr + 1) c9) := ⟨_, rfl⟩
  have hbE : b < w.heap.size := (HLTB.out b (.inl rfl)).1
  have hg9h : Hits (fun k => (Value.slice Ar nr cr).ownBlock = some k) W6 w9 := (Hits.later HL7.out).trans ((Hits.refl (fun k => (Value.slice Ar nr cr).ownBlock = some k) w7).grown HG9.out (fun g hg _ => hg)) (fun _ _ h => h)
  have hrE : ∀ k, (Value.slice Ar nr cr).ownBlock = some k → k < w.heap.size := fun k hk => (HLTB.out k (.inr (.inr (.inr hk)))).1
  have hh8 : Hits (· = b) w9 W8 := by rw [hW8]; exact (Hits.refl (· = b) w9).setCell (g := b) (fun _ => rfl) 1 _
  have hb8 : W8.heap[b]? = some (.cells #[.pointer (some ⟨t, 0, none⟩), Value.slice A9 (nr + 1) c9, .bool false] 86 (0, 0)) := by rw [hW8]; exact heap_setCell_same w9 b 1 _ _ _ HB9.out
  have hex8 := hh8.row (hg9h.row HEX6.out (fun h => by have := hrE _ h; omega)) (by omega)
  have hbx8 := hh8.row (hg9h.row HBX6.out (fun h => by have := hrE _ h; omega)) (by omega)
  have htp8 := (HTP6.out.hits hg9h (fun h => (HRT.out _ h).1 rfl) (fun k hk h => by
    rcases HNS3.out with h3 | ⟨g, h3, hg⟩
    · rw [h3] at hk; exact (HRT.out _ h).2.1 hk
    · rw [h3] at hk; injection hk with hk; have := hrE _ h; have := HS2.out; have := HZ1.out; omega)).hits hh8 (fun e => HBT.out e.symm) (fun k hk e => (HNV.out k hk).2.2 e)
  have hns9 : NS W6 (Value.slice Ar nr cr) (Value.slice A9 (nr + 1) c9) := NS.of_at HAT.out HL7.out.size
  have hor8 := hh8.own HO9.out (fun k hk e => by
    subst e
    exact hns9.ne (theap_lt HB6.out) (fun h => (HRT.out _ h).2.2 rfl) hk)
  have HS8 := hide_ (show W6.heap.size ≤ W8.heap.size from Nat.le_trans hg9h.size hh8.size)
  have HTOT8 := hide_ (show Hits (fun k => bFp b t v (.slice Ar nr cr) k ∨ w.heap.size ≤ k) w W8 from (HTOT.out.trans hg9h (fun k hk h => .inl (.inr (.inr (.inr h))))).trans hh8 (fun k hk h => .inl (.inl h)))
  have g8 := frozen_of_row _ _ 0 _ _ hex8
  have y8 := cell_of_row _ _ 0 _ _ (0, 0) hex8
  obtain ⟨W10, hW10⟩ : ∃ W10, W10 = W8.setCell ⟨w.heap.size + 1, 0, none⟩ (.int .i64 0) := ⟨_, rfl⟩
  have hh10 : Hits (· = w.heap.size + 1) W8 W10 := by rw [hW10]; exact (Hits.refl (· = w.heap.size + 1) W8).setCell (g := w.heap.size + 1) (fun _ => rfl) 0 _
  have hex10 : W10.heap[w.heap.size + 1]? = some (.cells #[.int .i64 0] 23 (0, 0)) := by rw [hW10]; exact heap_setCell_same W8 _ 0 _ _ _ hex8
  have hbx10 := hh10.row hbx8 (by omega)
  have hb10 := hh10.row hb8 (by omega)
  have hor10 := hh10.own hor8 (fun k hk e => by
    subst e
    exact hns9.ne (by have := HSZ6.out; have := HZ1.out; omega) (fun h => by have := hrE _ h; omega) hk)
  have htp10 := htp8.hits hh10 (by have := (HLTB.out t (.inr (.inl rfl))).1; omega) (fun k hk => (HNV.out k hk).2.1)
  obtain ⟨W11, hW11⟩ : ∃ W11, W11 = W10.setCell ⟨b, 2, none⟩ (.bool false) := ⟨_, rfl⟩
  have hh11 : Hits (· = b) W10 W11 := by rw [hW11]; exact (Hits.refl (· = b) W10).setCell (g := b) (fun _ => rfl) 2 _
  have hb11 : W11.heap[b]? = some (.cells #[.pointer (some ⟨t, 0, none⟩), Value.slice A9 (nr + 1) c9, .bool false] 86 (0, 0)) := by rw [hW11]; exact heap_setCell_same W10 b 2 _ _ _ hb10
  have hor11 := hh11.own hor10 (fun k hk e => by
    subst e
    exact hns9.ne (theap_lt HB6.out) (fun h => (HRT.out _ h).2.2 rfl) hk)
  have htp11 := htp10.hits hh11 (fun e => HBT.out e.symm) (fun k hk e => (HNV.out k hk).2.2 e)
  have hex11 := hh11.row hex10 (by omega)
  have HFIN := hide_ (show BookAt W11 B b t v3 (Value.slice A9 (nr + 1) c9) (used + n + 7) room from
    ⟨hb1, hb11, ⟨l0 ++ m, _, htp11, by rw [List.length_append]; have := HLU.out; have := HM1.out; omega⟩, nr + 1, xr ++ [x], hor11, by have := HNU.out; omega⟩)
  have HHFIN := hide_ (show Hits (bFp b t v (.slice Ar nr cr)) w W11 from ((HTOT8.out.trans hh10 (fun k hk h => .inr (by omega))).trans hh11 (fun k hk h => .inl (.inl h))).mono (fun k hk h => by rcases h with h | h; exact h; omega))
  have HNSF := hide_ (show NS w v v3 from by
    rcases HNS3.out with h | ⟨g, h, hg⟩
    · exact .inl h
    · exact .inr ⟨g, h, by have := HS2.out; have := HZ1.out; omega⟩)
  have HNSR := hide_ (show NS w (.slice Ar nr cr) (Value.slice A9 (nr + 1) c9) from by
    rcases hns9 with h | ⟨g, h, hg⟩
    · exact .inl h
    · exact .inr ⟨g, h, by have := HSZ6.out; have := HZ1.out; omega⟩)
  have HDF := hide_ (fun u => bdefer_any (u := u) (cell_of_row _ _ 0 _ _ (0, 0) hex10) (cell_of_row _ _ 0 _ _ (0, 0) hbx10) (cell_of_row _ _ 2 _ _ (0, 0) hb10) (frozen_of_row _ _ 2 _ _ hb10))
  have z11 := hide_ (cell_of_row _ _ 0 _ _ (0, 0) hex11)
  have HW8 := hide_ hW8.symm; have HW10 := hide_ hW10.symm; have HW11 := hide_ hW11.symm
  clear hh8 hb8 hex8 hbx8 htp8 hor8 hh10 hex10 hbx10 hb10 hor10 htp10 hh11 hb11 hor11 htp11 hex11 hns9 hW8 hW10 hW11 hg9h hrE hb7 hb90 k9 f9 hX6 hB6
  rw [HW8.out]
  go_wp2_with (rw [HW10.out])
  refine leaves_cons (f := 83) (args := #[.pointer (some ⟨w.heap.size + 1, 0, none⟩), .pointer (some ⟨w.heap.size, 0, none⟩)]) (by simp) (by simp [go_sem]) ?_
  refine (HDF.out .returning).mono ?_
  rintro e u' w'' ⟨rfl, rfl, rfl⟩
  rw [HW11.out]
  have z := z11.out
  refine ⟨.int .i64 0, by simp [results, Tryz.results64, go_sem, z], rfl, v3, _, HFIN.out, HHFIN.out, HNSF.out, HNSR.out⟩

end Go.Proofs.YtlgnnmpfipmjeaaGreat
