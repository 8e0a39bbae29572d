/-
  Texts of this seat in one: GDelR, GPush, GD0.
-/
import Derived.Test.YtcmollfhlillfaaGreatDoorM43
import Derived.Test.YtcmollfhlillfaaGreatDoorM44
import Derived.Test.YtcmollfhlillfaaGreatDoorM35
import Derived.Test.YtcmollfhlillfaaGreatDoorM42
/-
  The law's game: the referee answers.
-/
namespace Go.Proofs.YtcmollfhlillfaaGreatDoor
open Go.RowKit
set_option linter.unusedVariables false
set_option linter.unusedSimpArgs false
set_option maxHeartbeats 8000000 in
set_option maxRecDepth 100000 in
theorem deliver_res {w : World} {g : Nat} {d : Gm} {X : List Nat} (h : GmH w g d X) (hj : d.judged = [50]) {s0 : List Int} (hs : d.said = [s0]) (hm : d.mks = [(50, 0)]) (Ab : Option Addr) (cb : Nat)
    (hok : VerOk d.fr) (hgo : GoOk (verdictF d.fr 80 1050 [])) (hlen : (goOnF (verdictF d.fr 80 1050 [])).2.length ≤ 1000000) (hnd : d.fr.node = 60) (hep : d.fr.epoch = 300) (hsd : SendOk d (joinL (verdictF d.fr 80 1050 [], [])).2) :
    Calls Tryz.prog 23 #[.pointer (some ⟨g, 0, none⟩), .agg #[.int .i64 3, .int .i64 60, .int .i64 80, .int .i64 300, .int .i64 50, .int .i64 1050, .int .i64 0, .slice Ab 0 cb]] w (TSPost w g X { d with judged := [1050], said := [[]] } (joinL (verdictF d.fr 80 1050 [], [])).1 (joinL (verdictF d.fr 80 1050 [], [])).2) := by
  have HXLT := hide_ h.lt
  have HH := hide_ h
  obtain ⟨c, hat, hX⟩ := h
  obtain ⟨Wm, hW⟩ : ∃ Wm, Wm = (w.alloc (.cells #[.int .i64 3, .int .i64 60, .int .i64 80, .int .i64 300, .int .i64 50, .int .i64 1050, .int .i64 0, .slice Ab 0 cb] 53)).alloc (.cells #[.int .i64 0, .int .i64 80, .int .i64 60, .int .i64 300, .int .i64 0, .int .i64 0, .int .i64 0, .slice none 0 0] 53) := ⟨_, rfl⟩
  have hl : Later w Wm := by rw [hW]; exact (later_alloc _ _).al _
  have hbr : Wm.heap[w.heap.size]? = some (.cells #[.int .i64 3, .int .i64 60, .int .i64 80, .int .i64 300, .int .i64 50, .int .i64 1050, .int .i64 0, .slice Ab 0 cb] 53 (0, 0)) := by rw [hW]; exact row_al (heap_alloc_new _ _) _
  have hbk : Wm.heap[w.heap.size + 1]? = some (.cells #[.int .i64 0, .int .i64 80, .int .i64 60, .int .i64 300, .int .i64 0, .int .i64 0, .int .i64 0, .slice none 0 0] 53 (0, 0)) := by rw [hW]; exact row_new2 _ _ _
  have hat1 := hat.later hl
  have hgr := GmAt.cells hat1
  obtain ⟨Am, cm, hum⟩ : ∃ Am cm, c.um = .slice Am 1 cm := by
    obtain ⟨Am, cm, e2⟩ := slice_len (GmAt.p hat1).mks
    injection e2 with e2
    rw [hm] at e2
    exact ⟨Am, cm, e2⟩
  unfold gmRow at hgr
  rw [hum] at hgr
  have glt := theap_lt hgr
  have blt := theap_lt hbr
  have klt := theap_lt hbk
  have HB := hide_ hbr; have HK := hide_ hbk; have HW := hide_ hW; have HL := hide_ hl; have HX := hide_ hX; have HOK := hide_ hok; have HGO := hide_ hgo; have HLEN := hide_ hlen; have HND := hide_ hnd; have HEP := hide_ hep; have HSD := hide_ hsd; have HJ := hide_ hj; have HS := hide_ hs; have HM := hide_ hm
  have z0 : Wm.cell? ⟨w.heap.size, 0, none⟩ = some (.int .i64 3) := cell_of_row _ _ 0 _ _ (0, 0) hbr
  have z2 : Wm.cell? ⟨w.heap.size, 2, none⟩ = some (.int .i64 80) := cell_of_row _ _ 2 _ _ (0, 0) hbr
  have k0 := later_drew_cell z0
  have k2 := later_drew_cell z2
  have g7 := later_drew_cell (show Wm.cell? ⟨g, 7, none⟩ = some (.slice Am 1 cm) from cell_of_row _ _ 7 _ _ (0, 0) hgr)
  clear hat hat1 hX hW hl hbr hbk hgr hok hgo hlen hnd hep hsd hj hs hm hum
  go_enter Tryz.func23, Tryz.ntmps23
  go_wp2_with (rw [← HW.out])
  refine wp_region_k (by kernel_rfl) ?_
  refine wKt 0 (v := ?_) rfl (by intro W hSw; go_simp; with_reducible rfl) ?_; try simp only [Act.put, qA, qZ, qS]
  refine wKt 1 (v := ?_) rfl (by intro W hSw; go_simp; with_reducible rfl) ?_; try simp only [Act.put, qA, qZ, qS]
  refine wKt 2 (v := ?_) rfl (by intro W hSw; go_simp; with_reducible rfl) ?_; try simp only [Act.put, qA, qZ, qS]
  refine wKt 3 (v := ?_) rfl (by intro W hSw; go_simp; with_reducible rfl) ?_; try simp only [Act.put, qA, qZ, qS]
  refine wKt 4 (v := ?_) rfl (by intro W hSw; go_simp; with_reducible rfl) ?_; try simp only [Act.put, qA, qZ, qS]
  refine wKt 5 (v := ?_) rfl (by intro W hSw; go_simp; with_reducible rfl) ?_; try simp only [Act.put, qA, qZ, qS]
  refine wKt 6 (v := ?_) rfl (by intro W hSw; go_simp; with_reducible rfl) ?_; try simp only [Act.put, qA, qZ, qS]
  refine wKt 7 (v := ?_) rfl (by intro W hSw; go_simp; with_reducible rfl) ?_; try simp only [Act.put, qA, qZ, qS]
  refine wKt 8 (v := ?_) rfl (by intro W hSw; go_simp; with_reducible rfl) ?_; try simp only [Act.put, qA, qZ, qS]
  refine wKt 9 (v := ?_) rfl (by intro W hSw; go_simp; with_reducible rfl) ?_; try simp only [Act.put, qA, qZ, qS]
  refine wKt 10 (v := ?_) rfl (by intro W hSw; go_simp; with_reducible rfl) ?_; try simp only [Act.put, qA, qZ, qS]
  refine wKt 11 (v := ?_) rfl (by intro W hSw; go_simp; with_reducible rfl) ?_; try simp only [Act.put, qA, qZ, qS]
  refine wKt 12 (v := ?_) rfl (by intro W hSw; go_simp; with_reducible rfl) ?_; try simp only [Act.put, qA, qZ, qS]
  refine wKt 13 (v := ?_) rfl (by intro W hSw; go_simp; with_reducible rfl) ?_; try simp only [Act.put, qA, qZ, qS]
  refine wKt 14 (v := ?_) rfl (by intro W hSw; go_simp; with_reducible rfl) ?_; try simp only [Act.put, qA, qZ, qS]
  refine wKt 15 (v := ?_) rfl (by intro W hSw; go_simp; with_reducible rfl) ?_; try simp only [Act.put, qA, qZ, qS]
  refine wKt 16 (v := ?_) rfl (by intro W hSw; go_simp; with_reducible rfl) ?_; try simp only [Act.put, qA, qZ, qS]
  refine wKt 17 (v := ?_) rfl (by intro W hSw; go_simp; with_reducible rfl) ?_; try simp only [Act.put, qA, qZ, qS]
  refine wKt 18 (v := ?_) rfl (by intro W hSw; go_simp; with_reducible rfl) ?_; try simp only [Act.put, qA, qZ, qS]
  refine wKt 19 (v := ?_) rfl (by intro W hSw; go_simp; with_reducible rfl) ?_; try simp only [Act.put, qA, qZ, qS]
  refine wpAnyK_done (by kernel_rfl) ?_ _
  clear z0 z2 k0 k2 g7 glt blt klt
  obtain ⟨W1, hV⟩ : ∃ V, V = Wm.drew := ⟨_, rfl⟩
  have hld := (Later.refl Wm).dr
  rw [← hV] at hld ⊢
  have HB := hide_ (later_row hld HB.out)
  have HK := hide_ (later_row hld HK.out)
  have HL := hide_ (HL.out.trans hld)
  have HJC := hide_ (gjudge_nil (HH.out.later HL.out) HJ.out HS.out HM.out Ab cb)
  have z0 : W1.cell? ⟨w.heap.size, 0, none⟩ = some (.int .i64 3) := cell_of_row _ _ 0 _ _ (0, 0) HB.out
  have z1 : W1.cell? ⟨w.heap.size, 1, none⟩ = some (.int .i64 60) := cell_of_row _ _ 1 _ _ (0, 0) HB.out
  have z2 : W1.cell? ⟨w.heap.size, 2, none⟩ = some (.int .i64 80) := cell_of_row _ _ 2 _ _ (0, 0) HB.out
  have z3 : W1.cell? ⟨w.heap.size, 3, none⟩ = some (.int .i64 300) := cell_of_row _ _ 3 _ _ (0, 0) HB.out
  have z4 : W1.cell? ⟨w.heap.size, 4, none⟩ = some (.int .i64 50) := cell_of_row _ _ 4 _ _ (0, 0) HB.out
  have z5 : W1.cell? ⟨w.heap.size, 5, none⟩ = some (.int .i64 1050) := cell_of_row _ _ 5 _ _ (0, 0) HB.out
  have z6 : W1.cell? ⟨w.heap.size, 6, none⟩ = some (.int .i64 0) := cell_of_row _ _ 6 _ _ (0, 0) HB.out
  have z7 : W1.cell? ⟨w.heap.size, 7, none⟩ = some (.slice Ab 0 cb) := cell_of_row _ _ 7 _ _ (0, 0) HB.out
  have blt := theap_lt HB.out
  have klt := theap_lt HK.out
  clear hV hld
  go_wp2_with fail
  refine HJC.out.mono ?_
  rintro e w5 ⟨rfl, X5, hg5, hh5, hf5⟩
  have hb5 := hh5.row HB.out (fun hx => by have h1 := HXLT.out _ hx; omega)
  have hk5 := hh5.row HK.out (fun hx => by have h1 := HXLT.out _ hx; omega)
  have HB5 := hide_ hb5; have HK5 := hide_ hk5; have HG5 := hide_ hg5
  have HH5 := hide_ (show Hits (· ∈ X) w w5 from (Hits.later HL.out).trans hh5 fun _ _ h => h)
  have HF5 := hide_ (show ∀ k ∈ X5, k ∈ X ∨ W1.heap.size ≤ k from hf5)
  have HW1S := hide_ (show w.heap.size + 2 ≤ W1.heap.size by omega)
  clear z0 z1 z2 z3 z4 z5 z6 z7 blt klt hg5 hh5 hf5 HJC HB HK
  have k5 := Stands.cell (X := fun q => q = w.heap.size) (show w5.cell? ⟨w.heap.size, 5, none⟩ = some (.int .i64 1050) from cell_of_row _ _ 5 _ _ (0, 0) hb5) rfl
  have y0 : w5.cell? ⟨w.heap.size + 1, 0, none⟩ = some (.int .i64 0) := cell_of_row _ _ 0 _ _ (0, 0) hk5
  have y4 : w5.cell? ⟨w.heap.size + 1, 4, none⟩ = some (.int .i64 0) := cell_of_row _ _ 4 _ _ (0, 0) hk5
  have f0 := frozen_of_row _ _ 0 _ _ hk5
  have f4 := frozen_of_row _ _ 4 _ _ hk5
  have f0' : w5.drew.frozen? ⟨w.heap.size + 1, 0, none⟩ = false := f0
  have f4' : w5.drew.frozen? ⟨w.heap.size + 1, 4, none⟩ = false := f4
  have blt := theap_lt hb5
  have klt := theap_lt hk5
  have hne : ¬ w.heap.size + 1 = w.heap.size := by omega
  clear hb5 hk5
  go_wp2_with fail
  refine wp_region_z (R := Stands (fun q => q = w.heap.size)) [] (by kernel_rfl) ?_
  refine wpAnyZ_take0 (Stands.steady (fun q => q = w.heap.size)) 0 (v := ?_) rfl (by kernel_rfl) (by kernel_rfl) (by kernel_rfl) (fun _ _ _ h => h) (by rfl) (by intro W hSw; go_simp; with_reducible rfl) ?_; try simp only [Act.put, qA, qZ, qS]
  refine wpAnyZ_take0 (Stands.steady (fun q => q = w.heap.size)) 1 (v := ?_) rfl (by kernel_rfl) (by kernel_rfl) (by kernel_rfl) (fun _ _ _ h => h) (by rfl) (by intro W hSw; have hS0 := Stands.trans (show Stands (fun q => q = w.heap.size) w5 _ from by repeat first | with_reducible assumption | with_reducible exact Stands.refl _ _ | with_reducible refine Stands.alloc ?_ _ | with_reducible refine Stands.drew ?_ | with_reducible refine Stands.drewL ?_ | with_reducible refine Stands.setCell ?_ (by assumption) _ _ | assumption | refine Stands.trans ?_ (by assumption)) hSw; go_simp; with_reducible rfl) ?_; try simp only [Act.put, qA, qZ, qS]
  refine wpAnyZ_take0 (Stands.steady (fun q => q = w.heap.size)) 2 (v := ?_) rfl (by kernel_rfl) (by kernel_rfl) (by kernel_rfl) (fun _ _ _ h => h) (by rfl) (by intro W hSw; go_simp; with_reducible rfl) ?_; try simp only [Act.put, qA, qZ, qS]
  refine wpAnyZ_one 3 (by kernel_rfl) rfl (fun K hK => ?_)
  go_simp
  refine hK.out _ _ (by repeat first | with_reducible assumption | with_reducible exact Stands.refl _ _ | with_reducible refine Stands.alloc ?_ _ | with_reducible refine Stands.drew ?_ | with_reducible refine Stands.drewL ?_ | with_reducible refine Stands.setCell ?_ (by assumption) _ _ | assumption | refine Stands.of_later ?_) ?_
  clear hK K; try simp only [Act.put, qA, qZ, qS]
  refine wpAnyZ_take0 (Stands.steady (fun q => q = w.heap.size)) 4 (v := ?_) rfl (by kernel_rfl) (by kernel_rfl) (by kernel_rfl) (fun _ _ _ h => h) (by rfl) (by intro W hSw; go_simp; with_reducible rfl) ?_; try simp only [Act.put, qA, qZ, qS]
  refine wpAnyZ_one 5 (by kernel_rfl) rfl (fun K hK => ?_)
  go_simp
  refine hK.out _ _ (by repeat first | with_reducible assumption | with_reducible exact Stands.refl _ _ | with_reducible refine Stands.alloc ?_ _ | with_reducible refine Stands.drew ?_ | with_reducible refine Stands.drewL ?_ | with_reducible refine Stands.setCell ?_ (by assumption) _ _ | assumption | refine Stands.of_later ?_) ?_
  clear hK K; try simp only [Act.put, qA, qZ, qS]
  refine wpAnyZ_done (by kernel_rfl) ?_ _
  obtain ⟨W8, hW8⟩ : ∃ V, V = ((w5.setCell ⟨w.heap.size + 1, 0, none⟩ (.int .i64 4)).setCell ⟨w.heap.size + 1, 4, none⟩ (.int .i64 1050)).drew := ⟨_, rfl⟩
  have hhb : Hits (· = w.heap.size + 1) w5 W8 := by rw [hW8]; exact (((Hits.refl (· = w.heap.size + 1) w5).setCell (g := w.heap.size + 1) (fun _ => rfl) 0 _).setCell (g := w.heap.size + 1) (fun _ => rfl) 4 _).thenLater (Later.refl _).dr
  have HNX := hide_ (show w.heap.size + 1 ∉ X5 from fun hm => by
    rcases HF5.out _ hm with h1 | h1
    · have := HXLT.out _ h1; omega
    · have := HW1S.out; omega)
  have HNZ := hide_ (show w.heap.size + 1 ∉ d.wz from fun hm => by have := (HH.out.zlt _ hm).2; omega)
  obtain ⟨c5, hat8, hX5⟩ := HG5.out.frame hhb (fun k hk e => HNX.out (e ▸ hk)) fun k hk e => HNZ.out (e ▸ hk)
  have hk8 : W8.heap[w.heap.size + 1]? = some (.cells #[.int .i64 4, .int .i64 80, .int .i64 60, .int .i64 300, .int .i64 1050, .int .i64 0, .int .i64 0, .slice none 0 0] 53 (0, 0)) := by
    rw [hW8]; exact later_row (Later.refl _).dr (heap_setCell_same _ _ 4 _ _ (.int .i64 1050) (heap_setCell_same w5 _ 0 _ _ (.int .i64 4) HK5.out))
  have hb8 := hhb.row HB5.out (by omega)
  have HH8 := hide_ (show Hits (· ∈ X) w W8 from HH5.out.trans (hhb.mono (G := fun k => w.heap.size ≤ k) fun k _ h => by omega) (fun i hi h => by omega))
  rw [← hW8]
  have hgr8 := GmAt.cells hat8
  obtain ⟨gs, cs, Au, cu, hus, hsc⟩ : ∃ gs cs Au cu, c5.us = .slice (some ⟨gs, 0, none⟩) 1 cs ∧ W8.cell? ⟨gs, 0, none⟩ = some (.slice Au 0 cu) := by
    obtain ⟨As, cs, e2⟩ := slice_len (GmAt.p hat8).said
    injection e2 with e2
    have h3 := (GmAt.p hat8).said
    rw [e2] at h3
    obtain ⟨_, gs, cells, _, eA, hcl, hin⟩ := slice_cells h3 (i := 0) (el := ([] : List Int)) rfl (by decide)
    obtain ⟨Au, cu, eu⟩ := slice_len hin
    subst eu
    subst eA
    exact ⟨gs, cs, Au, cu, e2, hcl 0 _ rfl⟩
  unfold gmRow at hgr8
  rw [hus] at hgr8
  have g9 := Stands.cell (X := fun q => q = g ∨ q = gs ∨ q = w.heap.size) (show W8.cell? ⟨g, 9, none⟩ = some (.slice (some ⟨gs, 0, none⟩) 1 cs) from cell_of_row _ _ 9 _ _ (0, 0) hgr8) (.inl rfl)
  have s0' := Stands.cell (X := fun q => q = g ∨ q = gs ∨ q = w.heap.size) hsc (.inr (.inl rfl))
  have k2 := Stands.cell (X := fun q => q = g ∨ q = gs ∨ q = w.heap.size) (show W8.cell? ⟨w.heap.size, 2, none⟩ = some (.int .i64 80) from cell_of_row _ _ 2 _ _ (0, 0) hb8) (.inr (.inr rfl))
  have hw0 : IntKind.i64.wrap 0 = 0 := rfl
  have glt := theap_lt hgr8
  have slt := cell_lt hsc
  have blt := theap_lt hb8
  have klt := theap_lt hk8
  have HK8 := hide_ hk8; have HA8 := hide_ hat8; have HX5 := hide_ hX5
  clear hW8 hhb hk8 hb8 hat8 hX5 hgr8 hus hsc k5 y0 y4 f0 f4 f0' f4'
  go_wp2_with fail
  refine wp_region_z (R := Stands (fun q => q = g ∨ q = gs ∨ q = w.heap.size)) [14] (by kernel_rfl) ?_
  refine wpAnyZ_pure (Stands.steady (fun q => q = g ∨ q = gs ∨ q = w.heap.size)) 0 (v := ?_) rfl (by kernel_rfl) (by kernel_rfl) (by kernel_rfl) (fun _ _ _ h => h) (by rfl) (by intro W; go_simp; with_reducible rfl) ?_; try simp only [Act.put, qA, qZ, qS]
  refine wpAnyZ_pure (Stands.steady (fun q => q = g ∨ q = gs ∨ q = w.heap.size)) 1 (v := ?_) rfl (by kernel_rfl) (by kernel_rfl) (by kernel_rfl) (fun _ _ _ h => h) (by rfl) (by intro W; go_simp; with_reducible rfl) ?_; try simp only [Act.put, qA, qZ, qS]
  refine wpAnyZ_pure (Stands.steady (fun q => q = g ∨ q = gs ∨ q = w.heap.size)) 2 (v := ?_) rfl (by kernel_rfl) (by kernel_rfl) (by kernel_rfl) (fun _ _ _ h => h) (by rfl) (by intro W; go_simp; with_reducible rfl) ?_; try simp only [Act.put, qA, qZ, qS]
  refine wpAnyZ_take (Stands.steady (fun q => q = g ∨ q = gs ∨ q = w.heap.size)) 3 (v := ?_) rfl (by kernel_rfl) (by kernel_rfl) (by kernel_rfl) (by kernel_rfl) (fun _ _ _ h => h) (by rfl) (by intro W hSw; have hS0 := Stands.trans (show Stands (fun q => q = g ∨ q = gs ∨ q = w.heap.size) W8 _ from by repeat first | with_reducible assumption | with_reducible exact Stands.refl _ _ | with_reducible refine Stands.alloc ?_ _ | with_reducible refine Stands.drew ?_ | with_reducible refine Stands.drewL ?_ | with_reducible refine Stands.setCell ?_ (by assumption) _ _ | assumption | refine Stands.trans ?_ (by assumption)) hSw; go_simp; with_reducible rfl) ?_; try simp only [Act.put, qA, qZ, qS]
  refine wpAnyZ_pure (Stands.steady (fun q => q = g ∨ q = gs ∨ q = w.heap.size)) 4 (v := ?_) rfl (by kernel_rfl) (by kernel_rfl) (by kernel_rfl) (fun _ _ _ h => h) (by rfl) (by intro W; go_simp; with_reducible rfl) ?_; try simp only [Act.put, qA, qZ, qS]
  refine wpAnyZ_take (Stands.steady (fun q => q = g ∨ q = gs ∨ q = w.heap.size)) 5 (v := ?_) rfl (by kernel_rfl) (by kernel_rfl) (by kernel_rfl) (by kernel_rfl) (fun _ _ _ h => h) (by rfl) (by intro W hSw; have hS0 := Stands.trans (show Stands (fun q => q = g ∨ q = gs ∨ q = w.heap.size) W8 _ from by repeat first | with_reducible assumption | with_reducible exact Stands.refl _ _ | with_reducible refine Stands.alloc ?_ _ | with_reducible refine Stands.drew ?_ | with_reducible refine Stands.drewL ?_ | with_reducible refine Stands.setCell ?_ (by assumption) _ _ | assumption | refine Stands.trans ?_ (by assumption)) hSw; go_simp; with_reducible rfl) ?_; try simp only [Act.put, qA, qZ, qS]
  refine wpAnyZ_take (Stands.steady (fun q => q = g ∨ q = gs ∨ q = w.heap.size)) 6 (v := ?_) rfl (by kernel_rfl) (by kernel_rfl) (by kernel_rfl) (by kernel_rfl) (fun _ _ _ h => h) (by rfl) (by intro W hSw; have hS0 := Stands.trans (show Stands (fun q => q = g ∨ q = gs ∨ q = w.heap.size) W8 _ from by repeat first | with_reducible assumption | with_reducible exact Stands.refl _ _ | with_reducible refine Stands.alloc ?_ _ | with_reducible refine Stands.drew ?_ | with_reducible refine Stands.drewL ?_ | with_reducible refine Stands.setCell ?_ (by assumption) _ _ | assumption | refine Stands.trans ?_ (by assumption)) hSw; go_simp; with_reducible rfl) ?_; try simp only [Act.put, qA, qZ, qS]
  refine wpAnyZ_pure (Stands.steady (fun q => q = g ∨ q = gs ∨ q = w.heap.size)) 7 (v := ?_) rfl (by kernel_rfl) (by kernel_rfl) (by kernel_rfl) (fun _ _ _ h => h) (by rfl) (by intro W; go_simp; with_reducible rfl) ?_; try simp only [Act.put, qA, qZ, qS]
  refine wpAnyZ_take (Stands.steady (fun q => q = g ∨ q = gs ∨ q = w.heap.size)) 8 (v := ?_) rfl (by kernel_rfl) (by kernel_rfl) (by kernel_rfl) (by kernel_rfl) (fun _ _ _ h => h) (by rfl) (by intro W hSw; have hS0 := Stands.trans (show Stands (fun q => q = g ∨ q = gs ∨ q = w.heap.size) W8 _ from by repeat first | with_reducible assumption | with_reducible exact Stands.refl _ _ | with_reducible refine Stands.alloc ?_ _ | with_reducible refine Stands.drew ?_ | with_reducible refine Stands.drewL ?_ | with_reducible refine Stands.setCell ?_ (by assumption) _ _ | assumption | refine Stands.trans ?_ (by assumption)) hSw; go_simp; with_reducible rfl) ?_; try simp only [Act.put, qA, qZ, qS]
  refine wpAnyZ_one 9 (by kernel_rfl) rfl (fun K hK => ?_)
  go_simp
  refine lnums_nil.mono ?_; rintro e w10 ⟨bN, rfl, hbN, hbNs, hl10⟩; have hs10 : Stands (fun q => q = g ∨ q = gs ∨ q = w.heap.size) _ w10 := Stands.of_later hl10; have hk10 := later_row ((Later.refl W8).dr.trans hl10) HK8.out; have y10 := cell_of_row _ _ 7 _ _ (0, 0) hk10; have f10 := frozen_of_row _ _ 7 _ _ hk10
  refine hK.out _ _ (by repeat first | with_reducible assumption | with_reducible exact Stands.refl _ _ | with_reducible refine Stands.alloc ?_ _ | with_reducible refine Stands.drew ?_ | with_reducible refine Stands.drewL ?_ | with_reducible refine Stands.setCell ?_ (by assumption) _ _ | assumption | refine Stands.of_later ?_) ?_
  clear hK K; try simp only [Act.put, qA, qZ, qS]
  refine wpAnyZ_pure (Stands.steady (fun q => q = g ∨ q = gs ∨ q = w.heap.size)) 10 (v := ?_) rfl (by kernel_rfl) (by kernel_rfl) (by kernel_rfl) (fun _ _ _ h => h) (by rfl) (by intro W; go_simp; with_reducible rfl) ?_; try simp only [Act.put, qA, qZ, qS]
  refine wpAnyZ_pure (Stands.steady (fun q => q = g ∨ q = gs ∨ q = w.heap.size)) 11 (v := ?_) rfl (by kernel_rfl) (by kernel_rfl) (by kernel_rfl) (fun _ _ _ h => h) (by rfl) (by intro W; go_simp; with_reducible rfl) ?_; try simp only [Act.put, qA, qZ, qS]
  refine wpAnyZ_pure (Stands.steady (fun q => q = g ∨ q = gs ∨ q = w.heap.size)) 12 (v := ?_) rfl (by kernel_rfl) (by kernel_rfl) (by kernel_rfl) (fun _ _ _ h => h) (by rfl) (by intro W; go_simp; with_reducible rfl) ?_; try simp only [Act.put, qA, qZ, qS]
  refine wpAnyZ_pure (Stands.steady (fun q => q = g ∨ q = gs ∨ q = w.heap.size)) 13 (v := ?_) rfl (by kernel_rfl) (by kernel_rfl) (by kernel_rfl) (fun _ _ _ h => h) (by rfl) (by intro W; go_simp; with_reducible rfl) ?_; try simp only [Act.put, qA, qZ, qS]
  refine wpAnyZ_loud 14 (by kernel_rfl) (by rfl) rfl (fun K hK => ?_)
  go_simp
  refine hK.out _ _ ?_
  clear hK K; try simp only [Act.put, qA, qZ, qS]
  refine wpAnyZ_done (by kernel_rfl) ?_ _
  obtain ⟨W2, hW2⟩ : ∃ V, V = w10.setCell ⟨w.heap.size + 1, 7, none⟩ (.slice (some ⟨bN, 0, none⟩) 0 0) := ⟨_, rfl⟩
  have hl10' : Later W8 w10 := (Later.refl W8).dr.trans hl10
  have hhb : Hits (· = w.heap.size + 1) w10 W2 := by rw [hW2]; exact (Hits.refl (· = w.heap.size + 1) w10).setCell (g := w.heap.size + 1) (fun _ => rfl) 7 _
  have hX5 := HX5.out
  have hA2 : GmAt W2 g { d with judged := [1050], said := [[]] } c5 := (ObjAt.later HA8.out hl10').frame hhb (fun k hk e => HNX.out (by rw [HX5.out, ← e]; exact hk)) fun f hf k hk e => gm_ro (d := { d with judged := [1050], said := [[]] }) HNZ.out f hf (e ▸ hk)
  have HK2 := hide_ (show W2.heap[w.heap.size + 1]? = some (.cells #[.int .i64 4, .int .i64 80, .int .i64 60, .int .i64 300, .int .i64 1050, .int .i64 0, .int .i64 0, .slice (some ⟨bN, 0, none⟩) 0 0] 53 (0, 0)) by rw [hW2]; exact heap_setCell_same _ _ 7 _ _ _ hk10)
  have HH2 := hide_ (show Hits (· ∈ X) w W2 from (HH8.out.thenLater hl10').trans (hhb.mono (G := fun k => w.heap.size ≤ k) fun k _ h => by omega) (fun i hi h => by omega))
  have hbN2 : W2.heap[bN]? = some (.cells #[] 5 (0, 0)) := hhb.row hbN fun e => by
    have h1 := theap_lt HK8.out
    have h2 : W8.heap.size ≤ bN := hbNs
    omega
  have HBD := hide_ (show BodyAt W2.drew (some ⟨bN, 0, none⟩) 0 [] from ⟨Rd.nil _ _ _, Nat.le_refl _, by omega, by simp, fun h => (by cases h), fun a ha => by
    injection ha with ha
    subst ha
    exact ⟨_, _, later_row (Later.refl W2).dr hbN2⟩⟩)
  rw [← hW2]
  have hgr2 := GmAt.cells hA2
  unfold gmRow at hgr2
  have HX5 := hide_ hX5
  have k0 := Stands.cell (X := fun q => q = g ∨ q = w.heap.size + 1) (show W2.cell? ⟨g, 0, none⟩ = some (.pointer (some ⟨d.fb, 0, none⟩)) from cell_of_row _ _ 0 _ _ (0, 0) hgr2) (.inl rfl)
  have b0 := Stands.cell (X := fun q => q = g ∨ q = w.heap.size + 1) (show W2.cell? ⟨w.heap.size + 1, 0, none⟩ = some (.int .i64 4) from cell_of_row _ _ 0 _ _ (0, 0) HK2.out) (.inr rfl)
  have b1 := Stands.cell (X := fun q => q = g ∨ q = w.heap.size + 1) (show W2.cell? ⟨w.heap.size + 1, 1, none⟩ = some (.int .i64 80) from cell_of_row _ _ 1 _ _ (0, 0) HK2.out) (.inr rfl)
  have b2 := Stands.cell (X := fun q => q = g ∨ q = w.heap.size + 1) (show W2.cell? ⟨w.heap.size + 1, 2, none⟩ = some (.int .i64 60) from cell_of_row _ _ 2 _ _ (0, 0) HK2.out) (.inr rfl)
  have b3 := Stands.cell (X := fun q => q = g ∨ q = w.heap.size + 1) (show W2.cell? ⟨w.heap.size + 1, 3, none⟩ = some (.int .i64 300) from cell_of_row _ _ 3 _ _ (0, 0) HK2.out) (.inr rfl)
  have b4 := Stands.cell (X := fun q => q = g ∨ q = w.heap.size + 1) (show W2.cell? ⟨w.heap.size + 1, 4, none⟩ = some (.int .i64 1050) from cell_of_row _ _ 4 _ _ (0, 0) HK2.out) (.inr rfl)
  have b5 := Stands.cell (X := fun q => q = g ∨ q = w.heap.size + 1) (show W2.cell? ⟨w.heap.size + 1, 5, none⟩ = some (.int .i64 0) from cell_of_row _ _ 5 _ _ (0, 0) HK2.out) (.inr rfl)
  have b6 := Stands.cell (X := fun q => q = g ∨ q = w.heap.size + 1) (show W2.cell? ⟨w.heap.size + 1, 6, none⟩ = some (.int .i64 0) from cell_of_row _ _ 6 _ _ (0, 0) HK2.out) (.inr rfl)
  have b7 := Stands.cell (X := fun q => q = g ∨ q = w.heap.size + 1) (show W2.cell? ⟨w.heap.size + 1, 7, none⟩ = some (.slice (some ⟨bN, 0, none⟩) 0 0) from cell_of_row _ _ 7 _ _ (0, 0) HK2.out) (.inr rfl)
  have HAD := hide_ (ObjAt.later hA2 (Later.refl W2).dr)
  have HGF := hide_ (show g ∉ c5.Xf from (GmAt.part hA2 (i := 0) (x := c5.Xf) rfl).2.2)
  have HFL := hide_ (show w.heap.size + 1 ∉ c5.Xf from fun hm => HNX.out (by rw [HX5.out]; exact (GmAt.part hA2 (i := 0) (x := c5.Xf) rfl).2.1 _ hm))
  have HTK := hide_ (take_verdict (GmAt.p HAD.out).fr HOK.out (frm := 80) (a := 1050) (by unfold I64; decide) HGO.out HLEN.out HND.out HEP.out 0 0 HBD.out rfl)
  have glt2 := theap_lt hgr2
  have klt2 := theap_lt HK2.out
  clear hgr2 hA2 hX5 hhb hW2 hl10 hl10' hbN hbNs hbN2 hs10 hk10 y10 f10 glt slt blt klt g9 s0' k2
  go_wp2_with fail
  refine wp_region_z (R := Stands (fun q => q = g ∨ q = w.heap.size + 1)) [7] (by kernel_rfl) ?_
  refine wpAnyZ_pure (Stands.steady (fun q => q = g ∨ q = w.heap.size + 1)) 0 (v := ?_) rfl (by kernel_rfl) (by kernel_rfl) (by kernel_rfl) (fun _ _ _ h => h) (by rfl) (by intro W; go_simp; with_reducible rfl) ?_; try simp only [Act.put, qA, qZ, qS]
  refine wpAnyZ_pure (Stands.steady (fun q => q = g ∨ q = w.heap.size + 1)) 1 (v := ?_) rfl (by kernel_rfl) (by kernel_rfl) (by kernel_rfl) (fun _ _ _ h => h) (by rfl) (by intro W; go_simp; with_reducible rfl) ?_; try simp only [Act.put, qA, qZ, qS]
  refine wpAnyZ_pure (Stands.steady (fun q => q = g ∨ q = w.heap.size + 1)) 2 (v := ?_) rfl (by kernel_rfl) (by kernel_rfl) (by kernel_rfl) (fun _ _ _ h => h) (by rfl) (by intro W; go_simp; with_reducible rfl) ?_; try simp only [Act.put, qA, qZ, qS]
  refine wpAnyZ_pure (Stands.steady (fun q => q = g ∨ q = w.heap.size + 1)) 3 (v := ?_) rfl (by kernel_rfl) (by kernel_rfl) (by kernel_rfl) (fun _ _ _ h => h) (by rfl) (by intro W; go_simp; with_reducible rfl) ?_; try simp only [Act.put, qA, qZ, qS]
  refine wpAnyZ_take (Stands.steady (fun q => q = g ∨ q = w.heap.size + 1)) 4 (v := ?_) rfl (by kernel_rfl) (by kernel_rfl) (by kernel_rfl) (by kernel_rfl) (fun _ _ _ h => h) (by rfl) (by intro W hSw; have hS0 := Stands.trans (show Stands (fun q => q = g ∨ q = w.heap.size + 1) W2 _ from by repeat first | with_reducible assumption | with_reducible exact Stands.refl _ _ | with_reducible refine Stands.alloc ?_ _ | with_reducible refine Stands.drew ?_ | with_reducible refine Stands.drewL ?_ | with_reducible refine Stands.setCell ?_ (by assumption) _ _ | assumption | refine Stands.trans ?_ (by assumption)) hSw; go_simp; with_reducible rfl) ?_; try simp only [Act.put, qA, qZ, qS]
  refine wpAnyZ_take (Stands.steady (fun q => q = g ∨ q = w.heap.size + 1)) 5 (v := ?_) rfl (by kernel_rfl) (by kernel_rfl) (by kernel_rfl) (by kernel_rfl) (fun _ _ _ h => h) (by rfl) (by intro W hSw; have hS0 := Stands.trans (show Stands (fun q => q = g ∨ q = w.heap.size + 1) W2 _ from by repeat first | with_reducible assumption | with_reducible exact Stands.refl _ _ | with_reducible refine Stands.alloc ?_ _ | with_reducible refine Stands.drew ?_ | with_reducible refine Stands.drewL ?_ | with_reducible refine Stands.setCell ?_ (by assumption) _ _ | assumption | refine Stands.trans ?_ (by assumption)) hSw; go_simp; with_reducible rfl) ?_; try simp only [Act.put, qA, qZ, qS]
  refine wpAnyZ_one 6 (by kernel_rfl) rfl (fun K hK => ?_)
  go_simp
  refine HTK.out.mono ?_; rintro e w15 h15; obtain ⟨A5, n5, cc5, Y5, X15, rfl, hn5, hg15, hp5, hv5, hy5, hh15, hf15, hhx⟩ := GmAt.take HAD.out h15; have hs15 : Stands (fun q => q = g ∨ q = w.heap.size + 1) _ w15 := hhx.stands (fun k hk hF hX => by rcases hX with e | e; (exact HGF.out (e ▸ hF)); (exact HFL.out (e ▸ hF))); have HSN := hide_ (gsend_any hg15 hp5 hn5 hv5 hy5 HSD.out.all (by rw [← hn5]; exact HSD.out.n)); have HH15 := hide_ hh15; have HF15 := hide_ hf15; clear hhx hp5 hv5 hy5 h15 hg15
  refine hK.out _ _ (by repeat first | with_reducible assumption | with_reducible exact Stands.refl _ _ | with_reducible refine Stands.alloc ?_ _ | with_reducible refine Stands.drew ?_ | with_reducible refine Stands.drewL ?_ | with_reducible refine Stands.setCell ?_ (by assumption) _ _ | assumption | refine Stands.of_later ?_) ?_
  clear hK K; try simp only [Act.put, qA, qZ, qS]
  refine wpAnyZ_loud 7 (by kernel_rfl) (by rfl) rfl (fun K hK => ?_)
  go_simp
  refine HSN.out.mono ?_; rintro e w6 h6; obtain ⟨rfl, h6⟩ := h6
  refine hK.out _ _ ?_
  clear hK K; try simp only [Act.put, qA, qZ, qS]
  refine wpAnyZ_done (by kernel_rfl) ?_ _
  go_wp2_with fail
  go_returns
  rw [← HX5.out] at HH15 HF15
  exact TSPost.of (d := { d with judged := [1050], said := [[]] }) (w2 := w15) (X2 := X15) (Y := Y5) (turn_step (HH2.out.thenLater (Later.refl W2).dr) (fun k hk => (HF5.out k hk).imp id fun h => by have := HW1S.out; omega) HH15.out) (fun k hk => (HF15.out k hk).elim (fun h => (HF5.out k h).imp id fun h => by have := HW1S.out; omega) fun h => .inr (Nat.le_trans HH2.out.size h)) ⟨rfl, h6⟩

end Go.Proofs.YtcmollfhlillfaaGreatDoor
/-
  The law's game: push.
-/
namespace Go.Proofs.YtcmollfhlillfaaGreatDoor
open Go.RowKit
set_option linter.unusedVariables false
set_option linter.unusedSimpArgs false
def b1050 : Bch := ⟨50, 1050, 50, []⟩
theorem batT : ElemT Tryz.prog 42 91 4 48 := elem_mk (z := .agg #[.int .i64 0, .int .i64 0, .int .i64 0, .slice none 0 0]) Tryz.underlying42 (by kernel_rfl) rfl (by decide)
/-- The chest's number is set. -/
theorem tops_set {w : World} {g : Nat} {d : Gm} {c : GmC} (h : GmAt w g d c) {gt n ct : Nat} (hut : c.ut = .slice (some ⟨gt, 0, none⟩) n ct) (i : Nat) (x : Int) :
    GmAt (w.setCell ⟨gt, i, none⟩ (.int .i64 x)) g { d with tops := d.tops.set i x } c ∧ Hits (· ∈ g :: c.xs.flatten) w (w.setCell ⟨gt, i, none⟩ (.int .i64 x)) := by
  obtain ⟨v, e, ho, hx⟩ := ints_holds.1 h.p.tops
  injection e with e
  rw [← e, hut] at ho hx
  have hl : d.tops.length = n := by
    obtain ⟨_, _, e2⟩ := own_form ho
    injection e2 with _ e2 _; exact e2.symm
  rw [hl] at ho
  have ho2 := own_setAt ho i (.int .i64 x)
  rw [ints_set] at ho2
  have hpt := h.part (i := 8) (x := c.Xt) rfl
  have h1 := h.same 8 (x := c.Xt) (x' := c.Xt) (cc := [c.ut]) (f' := intsR.fld (d.tops.set i x)) (d' := { d with tops := d.tops.set i x }) (c' := c) rfl
    ((Hits.refl (· ∈ c.Xt) w).setCell (g := gt) (fun _ => by rw [hx]; simp [obL, Value.ownBlock]) i (.int .i64 x))
    (ints_holds.2 ⟨_, rfl, by rw [hut, List.length_set, hl]; exact ho2, by rw [hut]; exact hx⟩) hpt.1 (fun k hk => .inl hk) (fun k hk => by cases hk) rfl rfl rfl rfl
  exact ⟨h1.1, h1.2.1⟩
def PushedPost (w : World) (g : Nat) (X : List Nat) (d : Gm) (b0 : Nat) (e : Ending) (w' : World) : Prop := e = .returned (.tuple #[]) ∧ ∃ X', GmH w' g d X' ∧ Hits (· ∈ X) w w' ∧ ∀ k ∈ X', k ∈ X ∨ k = b0 ∨ w.heap.size ≤ k
set_option maxHeartbeats 8000000 in
set_option maxRecDepth 100000 in
theorem gpush_new {w : World} {g : Nat} {d : Gm} {X : List Nat} (h : GmH w g d X) {i : Nat} (ht : d.tops[i]? = some 50) (hbs : d.bats = []) {b0 : Nat} (hb : w.heap[b0]? = some (.cells #[] 142 (0, 0))) (hbX : b0 ∉ X) (hbZ : b0 ∉ d.wz) :
    Calls Tryz.prog 46 #[.pointer (some ⟨g, 0, none⟩), .int .i64 i, .agg #[.int .i64 50, .int .i64 1050, .int .i64 50, .slice (some ⟨b0, 0, none⟩) 0 0]] w (PushedPost w g X { d with tops := d.tops.set i 1050, bats := [b1050] } b0) := by
  have HXLT := hide_ h.lt
  obtain ⟨c, hat, hX⟩ := h
  obtain ⟨Wm, hW⟩ : ∃ Wm, Wm = w.alloc (.cells #[.int .i64 50, .int .i64 1050, .int .i64 50, .slice (some ⟨b0, 0, none⟩) 0 0] 91) := ⟨_, rfl⟩
  have hl : Later w Wm := by rw [hW]; exact later_alloc _ _
  have hbr : Wm.heap[w.heap.size]? = some (.cells #[.int .i64 50, .int .i64 1050, .int .i64 50, .slice (some ⟨b0, 0, none⟩) 0 0] 91 (0, 0)) := by rw [hW]; exact heap_alloc_new _ _
  have hat1 := hat.later hl
  have hgr := GmAt.cells hat1
  obtain ⟨v, e, ho, hx⟩ := ints_holds.1 (GmAt.p hat1).tops
  injection e with e
  obtain ⟨gt', ct, hv⟩ := own_form ho
  have hlt := (List.getElem?_eq_some_iff.1 ht).1
  obtain ⟨gt, orr, ev, l0⟩ := (Rd.of_own (show Wm.ownsRow 0 3 1 (.slice gt' d.tops.length ct) d.tops.length (ints d.tops) by rw [← hv]; exact ho)).int ht
  subst ev
  have horr : orr = 0 := by
    rcases ho.2 with ⟨e1, _⟩ | ⟨g2, _, _, e1, _⟩
    · rw [hv] at e1; cases e1
    · rw [hv] at e1; injection e1 with e1 _ _; injection e1 with e1; injection e1 with _ e1 _
  subst horr
  rw [Nat.zero_add] at l0
  obtain ⟨nt, hnt⟩ : ∃ nt, nt = d.tops.length := ⟨_, rfl⟩
  have hut : c.ut = .slice (some ⟨gt, 0, none⟩) nt ct := by rw [e, hv, hnt]
  unfold gmRow at hgr
  rw [hut] at hgr
  have q1 : (i : Int) < (nt : Int) := by omega
  have q2 : (0 : Int) ≤ (i : Int) := by omega
  have hgg : g ≠ gt := fun eg => by
    have h1 := (hat.part (i := 8) (x := c.Xt) rfl).2.2
    rw [hx, ← e, hut, eg] at h1
    exact h1 (by simp [obL, Value.ownBlock])
  have hub : ∃ Aa ca, c.ua = .slice Aa 0 ca := by
    obtain ⟨Aa, ca, e2⟩ := slice_len (GmAt.p hat1).bats
    injection e2 with e2
    rw [hbs] at e2
    exact ⟨Aa, ca, e2⟩
  obtain ⟨Aa, ca, hua⟩ := hub
  rw [hua] at hgr
  have glt := theap_lt hgr
  have tlt := cell_lt l0
  have blt := theap_lt hbr
  have HAT := hide_ hat1; have HB := hide_ hbr; have HGR := hide_ hgr; have HL0 := hide_ l0; have HW := hide_ hW; have HL := hide_ hl; have HUT := hide_ hut; have HUA := hide_ hua; have HX := hide_ hX; have HBS := hide_ hbs; have HBC := hide_ (later_row hl hb); have HBX := hide_ hbX; have HBZ := hide_ hbZ
  have k0 := later_drew_cell (show Wm.cell? ⟨w.heap.size, 0, none⟩ = some (.int .i64 50) from cell_of_row _ _ 0 _ _ (0, 0) hbr)
  have k1 := later_drew_cell (show Wm.cell? ⟨w.heap.size, 1, none⟩ = some (.int .i64 1050) from cell_of_row _ _ 1 _ _ (0, 0) hbr)
  have k2 := later_drew_cell (show Wm.cell? ⟨w.heap.size, 2, none⟩ = some (.int .i64 50) from cell_of_row _ _ 2 _ _ (0, 0) hbr)
  have g10 := later_drew_cell (show Wm.cell? ⟨g, 10, none⟩ = some (.slice (some ⟨gt, 0, none⟩) nt ct) from cell_of_row _ _ 10 _ _ (0, 0) hgr)
  have t0 := later_drew_cell l0
  clear hat hat1 hX hW hl hbr hgr e ho hx hv hut hua hbs hb hbX hbZ l0 ht hnt hlt
  go_enter Tryz.func46, Tryz.ntmps46
  go_wp2_with (rw [← HW.out])
  refine wp_region_k (by kernel_rfl) ?_
  refine wKt 0 (v := ?_) rfl (by intro W hSw; go_simp; with_reducible rfl) ?_; try simp only [Act.put, qA, qZ, qS]
  refine wKt 1 (v := ?_) rfl (by intro W hSw; go_simp; with_reducible rfl) ?_; try simp only [Act.put, qA, qZ, qS]
  refine wKt 2 (v := ?_) rfl (by intro W hSw; go_simp; with_reducible rfl) ?_; try simp only [Act.put, qA, qZ, qS]
  refine wKt 3 (v := ?_) rfl (by intro W hSw; go_simp; with_reducible rfl) ?_; try simp only [Act.put, qA, qZ, qS]
  refine wKt 4 (v := ?_) rfl (by intro W hSw; go_simp; with_reducible rfl) ?_; try simp only [Act.put, qA, qZ, qS]
  refine wKt 5 (v := ?_) rfl (by intro W hSw; go_simp; with_reducible rfl) ?_; try simp only [Act.put, qA, qZ, qS]
  refine wKt 6 (v := ?_) rfl (by intro W hSw; go_simp; with_reducible rfl) ?_; try simp only [Act.put, qA, qZ, qS]
  refine wKt 7 (v := ?_) rfl (by intro W hSw; go_simp; with_reducible rfl) ?_; try simp only [Act.put, qA, qZ, qS]
  refine wKt 8 (v := ?_) rfl (by intro W hSw; go_simp; with_reducible rfl) ?_; try simp only [Act.put, qA, qZ, qS]
  refine wKt 9 (v := ?_) rfl (by intro W hSw; go_simp; with_reducible rfl) ?_; try simp only [Act.put, qA, qZ, qS]
  refine wpAnyK_done (by kernel_rfl) ?_ _
  clear k0 k1 k2 g10 t0 glt tlt blt
  obtain ⟨W1, hW1⟩ : ∃ V, V = Wm.drew := ⟨_, rfl⟩
  have HB := hide_ (show W1.heap[w.heap.size]? = some (.cells #[.int .i64 50, .int .i64 1050, .int .i64 50, .slice (some ⟨b0, 0, none⟩) 0 0] 91 (0, 0)) by rw [hW1]; exact later_row (Later.refl Wm).dr HB.out)
  have HGR := hide_ (later_row (show Later Wm W1 by rw [hW1]; exact (Later.refl Wm).dr) HGR.out)
  have HL0 := hide_ (show W1.cell? ⟨gt, i, none⟩ = some (.int .i64 50) by rw [hW1]; exact ((Later.refl Wm).dr.cell (cell_lt HL0.out)).trans HL0.out)
  have HAT := hide_ (show GmAt W1 g d c by rw [hW1]; exact ObjAt.later HAT.out (Later.refl Wm).dr)
  have HBC := hide_ (show W1.heap[b0]? = some (.cells #[] 142 (0, 0)) by rw [hW1]; exact later_row (Later.refl Wm).dr HBC.out)
  have HL := hide_ (show Later w W1 by rw [hW1]; exact HL.out.trans (Later.refl Wm).dr)
  rw [← hW1]
  have glt := theap_lt HGR.out
  have tlt := cell_lt HL0.out
  have blt := theap_lt HB.out
  clear hW1
  have k0 := later_drew_cell (show W1.cell? ⟨w.heap.size, 0, none⟩ = some (.int .i64 50) from cell_of_row _ _ 0 _ _ (0, 0) HB.out)
  have k1 := later_drew_cell (show W1.cell? ⟨w.heap.size, 1, none⟩ = some (.int .i64 1050) from cell_of_row _ _ 1 _ _ (0, 0) HB.out)
  have k2 := later_drew_cell (show W1.cell? ⟨w.heap.size, 2, none⟩ = some (.int .i64 50) from cell_of_row _ _ 2 _ _ (0, 0) HB.out)
  have g10 := later_drew_cell (show W1.cell? ⟨g, 10, none⟩ = some (.slice (some ⟨gt, 0, none⟩) nt ct) from cell_of_row _ _ 10 _ _ (0, 0) HGR.out)
  have t0 := later_drew_cell HL0.out
  go_wp2_with fail
  refine wp_region_k (by kernel_rfl) ?_
  refine wKt 0 (v := ?_) rfl (by intro W hSw; go_simp; with_reducible rfl) ?_; try simp only [Act.put, qA, qZ, qS]
  refine wKt 1 (v := ?_) rfl (by intro W hSw; go_simp; with_reducible rfl) ?_; try simp only [Act.put, qA, qZ, qS]
  refine wKt 2 (v := ?_) rfl (by intro W hSw; go_simp; with_reducible rfl) ?_; try simp only [Act.put, qA, qZ, qS]
  refine wKt 3 (v := ?_) rfl (by intro W hSw; go_simp; with_reducible rfl) ?_; try simp only [Act.put, qA, qZ, qS]
  refine wKt 4 (v := ?_) rfl (by intro W hSw; go_simp; with_reducible rfl) ?_; try simp only [Act.put, qA, qZ, qS]
  refine wKt 5 (v := ?_) rfl (by intro W hSw; go_simp; with_reducible rfl) ?_; try simp only [Act.put, qA, qZ, qS]
  refine wKt 6 (v := ?_) rfl (by intro W hSw; go_simp; with_reducible rfl) ?_; try simp only [Act.put, qA, qZ, qS]
  refine wKt 7 (v := ?_) rfl (by intro W hSw; go_simp; with_reducible rfl) ?_; try simp only [Act.put, qA, qZ, qS]
  refine wKt 8 (v := ?_) rfl (by intro W hSw; go_simp; with_reducible rfl) ?_; try simp only [Act.put, qA, qZ, qS]
  refine wKt 9 (v := ?_) rfl (by intro W hSw; go_simp; with_reducible rfl) ?_; try simp only [Act.put, qA, qZ, qS]
  refine wKt 10 (v := ?_) rfl (by intro W hSw; go_simp; with_reducible rfl) ?_; try simp only [Act.put, qA, qZ, qS]
  refine wKt 11 (v := ?_) rfl (by intro W hSw; go_simp; with_reducible rfl) ?_; try simp only [Act.put, qA, qZ, qS]
  refine wKt 12 (v := ?_) rfl (by intro W hSw; go_simp; with_reducible rfl) ?_; try simp only [Act.put, qA, qZ, qS]
  refine wKt 13 (v := ?_) rfl (by intro W hSw; go_simp; with_reducible rfl) ?_; try simp only [Act.put, qA, qZ, qS]
  refine wKt 14 (v := ?_) rfl (by intro W hSw; go_simp; with_reducible rfl) ?_; try simp only [Act.put, qA, qZ, qS]
  refine wKt 15 (v := ?_) rfl (by intro W hSw; go_simp; with_reducible rfl) ?_; try simp only [Act.put, qA, qZ, qS]
  refine wKt 16 (v := ?_) rfl (by intro W hSw; go_simp; with_reducible rfl) ?_; try simp only [Act.put, qA, qZ, qS]
  refine wKt 17 (v := ?_) rfl (by intro W hSw; go_simp; with_reducible rfl) ?_; try simp only [Act.put, qA, qZ, qS]
  refine wKt 18 (v := ?_) rfl (by intro W hSw; go_simp; with_reducible rfl) ?_; try simp only [Act.put, qA, qZ, qS]
  refine wKt 19 (v := ?_) rfl (by intro W hSw; go_simp; with_reducible rfl) ?_; try simp only [Act.put, qA, qZ, qS]
  refine wKt 20 (v := ?_) rfl (by intro W hSw; go_simp; with_reducible rfl) ?_; try simp only [Act.put, qA, qZ, qS]
  refine wKt 21 (v := ?_) rfl (by intro W hSw; go_simp; with_reducible rfl) ?_; try simp only [Act.put, qA, qZ, qS]
  refine wKt 22 (v := ?_) rfl (by intro W hSw; go_simp; with_reducible rfl) ?_; try simp only [Act.put, qA, qZ, qS]
  refine wKt 23 (v := ?_) rfl (by intro W hSw; go_simp; with_reducible rfl) ?_; try simp only [Act.put, qA, qZ, qS]
  refine wKt 24 (v := ?_) rfl (by intro W hSw; go_simp; with_reducible rfl) ?_; try simp only [Act.put, qA, qZ, qS]
  refine wKt 25 (v := ?_) rfl (by intro W hSw; go_simp; with_reducible rfl) ?_; try simp only [Act.put, qA, qZ, qS]
  refine wKt 26 (v := ?_) rfl (by intro W hSw; go_simp; with_reducible rfl) ?_; try simp only [Act.put, qA, qZ, qS]
  refine wKt 27 (v := ?_) rfl (by intro W hSw; go_simp; with_reducible rfl) ?_; try simp only [Act.put, qA, qZ, qS]
  refine wKt 28 (v := ?_) rfl (by intro W hSw; go_simp; with_reducible rfl) ?_; try simp only [Act.put, qA, qZ, qS]
  refine wKt 29 (v := ?_) rfl (by intro W hSw; go_simp; with_reducible rfl) ?_; try simp only [Act.put, qA, qZ, qS]
  refine wKt 30 (v := ?_) rfl (by intro W hSw; go_simp; with_reducible rfl) ?_; try simp only [Act.put, qA, qZ, qS]
  refine wKt 31 (v := ?_) rfl (by intro W hSw; go_simp; with_reducible rfl) ?_; try simp only [Act.put, qA, qZ, qS]
  refine wKt 32 (v := ?_) rfl (by intro W hSw; go_simp; with_reducible rfl) ?_; try simp only [Act.put, qA, qZ, qS]
  refine wKt 33 (v := ?_) rfl (by intro W hSw; go_simp; with_reducible rfl) ?_; try simp only [Act.put, qA, qZ, qS]
  refine wKt 34 (v := ?_) rfl (by intro W hSw; go_simp; with_reducible rfl) ?_; try simp only [Act.put, qA, qZ, qS]
  refine wKt 35 (v := ?_) rfl (by intro W hSw; go_simp; with_reducible rfl) ?_; try simp only [Act.put, qA, qZ, qS]
  refine wKt 36 (v := ?_) rfl (by intro W hSw; go_simp; with_reducible rfl) ?_; try simp only [Act.put, qA, qZ, qS]
  refine wKt 37 (v := ?_) rfl (by intro W hSw; go_simp; with_reducible rfl) ?_; try simp only [Act.put, qA, qZ, qS]
  refine wKt 38 (v := ?_) rfl (by intro W hSw; go_simp; with_reducible rfl) ?_; try simp only [Act.put, qA, qZ, qS]
  refine wKt 39 (v := ?_) rfl (by intro W hSw; go_simp; with_reducible rfl) ?_; try simp only [Act.put, qA, qZ, qS]
  refine wpAnyK_done (by kernel_rfl) ?_ _
  clear k0 k1 k2 g10 t0 glt tlt blt
  obtain ⟨W2, hW1⟩ : ∃ V, V = W1.drew := ⟨_, rfl⟩
  have HB := hide_ (show W2.heap[w.heap.size]? = some (.cells #[.int .i64 50, .int .i64 1050, .int .i64 50, .slice (some ⟨b0, 0, none⟩) 0 0] 91 (0, 0)) by rw [hW1]; exact later_row (Later.refl W1).dr HB.out)
  have HGR := hide_ (later_row (show Later W1 W2 by rw [hW1]; exact (Later.refl W1).dr) HGR.out)
  have HL0 := hide_ (show W2.cell? ⟨gt, i, none⟩ = some (.int .i64 50) by rw [hW1]; exact ((Later.refl W1).dr.cell (cell_lt HL0.out)).trans HL0.out)
  have HAT := hide_ (show GmAt W2 g d c by rw [hW1]; exact ObjAt.later HAT.out (Later.refl W1).dr)
  have HBC := hide_ (show W2.heap[b0]? = some (.cells #[] 142 (0, 0)) by rw [hW1]; exact later_row (Later.refl W1).dr HBC.out)
  have HL := hide_ (show Later w W2 by rw [hW1]; exact HL.out.trans (Later.refl W1).dr)
  rw [← hW1]
  have glt := theap_lt HGR.out
  have tlt := cell_lt HL0.out
  have blt := theap_lt HB.out
  clear hW1
  have k1 := Stands.cell (X := fun q => q = g ∨ q = gt ∨ q = w.heap.size) (show W2.cell? ⟨w.heap.size, 1, none⟩ = some (.int .i64 1050) from cell_of_row _ _ 1 _ _ (0, 0) HB.out) (.inr (.inr rfl))
  have g10 := Stands.cell (X := fun q => q = g ∨ q = gt ∨ q = w.heap.size) (show W2.cell? ⟨g, 10, none⟩ = some (.slice (some ⟨gt, 0, none⟩) nt ct) from cell_of_row _ _ 10 _ _ (0, 0) HGR.out) (.inl rfl)
  have t0 := Stands.cell (X := fun q => q = g ∨ q = gt ∨ q = w.heap.size) HL0.out (.inr (.inl rfl))
  have tf : W2.frozen? ⟨gt, i, none⟩ = false := by
    obtain ⟨v, e, ho, hx⟩ := ints_holds.1 (GmAt.p HAT.out).tops
    injection e with e
    rw [HUT.out] at e
    exact frozen_own ho (by rw [← e]; rfl) i
  have tc := HL0.out
  have tf2 : W2.drew.frozen? ⟨gt, i, none⟩ = false := tf
  go_wp2_with fail
  refine wp_region_z (R := Stands (fun q => q = g ∨ q = gt ∨ q = w.heap.size)) [8] (by kernel_rfl) ?_
  refine wpAnyZ_pure (Stands.steady (fun q => q = g ∨ q = gt ∨ q = w.heap.size)) 0 (v := ?_) rfl (by kernel_rfl) (by kernel_rfl) (by kernel_rfl) (fun _ _ _ h => h) (by rfl) (by intro W; go_simp; with_reducible rfl) ?_; try simp only [Act.put, qA, qZ, qS]
  refine wpAnyZ_pure (Stands.steady (fun q => q = g ∨ q = gt ∨ q = w.heap.size)) 1 (v := ?_) rfl (by kernel_rfl) (by kernel_rfl) (by kernel_rfl) (fun _ _ _ h => h) (by rfl) (by intro W; go_simp; with_reducible rfl) ?_; try simp only [Act.put, qA, qZ, qS]
  refine wpAnyZ_pure (Stands.steady (fun q => q = g ∨ q = gt ∨ q = w.heap.size)) 2 (v := ?_) rfl (by kernel_rfl) (by kernel_rfl) (by kernel_rfl) (fun _ _ _ h => h) (by rfl) (by intro W; go_simp; with_reducible rfl) ?_; try simp only [Act.put, qA, qZ, qS]
  refine wpAnyZ_take (Stands.steady (fun q => q = g ∨ q = gt ∨ q = w.heap.size)) 3 (v := ?_) rfl (by kernel_rfl) (by kernel_rfl) (by kernel_rfl) (by kernel_rfl) (fun _ _ _ h => h) (by rfl) (by intro W hSw; have hS0 := Stands.trans (show Stands (fun q => q = g ∨ q = gt ∨ q = w.heap.size) W2 _ from by repeat first | with_reducible assumption | with_reducible exact Stands.refl _ _ | with_reducible refine Stands.alloc ?_ _ | with_reducible refine Stands.drew ?_ | with_reducible refine Stands.drewL ?_ | with_reducible refine Stands.setCell ?_ (by assumption) _ _ | assumption | refine Stands.trans ?_ (by assumption)) hSw; go_simp; with_reducible rfl) ?_; try simp only [Act.put, qA, qZ, qS]
  refine wpAnyZ_pure (Stands.steady (fun q => q = g ∨ q = gt ∨ q = w.heap.size)) 4 (v := ?_) rfl (by kernel_rfl) (by kernel_rfl) (by kernel_rfl) (fun _ _ _ h => h) (by rfl) (by intro W; go_simp; with_reducible rfl) ?_; try simp only [Act.put, qA, qZ, qS]
  refine wpAnyZ_pure (Stands.steady (fun q => q = g ∨ q = gt ∨ q = w.heap.size)) 5 (v := ?_) rfl (by kernel_rfl) (by kernel_rfl) (by kernel_rfl) (fun _ _ _ h => h) (by rfl) (by intro W; go_simp; with_reducible rfl) ?_; try simp only [Act.put, qA, qZ, qS]
  refine wpAnyZ_take (Stands.steady (fun q => q = g ∨ q = gt ∨ q = w.heap.size)) 6 (v := ?_) rfl (by kernel_rfl) (by kernel_rfl) (by kernel_rfl) (by kernel_rfl) (fun _ _ _ h => h) (by rfl) (by intro W hSw; have hS0 := Stands.trans (show Stands (fun q => q = g ∨ q = gt ∨ q = w.heap.size) W2 _ from by repeat first | with_reducible assumption | with_reducible exact Stands.refl _ _ | with_reducible refine Stands.alloc ?_ _ | with_reducible refine Stands.drew ?_ | with_reducible refine Stands.drewL ?_ | with_reducible refine Stands.setCell ?_ (by assumption) _ _ | assumption | refine Stands.trans ?_ (by assumption)) hSw; go_simp; with_reducible rfl) ?_; try simp only [Act.put, qA, qZ, qS]
  refine wpAnyZ_pure (Stands.steady (fun q => q = g ∨ q = gt ∨ q = w.heap.size)) 7 (v := ?_) rfl (by kernel_rfl) (by kernel_rfl) (by kernel_rfl) (fun _ _ _ h => h) (by rfl) (by intro W; go_simp; with_reducible rfl) ?_; try simp only [Act.put, qA, qZ, qS]
  refine wpAnyZ_loud 8 (by kernel_rfl) (by rfl) rfl (fun K hK => ?_)
  go_simp
  refine hK.out _ _ ?_
  clear hK K; try simp only [Act.put, qA, qZ, qS]
  refine wpAnyZ_done (by kernel_rfl) ?_ _
  have hts := tops_set HAT.out HUT.out i 1050
  have hbr2 : (W2.setCell ⟨gt, i, none⟩ (.int .i64 1050)).heap[w.heap.size]? = some (.cells #[.int .i64 50, .int .i64 1050, .int .i64 50, .slice (some ⟨b0, 0, none⟩) 0 0] 91 (0, 0)) := ((Hits.refl (· = gt) W2).setCell (g := gt) (fun _ => rfl) i _).row HB.out (fun e => by
    have h1 := HL0.out
    rw [← e] at h1
    have h2 := cell_of_row _ _ i _ _ (0, 0) HB.out
    have h3 := (GmAt.p HAT.out).tops
    obtain ⟨v, e2, ho, hx⟩ := ints_holds.1 h3
    injection e2 with e2
    rw [HUT.out] at e2
    obtain ⟨_, _, cs, hcs⟩ := own_block ho (g := gt) (by rw [← e2]; rfl)
    rw [← e, HB.out] at hcs
    injection hcs with hcs; injection hcs with _ hcs _; exact absurd hcs (by decide))
  have hbc2 : (W2.setCell ⟨gt, i, none⟩ (.int .i64 1050)).heap[b0]? = some (.cells #[] 142 (0, 0)) := ((Hits.refl (· = gt) W2).setCell (g := gt) (fun _ => rfl) i _).row HBC.out (fun e => by
    have h3 := (GmAt.p HAT.out).tops
    obtain ⟨v, e2, ho, hx⟩ := ints_holds.1 h3
    injection e2 with e2
    rw [HUT.out] at e2
    obtain ⟨_, _, cs, hcs⟩ := own_block ho (g := gt) (by rw [← e2]; rfl)
    rw [← e, HBC.out] at hcs
    injection hcs with hcs; injection hcs with _ hcs _; exact absurd hcs (by decide))
  obtain ⟨W3, hW3⟩ : ∃ V, V = (W2.setCell ⟨gt, i, none⟩ (.int .i64 1050)).drew := ⟨_, rfl⟩
  have hld := (Later.refl (W2.setCell ⟨gt, i, none⟩ (.int .i64 1050))).dr
  have HA3 := hide_ (show GmAt W3 g { d with tops := d.tops.set i 1050 } c by rw [hW3]; exact ObjAt.later hts.1 hld)
  have HH3 := hide_ (show Hits (· ∈ X) w W3 by rw [hW3, HX.out]; exact ((Hits.later HL.out).trans hts.2 fun _ _ h => h).thenLater hld)
  have HB3 := hide_ (show W3.heap[w.heap.size]? = some (.cells #[.int .i64 50, .int .i64 1050, .int .i64 50, .slice (some ⟨b0, 0, none⟩) 0 0] 91 (0, 0)) by rw [hW3]; exact later_row hld hbr2)
  have HC3 := hide_ (show W3.heap[b0]? = some (.cells #[] 142 (0, 0)) by rw [hW3]; exact later_row hld hbc2)
  rw [← hW3]
  have hgr3 := GmAt.cells HA3.out
  unfold gmRow at hgr3
  rw [HUA.out] at hgr3
  have z11 : W3.cell? ⟨g, 11, none⟩ = some (.slice Aa 0 ca) := cell_of_row _ _ 11 _ _ (0, 0) hgr3
  have glt := theap_lt hgr3
  have blt := theap_lt HB3.out
  have HG3 := hide_ hgr3
  clear hts hbr2 hbc2 hW3 hld hgr3 k1 g10 t0 tf tf2 tc HB HGR HL0 HAT HBC
  go_wp2_with fail
  refine wp_region_k (by kernel_rfl) ?_
  refine wKt 0 (v := ?_) rfl (by intro W hSw; go_simp; with_reducible rfl) ?_; try simp only [Act.put, qA, qZ, qS]
  refine wKt 1 (v := ?_) rfl (by intro W hSw; go_simp; with_reducible rfl) ?_; try simp only [Act.put, qA, qZ, qS]
  refine wKt 2 (v := ?_) rfl (by intro W hSw; go_simp; with_reducible rfl) ?_; try simp only [Act.put, qA, qZ, qS]
  refine wKs 3 rfl ?_; try simp only [Act.put, qA, qZ, qS]
  refine wKs 4 rfl ?_; try simp only [Act.put, qA, qZ, qS]
  refine wKs 5 rfl ?_; try simp only [Act.put, qA, qZ, qS]
  refine wKs 6 rfl ?_; try simp only [Act.put, qA, qZ, qS]
  refine wKs 7 rfl ?_; try simp only [Act.put, qA, qZ, qS]
  refine wKs 8 rfl ?_; try simp only [Act.put, qA, qZ, qS]
  refine wKs 9 rfl ?_; try simp only [Act.put, qA, qZ, qS]
  refine wKs 10 rfl ?_; try simp only [Act.put, qA, qZ, qS]
  refine wKs 11 rfl ?_; try simp only [Act.put, qA, qZ, qS]
  refine wKs 12 rfl ?_; try simp only [Act.put, qA, qZ, qS]
  refine wKs 13 rfl ?_; try simp only [Act.put, qA, qZ, qS]
  refine wKs 14 rfl ?_; try simp only [Act.put, qA, qZ, qS]
  refine wKt 15 (v := ?_) rfl (by intro W hSw; go_simp; with_reducible rfl) ?_; try simp only [Act.put, qA, qZ, qS]
  refine wpAnyK_done (by kernel_rfl) ?_ _
  clear z11 glt blt
  obtain ⟨W4, hW4⟩ : ∃ V, V = W3.drew := ⟨_, rfl⟩
  have hl4 : Later W3 W4 := by rw [hW4]; exact (Later.refl W3).dr
  have hA4 := ObjAt.later HA3.out hl4
  have HH4 := hide_ (show Hits (· ∈ X) w W4 from HH3.out.thenLater hl4)
  have hb4 := later_row hl4 HB3.out
  have hg4 := later_row hl4 HG3.out
  have hc4 := later_row hl4 HC3.out
  rw [← hW4]
  obtain ⟨Xs, hsp, hxa⟩ := holds_slice (GmAt.p hA4).bats (GmAt.part hA4 (i := 9) (x := c.Xa) rfl).1
  rw [HUA.out] at hsp hxa
  rw [show ({ d with tops := d.tops.set i 1050 } : Gm).bats = [] from HBS.out] at hsp
  obtain rfl : Xs = [] := by
    obtain ⟨rows, xs, _, hr, rfl, _⟩ := hsp
    match rows, xs, hr with
    | [], [], _ => rfl
  rw [List.append_nil] at hxa
  have HSP := hide_ hsp; have HXA := hide_ hxa; have HA4 := hide_ hA4; have HG4 := hide_ hg4
  have HBH := hide_ (show ∀ W, Later W4 W → batR.holds W [.int .i64 50, .int .i64 1050, .int .i64 50, .slice (some ⟨b0, 0, none⟩) 0 0] b1050 [b0] from fun W hl => ⟨_, rfl, by
    unfold chgsR chgR
    exact slice_plain.2 ⟨_, rfl, ⟨rfl, .inr ⟨b0, 0, #[], rfl, Nat.zero_le _, later_row hl hc4, Nat.le_refl _, Nat.zero_le _, rfl, rfl⟩⟩, rfl⟩⟩)
  have HNB := hide_ (show ∀ q, (Value.slice Aa 0 ca).ownBlock = some q → q ∈ X ∧ q ≠ g ∧ q ≠ w.heap.size from fun q hq => by
    have h1 : q ∈ c.Xa := by rw [hxa]; exact mem_obL.2 hq
    have h2 := GmAt.part hA4 (i := 9) (x := c.Xa) rfl
    refine ⟨by rw [HX.out]; exact h2.2.1 q h1, fun e => h2.2.2 (e ▸ h1), fun e => ?_⟩
    obtain ⟨_, _, cs, h4⟩ := hsp.block hq
    have h3 : q ∈ X := by rw [HX.out]; exact h2.2.1 q h1
    have h5 := HXLT.out q h3
    omega)
  have k0 := Stands.cell (X := fun q => q = g ∨ q = w.heap.size) (show W4.cell? ⟨w.heap.size, 0, none⟩ = some (.int .i64 50) from cell_of_row _ _ 0 _ _ (0, 0) hb4) (.inr rfl)
  have k1 := Stands.cell (X := fun q => q = g ∨ q = w.heap.size) (show W4.cell? ⟨w.heap.size, 1, none⟩ = some (.int .i64 1050) from cell_of_row _ _ 1 _ _ (0, 0) hb4) (.inr rfl)
  have k2 := Stands.cell (X := fun q => q = g ∨ q = w.heap.size) (show W4.cell? ⟨w.heap.size, 2, none⟩ = some (.int .i64 50) from cell_of_row _ _ 2 _ _ (0, 0) hb4) (.inr rfl)
  have k3 := Stands.cell (X := fun q => q = g ∨ q = w.heap.size) (show W4.cell? ⟨w.heap.size, 3, none⟩ = some (.slice (some ⟨b0, 0, none⟩) 0 0) from cell_of_row _ _ 3 _ _ (0, 0) hb4) (.inr rfl)
  have k11 := Stands.cell (X := fun q => q = g ∨ q = w.heap.size) (show W4.cell? ⟨g, 11, none⟩ = some (.slice Aa 0 ca) from cell_of_row _ _ 11 _ _ (0, 0) hg4) (.inl rfl)
  have HLW := hide_ (show w.heap.size ≤ W4.heap.size from HH4.out.size)
  have HCL := hide_ (theap_lt hc4)
  clear hl4 hA4 hb4 hg4 hc4 hW4 hsp hxa HA3 HH3 HB3 HC3 HG3
  go_wp2_with fail
  refine wp_region_z (R := Stands (fun q => q = g ∨ q = w.heap.size)) [10] (by kernel_rfl) ?_
  refine wpAnyZ_pure (Stands.steady (fun q => q = g ∨ q = w.heap.size)) 0 (v := ?_) rfl (by kernel_rfl) (by kernel_rfl) (by kernel_rfl) (fun _ _ _ h => h) (by rfl) (by intro W; go_simp; with_reducible rfl) ?_; try simp only [Act.put, qA, qZ, qS]
  refine wpAnyZ_pure (Stands.steady (fun q => q = g ∨ q = w.heap.size)) 1 (v := ?_) rfl (by kernel_rfl) (by kernel_rfl) (by kernel_rfl) (fun _ _ _ h => h) (by rfl) (by intro W; go_simp; with_reducible rfl) ?_; try simp only [Act.put, qA, qZ, qS]
  refine wpAnyZ_pure (Stands.steady (fun q => q = g ∨ q = w.heap.size)) 2 (v := ?_) rfl (by kernel_rfl) (by kernel_rfl) (by kernel_rfl) (fun _ _ _ h => h) (by rfl) (by intro W; go_simp; with_reducible rfl) ?_; try simp only [Act.put, qA, qZ, qS]
  refine wpAnyZ_pure (Stands.steady (fun q => q = g ∨ q = w.heap.size)) 3 (v := ?_) rfl (by kernel_rfl) (by kernel_rfl) (by kernel_rfl) (fun _ _ _ h => h) (by rfl) (by intro W; go_simp; with_reducible rfl) ?_; try simp only [Act.put, qA, qZ, qS]
  refine wpAnyZ_take (Stands.steady (fun q => q = g ∨ q = w.heap.size)) 4 (v := ?_) rfl (by kernel_rfl) (by kernel_rfl) (by kernel_rfl) (by kernel_rfl) (fun _ _ _ h => h) (by rfl) (by intro W hSw; have hS0 := Stands.trans (show Stands (fun q => q = g ∨ q = w.heap.size) W4 _ from by repeat first | with_reducible assumption | with_reducible exact Stands.refl _ _ | with_reducible refine Stands.alloc ?_ _ | with_reducible refine Stands.drew ?_ | with_reducible refine Stands.drewL ?_ | with_reducible refine Stands.setCell ?_ (by assumption) _ _ | assumption | refine Stands.trans ?_ (by assumption)) hSw; go_simp; with_reducible rfl) ?_; try simp only [Act.put, qA, qZ, qS]
  refine wpAnyZ_take (Stands.steady (fun q => q = g ∨ q = w.heap.size)) 5 (v := ?_) rfl (by kernel_rfl) (by kernel_rfl) (by kernel_rfl) (by kernel_rfl) (fun _ _ _ h => h) (by rfl) (by intro W hSw; have hS0 := Stands.trans (show Stands (fun q => q = g ∨ q = w.heap.size) W4 _ from by repeat first | with_reducible assumption | with_reducible exact Stands.refl _ _ | with_reducible refine Stands.alloc ?_ _ | with_reducible refine Stands.drew ?_ | with_reducible refine Stands.drewL ?_ | with_reducible refine Stands.setCell ?_ (by assumption) _ _ | assumption | refine Stands.trans ?_ (by assumption)) hSw; go_simp; with_reducible rfl) ?_; try simp only [Act.put, qA, qZ, qS]
  refine wpAnyZ_one 6 (by kernel_rfl) rfl (fun K hK => ?_)
  go_simp
  refine hK.out _ _ (by repeat first | with_reducible assumption | with_reducible exact Stands.refl _ _ | with_reducible refine Stands.alloc ?_ _ | with_reducible refine Stands.drew ?_ | with_reducible refine Stands.drewL ?_ | with_reducible refine Stands.setCell ?_ (by assumption) _ _ | assumption | refine Stands.of_later ?_) ?_
  clear hK K; try simp only [Act.put, qA, qZ, qS]
  refine wpAnyZ_one 7 (by kernel_rfl) rfl (fun K hK => ?_)
  refine step_push (by rfl) (.tmp 93) (.tmp 95) rfl batT rfl (HSP.out.later ((Later.refl W4).dr.al _)) (show ([] : List Bch).length = 0 from rfl) (b := W4.heap.size) (c := 1) (cells := [.int .i64 50, .int .i64 1050, .int .i64 50, .slice (some ⟨b0, 0, none⟩) 0 0]) (el := b1050) (Y := [b0]) rfl (Rd.newAt W4.drew #[.int .i64 50, .int .i64 1050, .int .i64 50, .slice (some ⟨b0, 0, none⟩) 0 0] 91 1 4 _ (0, 0) rfl rfl) (HBH.out _ ((Later.refl W4).dr.al _)) (fun k hk e => by rw [List.mem_singleton.1 hk] at e; exact HBX.out (HNB.out _ e).1) (by omega) (by unfold maxLen; omega) (Nat.zero_le _) ?_; intro A9 c9 w9 hp9 hg9 hat9; have hs9 : Stands (fun q => q = g ∨ q = w.heap.size) _ w9 := ((Hits.refl (fun q => (Value.slice Aa 0 ca).ownBlock = some q) _).grown hg9 (fun q hq _ => hq)).stands (fun q _ hq hx => by have h1 := HNB.out q hq; rcases hx with e | e; (exact h1.2.1 e); (exact h1.2.2 e)); have hs89 := ((Stands.refl (fun q => q = g ∨ q = w.heap.size) W4).drew.alloc _).trans hs9; have gf9 : w9.frozen? ⟨g, 11, none⟩ = false := frozen_of_row _ _ 11 _ _ (hs89.2 g _ (.inl rfl) HG4.out); have kc9 : w9.cell? ⟨g, 11, none⟩ = some (.slice Aa 0 ca) := k11 _ hs89
  refine hK.out _ _ (by repeat first | with_reducible assumption | with_reducible exact Stands.refl _ _ | with_reducible refine Stands.alloc ?_ _ | with_reducible refine Stands.drew ?_ | with_reducible refine Stands.drewL ?_ | with_reducible refine Stands.setCell ?_ (by assumption) _ _ | assumption | refine Stands.of_later ?_) ?_
  clear hK K; try simp only [Act.put, qA, qZ, qS]
  refine wpAnyZ_pure (Stands.steady (fun q => q = g ∨ q = w.heap.size)) 8 (v := ?_) rfl (by kernel_rfl) (by kernel_rfl) (by kernel_rfl) (fun _ _ _ h => h) (by rfl) (by intro W; go_simp; with_reducible rfl) ?_; try simp only [Act.put, qA, qZ, qS]
  refine wpAnyZ_pure (Stands.steady (fun q => q = g ∨ q = w.heap.size)) 9 (v := ?_) rfl (by kernel_rfl) (by kernel_rfl) (by kernel_rfl) (fun _ _ _ h => h) (by rfl) (by intro W; go_simp; with_reducible rfl) ?_; try simp only [Act.put, qA, qZ, qS]
  refine wpAnyZ_loud 10 (by kernel_rfl) (by rfl) rfl (fun K hK => ?_)
  go_simp
  refine hK.out _ _ ?_
  clear hK K; try simp only [Act.put, qA, qZ, qS]
  refine wpAnyZ_done (by kernel_rfl) ?_ _
  have hld := (Later.refl W4).dr.al (.cells #[.int .i64 50, .int .i64 1050, .int .i64 50, .slice (some ⟨b0, 0, none⟩) 0 0] 91)
  have hin : ∀ k ∈ obL (Value.slice A9 1 c9), k ∈ c.Xa ∨ W4.heap.size ≤ k := fun k hk => by
    rw [HXA.out]
    have h1 := mem_obL.1 hk
    rcases hat9 with h2 | h2
    · exact .inl (mem_obL.2 (h2.symm.trans h1))
    · rw [h2] at h1; injection h1 with h1; right; rw [← h1]; exact hld.size
  have hA5 := ObjAt.later HA4.out hld
  have hzl := GmH.zlt (w := W4) (g := g) ⟨c, HA4.out, rfl⟩
  have hput := GmAt.put' (w9 := w9) hA5 9 11 (x := c.Xa) (x' := obL (.slice A9 1 c9) ++ [b0]) (u := .slice A9 1 c9) (f' := batsR.fld [b1050]) (d' := { d with tops := d.tops.set i 1050, bats := [b1050] }) (c' := { c with ua := .slice A9 1 c9, Xa := obL (.slice A9 1 c9) ++ [b0] }) rfl
    ((Hits.refl _ _).grown hg9 fun k hk _ => by rw [HXA.out]; exact mem_obL.2 hk) hp9.holds
    (List.nodup_append.2 ⟨obL_nodup _, by simp, fun a ha b hb => by
      rw [List.mem_singleton.1 hb]
      rintro rfl
      rcases hin a ha with h1 | h1
      · exact HBX.out (by rw [HX.out]; exact (GmAt.part HA4.out (i := 9) (x := c.Xa) rfl).2.1 a h1)
      · have := HCL.out; omega⟩)
    (fun k hk => by
      rcases List.mem_append.1 hk with h1 | h1
      · rcases hin k h1 with h2 | h2
        · exact .inl h2
        · exact .inr ⟨fun hm => by have := ObjAt.lt HA4.out k hm; omega, fun hm => by have := (hzl k hm).2; omega⟩
      · rw [List.mem_singleton.1 h1]
        exact .inr ⟨by rw [← HX.out]; exact HBX.out, HBZ.out⟩)
    (fun k hk => by cases hk) rfl rfl rfl rfl
  rw [← HX.out] at hput
  have HF := hide_ (show PushedPost w g X { d with tops := d.tops.set i 1050, bats := [b1050] } b0 (.returned (.tuple #[])) (w9.setCell ⟨g, 11, none⟩ (.slice A9 1 c9)) from ⟨rfl, _, ⟨_, hput.1, rfl⟩, (HH4.out.thenLater hld).trans hput.2.1 (fun _ _ h => h), fun k hk => by
    rcases hput.2.2 k hk with h1 | h1
    · exact .inl h1
    · rcases List.mem_append.1 h1 with h2 | h2
      · rcases hin k h2 with h3 | h3
        · left; rw [HX.out]; exact (GmAt.part HA4.out (i := 9) (x := c.Xa) rfl).2.1 k h3
        · right; right; have := HLW.out; omega
      · right; left; exact List.mem_singleton.1 h2⟩)
  clear hput hin hA5 hzl hld hp9 hg9 hat9 hs9 hs89 gf9 kc9 k0 k1 k2 k3 k11
  go_wp2_with fail
  go_returns
  exact HF.out

end Go.Proofs.YtcmollfhlillfaaGreatDoor
/-
  The law's game as it begins: plain data.
-/
namespace Go.Proofs.YtcmollfhlillfaaGreatDoor
open Go.RowKit
set_option linter.unusedVariables false
def d0 (fb : Nat) : Gm := ⟨fb, fr0 60 2 300 50 50 [20, 21] [80] [], [20, 21], [], [], [], [(50, 0)], [50], [[]], [50, 50], [], []⟩

end Go.Proofs.YtcmollfhlillfaaGreatDoor
