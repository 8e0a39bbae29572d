/-
  Texts of this seat in one: GDelB, GJudge.
-/
import Derived.Test.YtcmollfhlillfaaGreatDoorM43
import Derived.Test.YtcmollfhlillfaaGreatDoorM42
/-
  The law's game: the other nodes say that they are alive.
-/
namespace Go.Proofs.YtcmollfhlillfaaGreatDoor
open Go.RowKit
set_option linter.unusedVariables false
set_option linter.unusedSimpArgs false
set_option maxHeartbeats 8000000 in
set_option maxRecDepth 100000 in
theorem deliver_live21 {w : World} {g : Nat} {d : Gm} {X : List Nat} (h : GmH w g d X) (hG : OwnG w) (hGX : 0 ∉ X) {a : Int} (frm ep b0 c0 : Int) (Ab : Option Addr) (nb cb : Nat)
    (hok : WishOk d.fr) (hgo : GoOk (aliveF d.fr 21 a).1) (hlen : (aliveF d.fr 21 a).2.length + (goOnF (aliveF d.fr 21 a).1).2.length ≤ 1000000) (hnd : d.fr.node = 60) (hep : d.fr.epoch = 300) (hsd : SendOk d (joinL (aliveF d.fr 21 a)).2) :
    Calls Tryz.prog 23 #[.pointer (some ⟨g, 0, none⟩), .agg #[.int .i64 18, .int .i64 frm, .int .i64 21, .int .i64 ep, .int .i64 a, .int .i64 b0, .int .i64 c0, .slice Ab nb cb]] w (TSPost w g X d (joinL (aliveF d.fr 21 a)).1 (joinL (aliveF d.fr 21 a)).2) := by
  have HXLT := hide_ h.lt
  obtain ⟨c, hat, hX⟩ := h
  have HRO := hide_ hat.rows.lt.2
  obtain ⟨Wm, hW⟩ : ∃ Wm, Wm = (w.alloc (.cells #[.int .i64 18, .int .i64 frm, .int .i64 21, .int .i64 ep, .int .i64 a, .int .i64 b0, .int .i64 c0, .slice Ab nb cb] 53)).alloc (.cells #[.int .i64 0, .int .i64 21, .int .i64 60, .int .i64 300, .int .i64 0, .int .i64 0, .int .i64 0, .slice none 0 0] 53) := ⟨_, rfl⟩
  have hl : Later w Wm := by rw [hW]; exact (later_alloc _ _).al _
  have hbr : Wm.heap[w.heap.size]? = some (.cells #[.int .i64 18, .int .i64 frm, .int .i64 21, .int .i64 ep, .int .i64 a, .int .i64 b0, .int .i64 c0, .slice Ab nb cb] 53 (0, 0)) := by rw [hW]; exact row_al (heap_alloc_new _ _) _
  have hbk : Wm.heap[w.heap.size + 1]? = some (.cells #[.int .i64 0, .int .i64 21, .int .i64 60, .int .i64 300, .int .i64 0, .int .i64 0, .int .i64 0, .slice none 0 0] 53 (0, 0)) := by rw [hW]; exact row_new2 _ _ _
  have hat1 := hat.later hl
  have hgr := GmAt.cells hat1
  unfold gmRow at hgr
  have glt := theap_lt hgr
  have blt := theap_lt hbr
  have klt := theap_lt hbk
  have HAT := hide_ hat1; have HB := hide_ hbr; have HK := hide_ hbk; have HGR := hide_ hgr; have HW := hide_ hW; have HL := hide_ hl; have HX := hide_ hX; have HG := hide_ hG; have HGX := hide_ hGX; have HOK := hide_ hok; have HGO := hide_ hgo; have HLEN := hide_ hlen; have HND := hide_ hnd; have HEP := hide_ hep; have HSD := hide_ hsd
  have z0 : Wm.cell? ⟨w.heap.size, 0, none⟩ = some (.int .i64 18) := cell_of_row _ _ 0 _ _ (0, 0) hbr
  have z2 : Wm.cell? ⟨w.heap.size, 2, none⟩ = some (.int .i64 21) := cell_of_row _ _ 2 _ _ (0, 0) hbr
  have k2 := later_drew_cell z2
  clear hat hat1 hX hW hl hbr hbk hgr hG hGX hok hgo hlen hnd hep hsd
  go_enter Tryz.func23, Tryz.ntmps23
  go_wp2_with (rw [← HW.out])
  refine wp_region_k (by kernel_rfl) ?_
  refine wKt 0 (v := ?_) rfl (by intro W hSw; go_simp; with_reducible rfl) ?_; try simp only [Act.put, qA, qZ, qS]
  refine wKt 1 (v := ?_) rfl (by intro W hSw; go_simp; with_reducible rfl) ?_; try simp only [Act.put, qA, qZ, qS]
  refine wKt 2 (v := ?_) rfl (by intro W hSw; go_simp; with_reducible rfl) ?_; try simp only [Act.put, qA, qZ, qS]
  refine wKt 3 (v := ?_) rfl (by intro W hSw; go_simp; with_reducible rfl) ?_; try simp only [Act.put, qA, qZ, qS]
  refine wKs 4 rfl ?_; try simp only [Act.put, qA, qZ, qS]
  refine wKs 5 rfl ?_; try simp only [Act.put, qA, qZ, qS]
  refine wKs 6 rfl ?_; try simp only [Act.put, qA, qZ, qS]
  refine wKs 7 rfl ?_; try simp only [Act.put, qA, qZ, qS]
  refine wKs 8 rfl ?_; try simp only [Act.put, qA, qZ, qS]
  refine wKs 9 rfl ?_; try simp only [Act.put, qA, qZ, qS]
  refine wKs 10 rfl ?_; try simp only [Act.put, qA, qZ, qS]
  refine wKs 11 rfl ?_; try simp only [Act.put, qA, qZ, qS]
  refine wKs 12 rfl ?_; try simp only [Act.put, qA, qZ, qS]
  refine wKt 13 (v := ?_) rfl (by intro W hSw; go_simp; with_reducible rfl) ?_; try simp only [Act.put, qA, qZ, qS]
  refine wKt 14 (v := ?_) rfl (by intro W hSw; go_simp; with_reducible rfl) ?_; try simp only [Act.put, qA, qZ, qS]
  refine wKs 15 rfl ?_; try simp only [Act.put, qA, qZ, qS]
  refine wKs 16 rfl ?_; try simp only [Act.put, qA, qZ, qS]
  refine wKs 17 rfl ?_; try simp only [Act.put, qA, qZ, qS]
  refine wKs 18 rfl ?_; try simp only [Act.put, qA, qZ, qS]
  refine wKs 19 rfl ?_; try simp only [Act.put, qA, qZ, qS]
  refine wKs 20 rfl ?_; try simp only [Act.put, qA, qZ, qS]
  refine wKs 21 rfl ?_; try simp only [Act.put, qA, qZ, qS]
  refine wKs 22 rfl ?_; try simp only [Act.put, qA, qZ, qS]
  refine wKs 23 rfl ?_; try simp only [Act.put, qA, qZ, qS]
  refine wKs 24 rfl ?_; try simp only [Act.put, qA, qZ, qS]
  refine wKs 25 rfl ?_; try simp only [Act.put, qA, qZ, qS]
  refine wKs 26 rfl ?_; try simp only [Act.put, qA, qZ, qS]
  refine wKt 27 (v := ?_) rfl (by intro W hSw; go_simp; with_reducible rfl) ?_; try simp only [Act.put, qA, qZ, qS]
  refine wpAnyK_done (by kernel_rfl) ?_ _
  clear z0 z2 k2 glt blt klt
  obtain ⟨W1, hV⟩ : ∃ V, V = Wm.drew := ⟨_, rfl⟩
  have hld := (Later.refl Wm).dr
  rw [← hV] at hld ⊢
  have HB := hide_ (later_row hld HB.out)
  have HK := hide_ (later_row hld HK.out)
  have HAT := hide_ (ObjAt.later HAT.out hld)
  have HL := hide_ (HL.out.trans hld)
  have k4 := Stands.cell (X := fun q => q = w.heap.size) (show W1.cell? ⟨w.heap.size, 4, none⟩ = some (.int .i64 a) from cell_of_row _ _ 4 _ _ (0, 0) HB.out) rfl
  have y0 : W1.cell? ⟨w.heap.size + 1, 0, none⟩ = some (.int .i64 0) := cell_of_row _ _ 0 _ _ (0, 0) HK.out
  have y4 : W1.cell? ⟨w.heap.size + 1, 4, none⟩ = some (.int .i64 0) := cell_of_row _ _ 4 _ _ (0, 0) HK.out
  have f0 := frozen_of_row _ _ 0 _ _ HK.out
  have f4 := frozen_of_row _ _ 4 _ _ HK.out
  have f0' : W1.drew.frozen? ⟨w.heap.size + 1, 0, none⟩ = false := f0
  have f4' : W1.drew.frozen? ⟨w.heap.size + 1, 4, none⟩ = false := f4
  have blt := theap_lt HB.out
  have klt := theap_lt HK.out
  have hne : ¬ w.heap.size + 1 = w.heap.size := by omega
  clear hV hld
  go_wp2_with fail
  refine wp_region_z (R := Stands (fun q => q = w.heap.size)) [] (by kernel_rfl) ?_
  refine wpAnyZ_take0 (Stands.steady (fun q => q = w.heap.size)) 0 (v := ?_) rfl (by kernel_rfl) (by kernel_rfl) (by kernel_rfl) (fun _ _ _ h => h) (by rfl) (by intro W hSw; go_simp; with_reducible rfl) ?_; try simp only [Act.put, qA, qZ, qS]
  refine wpAnyZ_take0 (Stands.steady (fun q => q = w.heap.size)) 1 (v := ?_) rfl (by kernel_rfl) (by kernel_rfl) (by kernel_rfl) (fun _ _ _ h => h) (by rfl) (by intro W hSw; have hS0 := Stands.trans (show Stands (fun q => q = w.heap.size) W1 _ from by repeat first | with_reducible assumption | with_reducible exact Stands.refl _ _ | with_reducible refine Stands.alloc ?_ _ | with_reducible refine Stands.drew ?_ | with_reducible refine Stands.drewL ?_ | with_reducible refine Stands.setCell ?_ (by assumption) _ _ | assumption | refine Stands.trans ?_ (by assumption)) hSw; go_simp; with_reducible rfl) ?_; try simp only [Act.put, qA, qZ, qS]
  refine wpAnyZ_take0 (Stands.steady (fun q => q = w.heap.size)) 2 (v := ?_) rfl (by kernel_rfl) (by kernel_rfl) (by kernel_rfl) (fun _ _ _ h => h) (by rfl) (by intro W hSw; go_simp; with_reducible rfl) ?_; try simp only [Act.put, qA, qZ, qS]
  refine wpAnyZ_one 3 (by kernel_rfl) rfl (fun K hK => ?_)
  go_simp
  refine hK.out _ _ (by repeat first | with_reducible assumption | with_reducible exact Stands.refl _ _ | with_reducible refine Stands.alloc ?_ _ | with_reducible refine Stands.drew ?_ | with_reducible refine Stands.drewL ?_ | with_reducible refine Stands.setCell ?_ (by assumption) _ _ | assumption | refine Stands.of_later ?_) ?_
  clear hK K; try simp only [Act.put, qA, qZ, qS]
  refine wpAnyZ_take0 (Stands.steady (fun q => q = w.heap.size)) 4 (v := ?_) rfl (by kernel_rfl) (by kernel_rfl) (by kernel_rfl) (fun _ _ _ h => h) (by rfl) (by intro W hSw; go_simp; with_reducible rfl) ?_; try simp only [Act.put, qA, qZ, qS]
  refine wpAnyZ_one 5 (by kernel_rfl) rfl (fun K hK => ?_)
  go_simp
  refine hK.out _ _ (by repeat first | with_reducible assumption | with_reducible exact Stands.refl _ _ | with_reducible refine Stands.alloc ?_ _ | with_reducible refine Stands.drew ?_ | with_reducible refine Stands.drewL ?_ | with_reducible refine Stands.setCell ?_ (by assumption) _ _ | assumption | refine Stands.of_later ?_) ?_
  clear hK K; try simp only [Act.put, qA, qZ, qS]
  refine wpAnyZ_done (by kernel_rfl) ?_ _
  obtain ⟨W2, hW2⟩ : ∃ V, V = ((W1.setCell ⟨w.heap.size + 1, 0, none⟩ (.int .i64 19)).setCell ⟨w.heap.size + 1, 4, none⟩ (.int .i64 a)).drew := ⟨_, rfl⟩
  rw [← hW2]
  have hhb : Hits (· = w.heap.size + 1) W1 W2 := by rw [hW2]; exact (((Hits.refl (· = w.heap.size + 1) W1).setCell (g := w.heap.size + 1) (fun _ => rfl) 0 _).setCell (g := w.heap.size + 1) (fun _ => rfl) 4 _).thenLater (Later.refl _).dr
  have hA2 : GmAt W2 g d c := HAT.out.frame hhb (fun k hk e => by have h1 := HXLT.out k (by rw [HX.out]; exact hk); omega) fun f hf k hk e => by have h1 := HRO.out f hf k hk; omega
  have HK2 := hide_ (show W2.heap[w.heap.size + 1]? = some (.cells #[.int .i64 19, .int .i64 21, .int .i64 60, .int .i64 300, .int .i64 a, .int .i64 0, .int .i64 0, .slice none 0 0] 53 (0, 0)) by rw [hW2]; exact later_row (Later.refl _).dr (heap_setCell_same _ _ 4 _ _ (.int .i64 a) (heap_setCell_same W1 _ 0 _ _ (.int .i64 19) HK.out)))
  have HH2 := hide_ (show Hits (· ∈ X) w W2 from ((Hits.later HL.out).trans (hhb.mono (G := fun k => w.heap.size ≤ k) fun k _ h => by omega) (fun i hi h => by omega)))
  obtain ⟨V2, hV2⟩ : ∃ V, V = W2.drew := ⟨_, rfl⟩
  have hgr2 := GmAt.cells hA2
  unfold gmRow at hgr2
  have k0 := Stands.cell (X := fun q => q = g ∨ q = w.heap.size + 1) (show W2.cell? ⟨g, 0, none⟩ = some (.pointer (some ⟨d.fb, 0, none⟩)) from cell_of_row _ _ 0 _ _ (0, 0) hgr2) (.inl rfl)
  have b0 := Stands.cell (X := fun q => q = g ∨ q = w.heap.size + 1) (show W2.cell? ⟨w.heap.size + 1, 0, none⟩ = some (.int .i64 19) from cell_of_row _ _ 0 _ _ (0, 0) HK2.out) (.inr rfl)
  have b1 := Stands.cell (X := fun q => q = g ∨ q = w.heap.size + 1) (show W2.cell? ⟨w.heap.size + 1, 1, none⟩ = some (.int .i64 21) from cell_of_row _ _ 1 _ _ (0, 0) HK2.out) (.inr rfl)
  have b2 := Stands.cell (X := fun q => q = g ∨ q = w.heap.size + 1) (show W2.cell? ⟨w.heap.size + 1, 2, none⟩ = some (.int .i64 60) from cell_of_row _ _ 2 _ _ (0, 0) HK2.out) (.inr rfl)
  have b3 := Stands.cell (X := fun q => q = g ∨ q = w.heap.size + 1) (show W2.cell? ⟨w.heap.size + 1, 3, none⟩ = some (.int .i64 300) from cell_of_row _ _ 3 _ _ (0, 0) HK2.out) (.inr rfl)
  have b4 := Stands.cell (X := fun q => q = g ∨ q = w.heap.size + 1) (show W2.cell? ⟨w.heap.size + 1, 4, none⟩ = some (.int .i64 a) from cell_of_row _ _ 4 _ _ (0, 0) HK2.out) (.inr rfl)
  have b5 := Stands.cell (X := fun q => q = g ∨ q = w.heap.size + 1) (show W2.cell? ⟨w.heap.size + 1, 5, none⟩ = some (.int .i64 0) from cell_of_row _ _ 5 _ _ (0, 0) HK2.out) (.inr rfl)
  have b6 := Stands.cell (X := fun q => q = g ∨ q = w.heap.size + 1) (show W2.cell? ⟨w.heap.size + 1, 6, none⟩ = some (.int .i64 0) from cell_of_row _ _ 6 _ _ (0, 0) HK2.out) (.inr rfl)
  have b7 := Stands.cell (X := fun q => q = g ∨ q = w.heap.size + 1) (show W2.cell? ⟨w.heap.size + 1, 7, none⟩ = some (.slice none 0 0) from cell_of_row _ _ 7 _ _ (0, 0) HK2.out) (.inr rfl)
  have hld2 := (Later.refl W2).dr
  have HAD := hide_ (ObjAt.later hA2 hld2)
  have HGF := hide_ (show g ∉ c.Xf from (GmAt.part hA2 (i := 0) (x := c.Xf) rfl).2.2)
  have HFL := hide_ (show ∀ k ∈ c.Xf, k < w.heap.size from fun k hk => HXLT.out k (by rw [HX.out]; exact (GmAt.part hA2 (i := 0) (x := c.Xf) rfl).2.1 k hk))
  have HG2 := hide_ ((HG.out.hits HH2.out HGX.out).later hld2)
  have HTK := hide_ (take_alive (GmAt.p HAD.out).fr HOK.out HG2.out (fun hm => HGX.out (by rw [HX.out]; exact (GmAt.part HAD.out (i := 0) (x := c.Xf) rfl).2.1 _ hm)) HGO.out HLEN.out HND.out HEP.out 0 0 none 0 0 (frm := 21) (a := a))
  have glt2 := theap_lt hgr2
  have klt2 := theap_lt HK2.out
  clear hV2 hgr2 hA2 hhb hW2 k4 y0 y4 f0 f4 f0' f4' blt klt hld2
  go_wp2_with fail
  refine wp_region_z (R := Stands (fun q => q = g ∨ q = w.heap.size + 1)) [7] (by kernel_rfl) ?_
  refine wpAnyZ_pure (Stands.steady (fun q => q = g ∨ q = w.heap.size + 1)) 0 (v := ?_) rfl (by kernel_rfl) (by kernel_rfl) (by kernel_rfl) (fun _ _ _ h => h) (by rfl) (by intro W; go_simp; with_reducible rfl) ?_; try simp only [Act.put, qA, qZ, qS]
  refine wpAnyZ_pure (Stands.steady (fun q => q = g ∨ q = w.heap.size + 1)) 1 (v := ?_) rfl (by kernel_rfl) (by kernel_rfl) (by kernel_rfl) (fun _ _ _ h => h) (by rfl) (by intro W; go_simp; with_reducible rfl) ?_; try simp only [Act.put, qA, qZ, qS]
  refine wpAnyZ_pure (Stands.steady (fun q => q = g ∨ q = w.heap.size + 1)) 2 (v := ?_) rfl (by kernel_rfl) (by kernel_rfl) (by kernel_rfl) (fun _ _ _ h => h) (by rfl) (by intro W; go_simp; with_reducible rfl) ?_; try simp only [Act.put, qA, qZ, qS]
  refine wpAnyZ_pure (Stands.steady (fun q => q = g ∨ q = w.heap.size + 1)) 3 (v := ?_) rfl (by kernel_rfl) (by kernel_rfl) (by kernel_rfl) (fun _ _ _ h => h) (by rfl) (by intro W; go_simp; with_reducible rfl) ?_; try simp only [Act.put, qA, qZ, qS]
  refine wpAnyZ_take (Stands.steady (fun q => q = g ∨ q = w.heap.size + 1)) 4 (v := ?_) rfl (by kernel_rfl) (by kernel_rfl) (by kernel_rfl) (by kernel_rfl) (fun _ _ _ h => h) (by rfl) (by intro W hSw; have hS0 := Stands.trans (show Stands (fun q => q = g ∨ q = w.heap.size + 1) W2 _ from by repeat first | with_reducible assumption | with_reducible exact Stands.refl _ _ | with_reducible refine Stands.alloc ?_ _ | with_reducible refine Stands.drew ?_ | with_reducible refine Stands.drewL ?_ | with_reducible refine Stands.setCell ?_ (by assumption) _ _ | assumption | refine Stands.trans ?_ (by assumption)) hSw; go_simp; with_reducible rfl) ?_; try simp only [Act.put, qA, qZ, qS]
  refine wpAnyZ_take (Stands.steady (fun q => q = g ∨ q = w.heap.size + 1)) 5 (v := ?_) rfl (by kernel_rfl) (by kernel_rfl) (by kernel_rfl) (by kernel_rfl) (fun _ _ _ h => h) (by rfl) (by intro W hSw; have hS0 := Stands.trans (show Stands (fun q => q = g ∨ q = w.heap.size + 1) W2 _ from by repeat first | with_reducible assumption | with_reducible exact Stands.refl _ _ | with_reducible refine Stands.alloc ?_ _ | with_reducible refine Stands.drew ?_ | with_reducible refine Stands.drewL ?_ | with_reducible refine Stands.setCell ?_ (by assumption) _ _ | assumption | refine Stands.trans ?_ (by assumption)) hSw; go_simp; with_reducible rfl) ?_; try simp only [Act.put, qA, qZ, qS]
  refine wpAnyZ_one 6 (by kernel_rfl) rfl (fun K hK => ?_)
  go_simp
  refine HTK.out.mono ?_; rintro e w5 h5; obtain ⟨A5, n5, c5, Y5, X5, rfl, hn5, hg5, hp5, hv5, hy5, hh5, hf5, hhx⟩ := GmAt.take HAD.out h5; have hs5 : Stands (fun q => q = g ∨ q = w.heap.size + 1) _ w5 := hhx.stands (fun k hk hF hX => by rcases hX with e | e; (exact HGF.out (e ▸ hF)); (have h1 := HFL.out k hF; omega)); have HSN := hide_ (gsend_any hg5 hp5 hn5 hv5 hy5 HSD.out.all (by rw [← hn5]; exact HSD.out.n)); have HH5 := hide_ hh5; have HF5 := hide_ hf5; clear hhx hp5 hv5 hy5 h5 hg5
  refine hK.out _ _ (by repeat first | with_reducible assumption | with_reducible exact Stands.refl _ _ | with_reducible refine Stands.alloc ?_ _ | with_reducible refine Stands.drew ?_ | with_reducible refine Stands.drewL ?_ | with_reducible refine Stands.setCell ?_ (by assumption) _ _ | assumption | refine Stands.of_later ?_) ?_
  clear hK K; try simp only [Act.put, qA, qZ, qS]
  refine wpAnyZ_loud 7 (by kernel_rfl) (by rfl) rfl (fun K hK => ?_)
  go_simp
  refine HSN.out.mono ?_; rintro e w6 h6; obtain ⟨rfl, h6⟩ := h6
  refine hK.out _ _ ?_
  clear hK K; try simp only [Act.put, qA, qZ, qS]
  refine wpAnyZ_done (by kernel_rfl) ?_ _
  go_wp2_with fail
  go_returns
  exact TSPost.of (w2 := w5) (X2 := X5) (Y := Y5) ((HH2.out.thenLater (Later.refl W2).dr).trans HH5.out (fun _ _ h => by rw [HX.out]; exact h)) (fun k hk => (HF5.out k hk).elim (fun h => .inl (by rw [HX.out]; exact h)) fun h => .inr (Nat.le_trans HH2.out.size h)) ⟨rfl, h6⟩
set_option maxHeartbeats 8000000 in
set_option maxRecDepth 100000 in
theorem deliver_live80 {w : World} {g : Nat} {d : Gm} {X : List Nat} (h : GmH w g d X) (hG : OwnG w) (hGX : 0 ∉ X) {a : Int} (hj : d.judged = [1050]) (frm ep c0 : Int) (Ab : Option Addr) (nb cb : Nat)
    (hok : WishOk d.fr) (hgo : GoOk (aliveF d.fr 80 a).1) (hlen : (aliveF d.fr 80 a).2.length + (goOnF (aliveF d.fr 80 a).1).2.length ≤ 1000000) (hnd : d.fr.node = 60) (hep : d.fr.epoch = 300) (hsd : SendOk d (joinL (aliveF d.fr 80 a)).2) :
    Calls Tryz.prog 23 #[.pointer (some ⟨g, 0, none⟩), .agg #[.int .i64 18, .int .i64 frm, .int .i64 80, .int .i64 ep, .int .i64 a, .int .i64 1050, .int .i64 c0, .slice Ab nb cb]] w (TSPost w g X d (joinL (aliveF d.fr 80 a)).1 (joinL (aliveF d.fr 80 a)).2) := by
  have HXLT := hide_ h.lt
  obtain ⟨c, hat, hX⟩ := h
  have HRO := hide_ hat.rows.lt.2
  obtain ⟨Wm, hW⟩ : ∃ Wm, Wm = (w.alloc (.cells #[.int .i64 18, .int .i64 frm, .int .i64 80, .int .i64 ep, .int .i64 a, .int .i64 1050, .int .i64 c0, .slice Ab nb cb] 53)).alloc (.cells #[.int .i64 0, .int .i64 80, .int .i64 60, .int .i64 300, .int .i64 0, .int .i64 0, .int .i64 0, .slice none 0 0] 53) := ⟨_, rfl⟩
  have hl : Later w Wm := by rw [hW]; exact (later_alloc _ _).al _
  have hbr : Wm.heap[w.heap.size]? = some (.cells #[.int .i64 18, .int .i64 frm, .int .i64 80, .int .i64 ep, .int .i64 a, .int .i64 1050, .int .i64 c0, .slice Ab nb cb] 53 (0, 0)) := by rw [hW]; exact row_al (heap_alloc_new _ _) _
  have hbk : Wm.heap[w.heap.size + 1]? = some (.cells #[.int .i64 0, .int .i64 80, .int .i64 60, .int .i64 300, .int .i64 0, .int .i64 0, .int .i64 0, .slice none 0 0] 53 (0, 0)) := by rw [hW]; exact row_new2 _ _ _
  have hat1 := hat.later hl
  have hgr := GmAt.cells hat1
  obtain ⟨v, e, ho, hx⟩ := ints_holds.1 (GmAt.p hat1).judged
  injection e with e
  obtain ⟨gj', cj, hv⟩ := own_form ho
  obtain ⟨gj, orr, ev, l0⟩ := (Rd.of_own (show Wm.ownsRow 0 3 1 (.slice gj' d.judged.length cj) d.judged.length (ints d.judged) by rw [← hv]; exact ho)).int (show d.judged[0]? = some 1050 by rw [hj]; rfl)
  subst ev
  have horr : orr = 0 := by
    rcases ho.2 with ⟨e1, _⟩ | ⟨g2, _, _, e1, _⟩
    · rw [hv] at e1; cases e1
    · rw [hv] at e1; injection e1 with e1 _ _; injection e1 with e1; injection e1 with _ e1 _
  subst horr
  have huj : c.uj = .slice (some ⟨gj, 0, none⟩) 1 cj := by rw [e, hv, hj]; rfl
  rw [Nat.add_zero] at l0
  unfold gmRow at hgr
  rw [huj] at hgr
  have g8 := later_drew_cell (show Wm.cell? ⟨g, 8, none⟩ = some (.slice (some ⟨gj, 0, none⟩) 1 cj) from cell_of_row _ _ 8 _ _ (0, 0) hgr)
  have j0 := later_drew_cell l0
  have jlt := cell_lt l0
  have hw0 : IntKind.i64.wrap 0 = 0 := rfl
  have glt := theap_lt hgr
  have blt := theap_lt hbr
  have klt := theap_lt hbk
  have HAT := hide_ hat1; have HB := hide_ hbr; have HK := hide_ hbk; have HGR := hide_ hgr; have HW := hide_ hW; have HL := hide_ hl; have HX := hide_ hX; have HG := hide_ hG; have HGX := hide_ hGX; have HOK := hide_ hok; have HGO := hide_ hgo; have HLEN := hide_ hlen; have HND := hide_ hnd; have HEP := hide_ hep; have HSD := hide_ hsd
  have z0 : Wm.cell? ⟨w.heap.size, 0, none⟩ = some (.int .i64 18) := cell_of_row _ _ 0 _ _ (0, 0) hbr
  have z2 : Wm.cell? ⟨w.heap.size, 2, none⟩ = some (.int .i64 80) := cell_of_row _ _ 2 _ _ (0, 0) hbr
  have k2 := later_drew_cell z2
  have k5 := later_drew_cell (show Wm.cell? ⟨w.heap.size, 5, none⟩ = some (.int .i64 1050) from cell_of_row _ _ 5 _ _ (0, 0) hbr)
  clear e ho hx hv huj l0
  clear hat hat1 hX hW hl hbr hbk hgr hG hGX hok hgo hlen hnd hep hsd
  go_enter Tryz.func23, Tryz.ntmps23
  go_wp2_with (rw [← HW.out])
  refine wp_region_k (by kernel_rfl) ?_
  refine wKt 0 (v := ?_) rfl (by intro W hSw; go_simp; with_reducible rfl) ?_; try simp only [Act.put, qA, qZ, qS]
  refine wKt 1 (v := ?_) rfl (by intro W hSw; go_simp; with_reducible rfl) ?_; try simp only [Act.put, qA, qZ, qS]
  refine wKt 2 (v := ?_) rfl (by intro W hSw; go_simp; with_reducible rfl) ?_; try simp only [Act.put, qA, qZ, qS]
  refine wKt 3 (v := ?_) rfl (by intro W hSw; go_simp; with_reducible rfl) ?_; try simp only [Act.put, qA, qZ, qS]
  refine wKt 4 (v := ?_) rfl (by intro W hSw; go_simp; with_reducible rfl) ?_; try simp only [Act.put, qA, qZ, qS]
  refine wKt 5 (v := ?_) rfl (by intro W hSw; go_simp; with_reducible rfl) ?_; try simp only [Act.put, qA, qZ, qS]
  refine wKt 6 (v := ?_) rfl (by intro W hSw; go_simp; with_reducible rfl) ?_; try simp only [Act.put, qA, qZ, qS]
  refine wKt 7 (v := ?_) rfl (by intro W hSw; go_simp; with_reducible rfl) ?_; try simp only [Act.put, qA, qZ, qS]
  refine wKt 8 (v := ?_) rfl (by intro W hSw; go_simp; with_reducible rfl) ?_; try simp only [Act.put, qA, qZ, qS]
  refine wKt 9 (v := ?_) rfl (by intro W hSw; go_simp; with_reducible rfl) ?_; try simp only [Act.put, qA, qZ, qS]
  refine wKt 10 (v := ?_) rfl (by intro W hSw; go_simp; with_reducible rfl) ?_; try simp only [Act.put, qA, qZ, qS]
  refine wKt 11 (v := ?_) rfl (by intro W hSw; go_simp; with_reducible rfl) ?_; try simp only [Act.put, qA, qZ, qS]
  refine wKt 12 (v := ?_) rfl (by intro W hSw; go_simp; with_reducible rfl) ?_; try simp only [Act.put, qA, qZ, qS]
  refine wKt 13 (v := ?_) rfl (by intro W hSw; go_simp; with_reducible rfl) ?_; try simp only [Act.put, qA, qZ, qS]
  refine wKt 14 (v := ?_) rfl (by intro W hSw; go_simp; with_reducible rfl) ?_; try simp only [Act.put, qA, qZ, qS]
  refine wKt 15 (v := ?_) rfl (by intro W hSw; go_simp; with_reducible rfl) ?_; try simp only [Act.put, qA, qZ, qS]
  refine wKt 16 (v := ?_) rfl (by intro W hSw; go_simp; with_reducible rfl) ?_; try simp only [Act.put, qA, qZ, qS]
  refine wKt 17 (v := ?_) rfl (by intro W hSw; go_simp; with_reducible rfl) ?_; try simp only [Act.put, qA, qZ, qS]
  refine wKt 18 (v := ?_) rfl (by intro W hSw; go_simp; with_reducible rfl) ?_; try simp only [Act.put, qA, qZ, qS]
  refine wKt 19 (v := ?_) rfl (by intro W hSw; go_simp; with_reducible rfl) ?_; try simp only [Act.put, qA, qZ, qS]
  refine wKt 20 (v := ?_) rfl (by intro W hSw; go_simp; with_reducible rfl) ?_; try simp only [Act.put, qA, qZ, qS]
  refine wKt 21 (v := ?_) rfl (by intro W hSw; go_simp; with_reducible rfl) ?_; try simp only [Act.put, qA, qZ, qS]
  refine wKt 22 (v := ?_) rfl (by intro W hSw; go_simp; with_reducible rfl) ?_; try simp only [Act.put, qA, qZ, qS]
  refine wKt 23 (v := ?_) rfl (by intro W hSw; go_simp; with_reducible rfl) ?_; try simp only [Act.put, qA, qZ, qS]
  refine wKt 24 (v := ?_) rfl (by intro W hSw; go_simp; with_reducible rfl) ?_; try simp only [Act.put, qA, qZ, qS]
  refine wKt 25 (v := ?_) rfl (by intro W hSw; go_simp; with_reducible rfl) ?_; try simp only [Act.put, qA, qZ, qS]
  refine wKt 26 (v := ?_) rfl (by intro W hSw; go_simp; with_reducible rfl) ?_; try simp only [Act.put, qA, qZ, qS]
  refine wKt 27 (v := ?_) rfl (by intro W hSw; go_simp; with_reducible rfl) ?_; try simp only [Act.put, qA, qZ, qS]
  refine wpAnyK_done (by kernel_rfl) ?_ _
  clear z0 z2 k2 k5 g8 j0 jlt glt blt klt
  obtain ⟨W1, hV⟩ : ∃ V, V = Wm.drew := ⟨_, rfl⟩
  have hld := (Later.refl Wm).dr
  rw [← hV] at hld ⊢
  have HB := hide_ (later_row hld HB.out)
  have HK := hide_ (later_row hld HK.out)
  have HAT := hide_ (ObjAt.later HAT.out hld)
  have HL := hide_ (HL.out.trans hld)
  have k4 := Stands.cell (X := fun q => q = w.heap.size) (show W1.cell? ⟨w.heap.size, 4, none⟩ = some (.int .i64 a) from cell_of_row _ _ 4 _ _ (0, 0) HB.out) rfl
  have y0 : W1.cell? ⟨w.heap.size + 1, 0, none⟩ = some (.int .i64 0) := cell_of_row _ _ 0 _ _ (0, 0) HK.out
  have y4 : W1.cell? ⟨w.heap.size + 1, 4, none⟩ = some (.int .i64 0) := cell_of_row _ _ 4 _ _ (0, 0) HK.out
  have f0 := frozen_of_row _ _ 0 _ _ HK.out
  have f4 := frozen_of_row _ _ 4 _ _ HK.out
  have f0' : W1.drew.frozen? ⟨w.heap.size + 1, 0, none⟩ = false := f0
  have f4' : W1.drew.frozen? ⟨w.heap.size + 1, 4, none⟩ = false := f4
  have blt := theap_lt HB.out
  have klt := theap_lt HK.out
  have hne : ¬ w.heap.size + 1 = w.heap.size := by omega
  clear hV hld
  go_wp2_with fail
  refine wp_region_z (R := Stands (fun q => q = w.heap.size)) [] (by kernel_rfl) ?_
  refine wpAnyZ_take0 (Stands.steady (fun q => q = w.heap.size)) 0 (v := ?_) rfl (by kernel_rfl) (by kernel_rfl) (by kernel_rfl) (fun _ _ _ h => h) (by rfl) (by intro W hSw; go_simp; with_reducible rfl) ?_; try simp only [Act.put, qA, qZ, qS]
  refine wpAnyZ_take0 (Stands.steady (fun q => q = w.heap.size)) 1 (v := ?_) rfl (by kernel_rfl) (by kernel_rfl) (by kernel_rfl) (fun _ _ _ h => h) (by rfl) (by intro W hSw; have hS0 := Stands.trans (show Stands (fun q => q = w.heap.size) W1 _ from by repeat first | with_reducible assumption | with_reducible exact Stands.refl _ _ | with_reducible refine Stands.alloc ?_ _ | with_reducible refine Stands.drew ?_ | with_reducible refine Stands.drewL ?_ | with_reducible refine Stands.setCell ?_ (by assumption) _ _ | assumption | refine Stands.trans ?_ (by assumption)) hSw; go_simp; with_reducible rfl) ?_; try simp only [Act.put, qA, qZ, qS]
  refine wpAnyZ_take0 (Stands.steady (fun q => q = w.heap.size)) 2 (v := ?_) rfl (by kernel_rfl) (by kernel_rfl) (by kernel_rfl) (fun _ _ _ h => h) (by rfl) (by intro W hSw; go_simp; with_reducible rfl) ?_; try simp only [Act.put, qA, qZ, qS]
  refine wpAnyZ_one 3 (by kernel_rfl) rfl (fun K hK => ?_)
  go_simp
  refine hK.out _ _ (by repeat first | with_reducible assumption | with_reducible exact Stands.refl _ _ | with_reducible refine Stands.alloc ?_ _ | with_reducible refine Stands.drew ?_ | with_reducible refine Stands.drewL ?_ | with_reducible refine Stands.setCell ?_ (by assumption) _ _ | assumption | refine Stands.of_later ?_) ?_
  clear hK K; try simp only [Act.put, qA, qZ, qS]
  refine wpAnyZ_take0 (Stands.steady (fun q => q = w.heap.size)) 4 (v := ?_) rfl (by kernel_rfl) (by kernel_rfl) (by kernel_rfl) (fun _ _ _ h => h) (by rfl) (by intro W hSw; go_simp; with_reducible rfl) ?_; try simp only [Act.put, qA, qZ, qS]
  refine wpAnyZ_one 5 (by kernel_rfl) rfl (fun K hK => ?_)
  go_simp
  refine hK.out _ _ (by repeat first | with_reducible assumption | with_reducible exact Stands.refl _ _ | with_reducible refine Stands.alloc ?_ _ | with_reducible refine Stands.drew ?_ | with_reducible refine Stands.drewL ?_ | with_reducible refine Stands.setCell ?_ (by assumption) _ _ | assumption | refine Stands.of_later ?_) ?_
  clear hK K; try simp only [Act.put, qA, qZ, qS]
  refine wpAnyZ_done (by kernel_rfl) ?_ _
  obtain ⟨W2, hW2⟩ : ∃ V, V = ((W1.setCell ⟨w.heap.size + 1, 0, none⟩ (.int .i64 19)).setCell ⟨w.heap.size + 1, 4, none⟩ (.int .i64 a)).drew := ⟨_, rfl⟩
  rw [← hW2]
  have hhb : Hits (· = w.heap.size + 1) W1 W2 := by rw [hW2]; exact (((Hits.refl (· = w.heap.size + 1) W1).setCell (g := w.heap.size + 1) (fun _ => rfl) 0 _).setCell (g := w.heap.size + 1) (fun _ => rfl) 4 _).thenLater (Later.refl _).dr
  have hA2 : GmAt W2 g d c := HAT.out.frame hhb (fun k hk e => by have h1 := HXLT.out k (by rw [HX.out]; exact hk); omega) fun f hf k hk e => by have h1 := HRO.out f hf k hk; omega
  have HK2 := hide_ (show W2.heap[w.heap.size + 1]? = some (.cells #[.int .i64 19, .int .i64 80, .int .i64 60, .int .i64 300, .int .i64 a, .int .i64 0, .int .i64 0, .slice none 0 0] 53 (0, 0)) by rw [hW2]; exact later_row (Later.refl _).dr (heap_setCell_same _ _ 4 _ _ (.int .i64 a) (heap_setCell_same W1 _ 0 _ _ (.int .i64 19) HK.out)))
  have HH2 := hide_ (show Hits (· ∈ X) w W2 from ((Hits.later HL.out).trans (hhb.mono (G := fun k => w.heap.size ≤ k) fun k _ h => by omega) (fun i hi h => by omega)))
  obtain ⟨V2, hV2⟩ : ∃ V, V = W2.drew := ⟨_, rfl⟩
  have hgr2 := GmAt.cells hA2
  unfold gmRow at hgr2
  have k0 := Stands.cell (X := fun q => q = g ∨ q = w.heap.size + 1) (show W2.cell? ⟨g, 0, none⟩ = some (.pointer (some ⟨d.fb, 0, none⟩)) from cell_of_row _ _ 0 _ _ (0, 0) hgr2) (.inl rfl)
  have b0 := Stands.cell (X := fun q => q = g ∨ q = w.heap.size + 1) (show W2.cell? ⟨w.heap.size + 1, 0, none⟩ = some (.int .i64 19) from cell_of_row _ _ 0 _ _ (0, 0) HK2.out) (.inr rfl)
  have b1 := Stands.cell (X := fun q => q = g ∨ q = w.heap.size + 1) (show W2.cell? ⟨w.heap.size + 1, 1, none⟩ = some (.int .i64 80) from cell_of_row _ _ 1 _ _ (0, 0) HK2.out) (.inr rfl)
  have b2 := Stands.cell (X := fun q => q = g ∨ q = w.heap.size + 1) (show W2.cell? ⟨w.heap.size + 1, 2, none⟩ = some (.int .i64 60) from cell_of_row _ _ 2 _ _ (0, 0) HK2.out) (.inr rfl)
  have b3 := Stands.cell (X := fun q => q = g ∨ q = w.heap.size + 1) (show W2.cell? ⟨w.heap.size + 1, 3, none⟩ = some (.int .i64 300) from cell_of_row _ _ 3 _ _ (0, 0) HK2.out) (.inr rfl)
  have b4 := Stands.cell (X := fun q => q = g ∨ q = w.heap.size + 1) (show W2.cell? ⟨w.heap.size + 1, 4, none⟩ = some (.int .i64 a) from cell_of_row _ _ 4 _ _ (0, 0) HK2.out) (.inr rfl)
  have b5 := Stands.cell (X := fun q => q = g ∨ q = w.heap.size + 1) (show W2.cell? ⟨w.heap.size + 1, 5, none⟩ = some (.int .i64 0) from cell_of_row _ _ 5 _ _ (0, 0) HK2.out) (.inr rfl)
  have b6 := Stands.cell (X := fun q => q = g ∨ q = w.heap.size + 1) (show W2.cell? ⟨w.heap.size + 1, 6, none⟩ = some (.int .i64 0) from cell_of_row _ _ 6 _ _ (0, 0) HK2.out) (.inr rfl)
  have b7 := Stands.cell (X := fun q => q = g ∨ q = w.heap.size + 1) (show W2.cell? ⟨w.heap.size + 1, 7, none⟩ = some (.slice none 0 0) from cell_of_row _ _ 7 _ _ (0, 0) HK2.out) (.inr rfl)
  have hld2 := (Later.refl W2).dr
  have HAD := hide_ (ObjAt.later hA2 hld2)
  have HGF := hide_ (show g ∉ c.Xf from (GmAt.part hA2 (i := 0) (x := c.Xf) rfl).2.2)
  have HFL := hide_ (show ∀ k ∈ c.Xf, k < w.heap.size from fun k hk => HXLT.out k (by rw [HX.out]; exact (GmAt.part hA2 (i := 0) (x := c.Xf) rfl).2.1 k hk))
  have HG2 := hide_ ((HG.out.hits HH2.out HGX.out).later hld2)
  have HTK := hide_ (take_alive (GmAt.p HAD.out).fr HOK.out HG2.out (fun hm => HGX.out (by rw [HX.out]; exact (GmAt.part HAD.out (i := 0) (x := c.Xf) rfl).2.1 _ hm)) HGO.out HLEN.out HND.out HEP.out 0 0 none 0 0 (frm := 80) (a := a))
  have glt2 := theap_lt hgr2
  have klt2 := theap_lt HK2.out
  clear hV2 hgr2 hA2 hhb hW2 k4 y0 y4 f0 f4 f0' f4' blt klt hld2
  go_wp2_with fail
  refine wp_region_z (R := Stands (fun q => q = g ∨ q = w.heap.size + 1)) [7] (by kernel_rfl) ?_
  refine wpAnyZ_pure (Stands.steady (fun q => q = g ∨ q = w.heap.size + 1)) 0 (v := ?_) rfl (by kernel_rfl) (by kernel_rfl) (by kernel_rfl) (fun _ _ _ h => h) (by rfl) (by intro W; go_simp; with_reducible rfl) ?_; try simp only [Act.put, qA, qZ, qS]
  refine wpAnyZ_pure (Stands.steady (fun q => q = g ∨ q = w.heap.size + 1)) 1 (v := ?_) rfl (by kernel_rfl) (by kernel_rfl) (by kernel_rfl) (fun _ _ _ h => h) (by rfl) (by intro W; go_simp; with_reducible rfl) ?_; try simp only [Act.put, qA, qZ, qS]
  refine wpAnyZ_pure (Stands.steady (fun q => q = g ∨ q = w.heap.size + 1)) 2 (v := ?_) rfl (by kernel_rfl) (by kernel_rfl) (by kernel_rfl) (fun _ _ _ h => h) (by rfl) (by intro W; go_simp; with_reducible rfl) ?_; try simp only [Act.put, qA, qZ, qS]
  refine wpAnyZ_pure (Stands.steady (fun q => q = g ∨ q = w.heap.size + 1)) 3 (v := ?_) rfl (by kernel_rfl) (by kernel_rfl) (by kernel_rfl) (fun _ _ _ h => h) (by rfl) (by intro W; go_simp; with_reducible rfl) ?_; try simp only [Act.put, qA, qZ, qS]
  refine wpAnyZ_take (Stands.steady (fun q => q = g ∨ q = w.heap.size + 1)) 4 (v := ?_) rfl (by kernel_rfl) (by kernel_rfl) (by kernel_rfl) (by kernel_rfl) (fun _ _ _ h => h) (by rfl) (by intro W hSw; have hS0 := Stands.trans (show Stands (fun q => q = g ∨ q = w.heap.size + 1) W2 _ from by repeat first | with_reducible assumption | with_reducible exact Stands.refl _ _ | with_reducible refine Stands.alloc ?_ _ | with_reducible refine Stands.drew ?_ | with_reducible refine Stands.drewL ?_ | with_reducible refine Stands.setCell ?_ (by assumption) _ _ | assumption | refine Stands.trans ?_ (by assumption)) hSw; go_simp; with_reducible rfl) ?_; try simp only [Act.put, qA, qZ, qS]
  refine wpAnyZ_take (Stands.steady (fun q => q = g ∨ q = w.heap.size + 1)) 5 (v := ?_) rfl (by kernel_rfl) (by kernel_rfl) (by kernel_rfl) (by kernel_rfl) (fun _ _ _ h => h) (by rfl) (by intro W hSw; have hS0 := Stands.trans (show Stands (fun q => q = g ∨ q = w.heap.size + 1) W2 _ from by repeat first | with_reducible assumption | with_reducible exact Stands.refl _ _ | with_reducible refine Stands.alloc ?_ _ | with_reducible refine Stands.drew ?_ | with_reducible refine Stands.drewL ?_ | with_reducible refine Stands.setCell ?_ (by assumption) _ _ | assumption | refine Stands.trans ?_ (by assumption)) hSw; go_simp; with_reducible rfl) ?_; try simp only [Act.put, qA, qZ, qS]
  refine wpAnyZ_one 6 (by kernel_rfl) rfl (fun K hK => ?_)
  go_simp
  refine HTK.out.mono ?_; rintro e w5 h5; obtain ⟨A5, n5, c5, Y5, X5, rfl, hn5, hg5, hp5, hv5, hy5, hh5, hf5, hhx⟩ := GmAt.take HAD.out h5; have hs5 : Stands (fun q => q = g ∨ q = w.heap.size + 1) _ w5 := hhx.stands (fun k hk hF hX => by rcases hX with e | e; (exact HGF.out (e ▸ hF)); (have h1 := HFL.out k hF; omega)); have HSN := hide_ (gsend_any hg5 hp5 hn5 hv5 hy5 HSD.out.all (by rw [← hn5]; exact HSD.out.n)); have HH5 := hide_ hh5; have HF5 := hide_ hf5; clear hhx hp5 hv5 hy5 h5 hg5
  refine hK.out _ _ (by repeat first | with_reducible assumption | with_reducible exact Stands.refl _ _ | with_reducible refine Stands.alloc ?_ _ | with_reducible refine Stands.drew ?_ | with_reducible refine Stands.drewL ?_ | with_reducible refine Stands.setCell ?_ (by assumption) _ _ | assumption | refine Stands.of_later ?_) ?_
  clear hK K; try simp only [Act.put, qA, qZ, qS]
  refine wpAnyZ_loud 7 (by kernel_rfl) (by rfl) rfl (fun K hK => ?_)
  go_simp
  refine HSN.out.mono ?_; rintro e w6 h6; obtain ⟨rfl, h6⟩ := h6
  refine hK.out _ _ ?_
  clear hK K; try simp only [Act.put, qA, qZ, qS]
  refine wpAnyZ_done (by kernel_rfl) ?_ _
  go_wp2_with fail
  go_returns
  exact TSPost.of (w2 := w5) (X2 := X5) (Y := Y5) ((HH2.out.thenLater (Later.refl W2).dr).trans HH5.out (fun _ _ h => by rw [HX.out]; exact h)) (fun k hk => (HF5.out k hk).elim (fun h => .inl (by rw [HX.out]; exact h)) fun h => .inr (Nat.le_trans HH2.out.size h)) ⟨rfl, h6⟩

end Go.Proofs.YtcmollfhlillfaaGreatDoor
/-
  The law's game: judge, of no transactions.
-/
namespace Go.Proofs.YtcmollfhlillfaaGreatDoor
open Go.RowKit
set_option linter.unusedVariables false
set_option linter.unusedSimpArgs false
set_option maxHeartbeats 2000000 in
set_option maxRecDepth 100000 in
theorem djudge_nil {w : World} {B : Nat} {A : Option Addr} {c : Nat} (hB : w.heap[B]? = some (.cells #[.slice none 0 0, .int .i64 50, .int .i64 0] 99 (0, 0))) :
    Calls Tryz.prog 76 #[.pointer (some ⟨B, 0, none⟩), .int .i64 1050, .slice A 0 c] w fun e w' => ∃ b, e = .returned (.tuple #[.slice (some ⟨b, 0, none⟩) 0 0, .int .i64 0]) ∧ w'.heap[b]? = some (.cells #[] 3 (0, 0)) ∧ w.heap.size ≤ b ∧ Later w w' := by
  have z1 : w.cell? ⟨B, 1, none⟩ = some (.int .i64 50) := cell_of_row _ _ 1 _ _ (0, 0) hB
  have z2 : w.cell? ⟨B, 2, none⟩ = some (.int .i64 0) := cell_of_row _ _ 2 _ _ (0, 0) hB
  have blt := theap_lt hB
  clear hB
  go_enter Tryz.func76, Tryz.ntmps76
  go_wp2_with fail
  go_loopw [8] (fun s8 wr => s8 = .int .i64 0 ∧ Hid (wr = w)) (fun _ _ => 0)
  case atStart => exact ⟨rfl, hide_ rfl⟩
  case round =>
    obtain ⟨rfl, HB⟩ := hrel
    go_wp2_with fail
    go_loopw [9, 10] (fun s9 s10 wq => s9 = .slice (some ⟨wr.heap.size, 0, none⟩) 0 0 ∧ s10 = .int .i64 0 ∧ Hid (wq = wr.alloc (.cells #[] 3))) (fun _ _ _ => 0)
    case atStart => exact ⟨rfl, rfl, hide_ rfl⟩
    case round =>
      obtain ⟨rfl, rfl, HQ⟩ := hrel
      go_wp2_with fail
      go_ret2
      exact ⟨_, rfl, by rw [HQ.out]; exact heap_alloc_new _ _, by rw [HB.out]; exact Nat.le_refl _, by rw [HQ.out, HB.out]; exact later_alloc _ _⟩
/-- The referee's number is set. -/
theorem judged_set {w : World} {g : Nat} {d : Gm} {c : GmC} (h : GmAt w g d c) {gt n ct : Nat} (hut : c.uj = .slice (some ⟨gt, 0, none⟩) n ct) (i : Nat) (x : Int) :
    GmAt (w.setCell ⟨gt, i, none⟩ (.int .i64 x)) g { d with judged := d.judged.set i x } c ∧ Hits (· ∈ g :: c.xs.flatten) w (w.setCell ⟨gt, i, none⟩ (.int .i64 x)) := by
  obtain ⟨v, e, ho, hx⟩ := ints_holds.1 h.p.judged
  injection e with e
  rw [← e, hut] at ho hx
  have hl : d.judged.length = n := by
    obtain ⟨_, _, e2⟩ := own_form ho
    injection e2 with _ e2 _; exact e2.symm
  rw [hl] at ho
  have ho2 := own_setAt ho i (.int .i64 x)
  rw [ints_set] at ho2
  have hpt := h.part (i := 6) (x := c.Xj) rfl
  have h1 := h.same 6 (x := c.Xj) (x' := c.Xj) (cc := [c.uj]) (f' := intsR.fld (d.judged.set i x)) (d' := { d with judged := d.judged.set i x }) (c' := c) rfl
    ((Hits.refl (· ∈ c.Xj) w).setCell (g := gt) (fun _ => by rw [hx]; simp [obL, Value.ownBlock]) i (.int .i64 x))
    (ints_holds.2 ⟨_, rfl, by rw [hut, List.length_set, hl]; exact ho2, by rw [hut]; exact hx⟩) hpt.1 (fun k hk => .inl hk) (fun k hk => by cases hk) rfl rfl rfl rfl
  exact ⟨h1.1, h1.2.1⟩
/-- What the one referee said is set. -/
theorem said_set {w : World} {g : Nat} {d : Gm} {c : GmC} (h : GmAt w g d c) {gs cs : Nat} {s0 : List Int} (hs : d.said = [s0]) (hus : c.us = .slice (some ⟨gs, 0, none⟩) 1 cs) {b : Nat} (hb : w.heap[b]? = some (.cells #[] 3 (0, 0))) (hbX : b ∉ g :: c.xs.flatten) (hbZ : b ∉ d.wz) :
    ∃ X', GmH (w.setCell ⟨gs, 0, none⟩ (.slice (some ⟨b, 0, none⟩) 0 0)) g { d with said := [[]] } X' ∧ Hits (· ∈ g :: c.xs.flatten) w (w.setCell ⟨gs, 0, none⟩ (.slice (some ⟨b, 0, none⟩) 0 0)) ∧ ∀ k ∈ X', k ∈ g :: c.xs.flatten ∨ k = b := by
  obtain ⟨v, rows, xs, e, ho, hr, hx⟩ := h.p.said
  injection e with e
  rw [← e, hus, hs] at ho
  rw [← e, hus] at hx
  have hgs : gs ∈ c.Xs := by rw [hx]; simp [obL, Value.ownBlock]
  have hbs : b ≠ gs := fun eb => hbX (by rw [eb]; exact (h.part (i := 7) (x := c.Xs) rfl).2.1 gs hgs)
  have ho2 := own_setAt (show w.ownsRow 0 35 1 (.slice (some ⟨gs, 0, none⟩) 1 cs) 1 rows.flatten from ho) 0 (.slice (some ⟨b, 0, none⟩) 0 0)
  have hh := (Hits.refl (· ∈ c.Xs) w).setCell (g := gs) (fun _ => hgs) 0 (.slice (some ⟨b, 0, none⟩) 0 0)
  have hb2 : (w.setCell ⟨gs, 0, none⟩ (.slice (some ⟨b, 0, none⟩) 0 0)).heap[b]? = some (.cells #[] 3 (0, 0)) := ((Hits.refl (· = gs) w).setCell (g := gs) (fun _ => rfl) 0 _).row hb hbs
  have hfl : rows.flatten.set 0 (.slice (some ⟨b, 0, none⟩) 0 0) = [.slice (some ⟨b, 0, none⟩) 0 0] := by
    have h1 : rows.flatten.length = 1 := by have := hr.flat_len; rw [hs] at this; exact this
    match rows.flatten, h1 with
    | [u], _ => rfl
  rw [hfl] at ho2
  have hint : intsR.holds (w.setCell ⟨gs, 0, none⟩ (.slice (some ⟨b, 0, none⟩) 0 0)) [.slice (some ⟨b, 0, none⟩) 0 0] [] [b] := ints_holds.2 ⟨_, rfl, ⟨rfl, .inr ⟨b, 0, #[], rfl, Nat.zero_le _, hb2, Nat.le_refl _, Nat.zero_le _, rfl, rfl⟩⟩, rfl⟩
  have hc : saidR.holds (w.setCell ⟨gs, 0, none⟩ (.slice (some ⟨b, 0, none⟩) 0 0)) [c.us] [[]] (obL c.us ++ [b]) := ⟨c.us, [[.slice (some ⟨b, 0, none⟩) 0 0]], [[b]], rfl, by rw [hus]; exact ho2, ⟨hint, trivial⟩, rfl⟩
  have hob : ∀ k ∈ obL c.us, k = gs := fun k hk => by rw [hus] at hk; simpa [obL, Value.ownBlock] using hk
  have hrow := h.turn (i := 7) (x := c.Xs) (x' := obL c.us ++ [b]) (c' := [c.us]) (f' := saidR.fld [[]]) rfl (hh.mono fun _ _ hk => .inr hk) (by
    show _ = some (Obj.cells (gmRow d c) 46 (0, 0))
    exact hh.row h.cells (h.part (i := 7) (x := c.Xs) rfl).2.2) hc
    (List.nodup_append.2 ⟨obL_nodup _, by simp, fun a ha b' hb' => by rw [List.mem_singleton.1 hb', hob a ha]; exact fun e => hbs e.symm⟩)
    (fun k hk => by
      rcases List.mem_append.1 hk with h1 | h1
      · left; rw [hob k h1]; exact hgs
      · rw [List.mem_singleton.1 h1]; exact .inr ⟨hbX, gm_ro hbZ⟩) (fun k hk => by cases hk)
  refine ⟨_, ⟨{ c with Xs := obL c.us ++ [b] }, hrow.1, rfl⟩, hrow.2.1, fun k hk => ?_⟩
  rcases hrow.2.2 k hk with h1 | h1
  · exact .inl h1
  · rcases List.mem_append.1 h1 with h2 | h2
    · left; rw [hob k h2]; exact (h.part (i := 7) (x := c.Xs) rfl).2.1 gs hgs
    · exact .inr (List.mem_singleton.1 h2)
def JudgedPost (w : World) (g : Nat) (X : List Nat) (d : Gm) (e : Ending) (w' : World) : Prop := e = .returned (.bool true) ∧ ∃ X', GmH w' g d X' ∧ Hits (· ∈ X) w w' ∧ Fresh w X X'
set_option maxHeartbeats 8000000 in
set_option maxRecDepth 100000 in
theorem gjudge_nil {w : World} {g : Nat} {d : Gm} {X : List Nat} (h : GmH w g d X) (hj : d.judged = [50]) {s0 : List Int} (hs : d.said = [s0]) (hm : d.mks = [(50, 0)]) (Ab : Option Addr) (cb : Nat) :
    Calls Tryz.prog 43 #[.pointer (some ⟨g, 0, none⟩), .agg #[.int .i64 3, .int .i64 60, .int .i64 80, .int .i64 300, .int .i64 50, .int .i64 1050, .int .i64 0, .slice Ab 0 cb]] w (JudgedPost w g X { d with judged := [1050], said := [[]] }) := by
  have HXLT := hide_ h.lt
  have HZLT := hide_ h.zlt
  obtain ⟨c, hat, hX⟩ := h
  obtain ⟨Wm, hW⟩ : ∃ Wm, Wm = w.alloc (.cells #[.int .i64 3, .int .i64 60, .int .i64 80, .int .i64 300, .int .i64 50, .int .i64 1050, .int .i64 0, .slice Ab 0 cb] 53) := ⟨_, rfl⟩
  have hl : Later w Wm := by rw [hW]; exact later_alloc _ _
  have hbr : Wm.heap[w.heap.size]? = some (.cells #[.int .i64 3, .int .i64 60, .int .i64 80, .int .i64 300, .int .i64 50, .int .i64 1050, .int .i64 0, .slice Ab 0 cb] 53 (0, 0)) := by rw [hW]; exact heap_alloc_new _ _
  have hat1 := hat.later hl
  have hgr := GmAt.cells hat1
  -- the referee's number
  obtain ⟨v, e, ho, hx⟩ := ints_holds.1 (GmAt.p hat1).judged
  injection e with e
  obtain ⟨gj', cj, hv⟩ := own_form ho
  obtain ⟨gj, orr, ev, l0⟩ := (Rd.of_own (show Wm.ownsRow 0 3 1 (.slice gj' d.judged.length cj) d.judged.length (ints d.judged) by rw [← hv]; exact ho)).int (show d.judged[0]? = some 50 by rw [hj]; rfl)
  subst ev
  have horr : orr = 0 := by
    rcases ho.2 with ⟨e1, _⟩ | ⟨g2, _, _, e1, _⟩
    · rw [hv] at e1; cases e1
    · rw [hv] at e1; injection e1 with e1 _ _; injection e1 with e1; injection e1 with _ e1 _
  subst horr
  have huj : c.uj = .slice (some ⟨gj, 0, none⟩) 1 cj := by rw [e, hv, hj]; rfl
  rw [Nat.add_zero] at l0
  -- marks
  obtain ⟨Am, cm, hum⟩ : ∃ Am cm, c.um = .slice Am 1 cm := by
    obtain ⟨Am, cm, e2⟩ := slice_len (GmAt.p hat1).mks
    injection e2 with e2
    rw [hm] at e2
    exact ⟨Am, cm, e2⟩
  have hmk := (GmAt.p hat1).mks
  rw [hum] at hmk
  obtain ⟨_, gm, cells, x, eA, hcl, B, mc, Ym, ecl, hB, hmm, _⟩ := slice_cells hmk (i := 0) (el := (50, 0)) (by show d.mks[0]? = _; rw [hm]; rfl) (by decide)
  subst eA
  rw [ecl] at hcl
  have m0 : Wm.cell? ⟨gm, 0, none⟩ = some (.pointer (some ⟨B, 0, none⟩)) := hcl 0 _ rfl
  have hmc : mc = #[.slice none 0 0, .int .i64 50, .int .i64 0] := by
    apply Array.toList_inj.1
    exact hmm.1
  subst hmc
  -- said
  obtain ⟨gs, cs, hus⟩ : ∃ gs cs, c.us = .slice (some ⟨gs, 0, none⟩) 1 cs := by
    obtain ⟨As, cs, e2⟩ := slice_len (GmAt.p hat1).said
    injection e2 with e2
    have h3 := (GmAt.p hat1).said
    rw [e2] at h3
    obtain ⟨_, gs, _, _, eA, _⟩ := slice_cells h3 (i := 0) (el := s0) (by show d.said[0]? = _; rw [hs]; rfl) (by decide)
    subst eA
    rw [hs] at e2
    exact ⟨gs, cs, e2⟩
  unfold gmRow at hgr
  rw [huj, hum, hus] at hgr
  have glt := theap_lt hgr
  have jlt := cell_lt l0
  have blt := theap_lt hbr
  have HAT := hide_ hat1; have HB := hide_ hbr; have HGR := hide_ hgr; have HJ := hide_ l0; have HW := hide_ hW; have HL := hide_ hl; have HUJ := hide_ huj; have HUM := hide_ hum; have HUS := hide_ hus; have HX := hide_ hX; have HS := hide_ hs; have HJD := hide_ hj; have HM0 := hide_ m0; have HBB := hide_ hB; have HLM := hide_ (Later.refl Wm); have HBM := hide_ hbr
  have k2 : Wm.cell? ⟨w.heap.size, 2, none⟩ = some (.int .i64 80) := cell_of_row _ _ 2 _ _ (0, 0) hbr
  have k4 := later_drew_cell (show Wm.cell? ⟨w.heap.size, 4, none⟩ = some (.int .i64 50) from cell_of_row _ _ 4 _ _ (0, 0) HB.out)
  have k5 := later_drew_cell (show Wm.cell? ⟨w.heap.size, 5, none⟩ = some (.int .i64 1050) from cell_of_row _ _ 5 _ _ (0, 0) HB.out)
  have g8 := later_drew_cell (show Wm.cell? ⟨g, 8, none⟩ = some (.slice (some ⟨gj, 0, none⟩) 1 cj) from cell_of_row _ _ 8 _ _ (0, 0) HGR.out)
  have j0 := later_drew_cell HJ.out
  clear hat hat1 hX hW hl hbr hgr e ho hx hv huj hum hus hj hs hm l0 hmk hcl hB hmm ecl m0
  go_enter Tryz.func43, Tryz.ntmps43
  go_wp2_with (rw [← HW.out])
  refine wp_region_k (by kernel_rfl) ?_
  refine wKt 0 (v := ?_) rfl (by intro W hSw; go_simp; with_reducible rfl) ?_; try simp only [Act.put, qA, qZ, qS]
  refine wKt 1 (v := ?_) rfl (by intro W hSw; go_simp; with_reducible rfl) ?_; try simp only [Act.put, qA, qZ, qS]
  refine wKt 2 (v := ?_) rfl (by intro W hSw; go_simp; with_reducible rfl) ?_; try simp only [Act.put, qA, qZ, qS]
  refine wKt 3 (v := ?_) rfl (by intro W hSw; go_simp; with_reducible rfl) ?_; try simp only [Act.put, qA, qZ, qS]
  refine wKt 4 (v := ?_) rfl (by intro W hSw; go_simp; with_reducible rfl) ?_; try simp only [Act.put, qA, qZ, qS]
  refine wKt 5 (v := ?_) rfl (by intro W hSw; go_simp; with_reducible rfl) ?_; try simp only [Act.put, qA, qZ, qS]
  refine wKt 6 (v := ?_) rfl (by intro W hSw; go_simp; with_reducible rfl) ?_; try simp only [Act.put, qA, qZ, qS]
  refine wKt 7 (v := ?_) rfl (by intro W hSw; go_simp; with_reducible rfl) ?_; try simp only [Act.put, qA, qZ, qS]
  refine wKt 8 (v := ?_) rfl (by intro W hSw; go_simp; with_reducible rfl) ?_; try simp only [Act.put, qA, qZ, qS]
  refine wKt 9 (v := ?_) rfl (by intro W hSw; go_simp; with_reducible rfl) ?_; try simp only [Act.put, qA, qZ, qS]
  refine wpAnyK_done (by kernel_rfl) ?_ _
  clear k4 k5 g8 j0 glt jlt blt
  obtain ⟨W1, hV⟩ : ∃ V, V = Wm.drew := ⟨_, rfl⟩
  have hld := (Later.refl Wm).dr
  rw [← hV] at hld ⊢
  have HLMA := hide_ hld
  have HB := hide_ (later_row hld HB.out)
  have HGR := hide_ (later_row hld HGR.out)
  have HJ := hide_ ((hld.cell (cell_lt HJ.out)).trans HJ.out)
  have HAT := hide_ (ObjAt.later HAT.out hld)
  have HL := hide_ (HL.out.trans hld)
  have glt := theap_lt HGR.out
  have jlt := cell_lt HJ.out
  have blt := theap_lt HB.out
  clear hV hld
  have k4 := later_drew_cell (show W1.cell? ⟨w.heap.size, 4, none⟩ = some (.int .i64 50) from cell_of_row _ _ 4 _ _ (0, 0) HB.out)
  have k5 := later_drew_cell (show W1.cell? ⟨w.heap.size, 5, none⟩ = some (.int .i64 1050) from cell_of_row _ _ 5 _ _ (0, 0) HB.out)
  have g8 := later_drew_cell (show W1.cell? ⟨g, 8, none⟩ = some (.slice (some ⟨gj, 0, none⟩) 1 cj) from cell_of_row _ _ 8 _ _ (0, 0) HGR.out)
  have j0 := later_drew_cell HJ.out
  go_wp2_with fail
  refine wp_region_k (by kernel_rfl) ?_
  refine wKt 0 (v := ?_) rfl (by intro W hSw; go_simp; with_reducible rfl) ?_; try simp only [Act.put, qA, qZ, qS]
  refine wKt 1 (v := ?_) rfl (by intro W hSw; go_simp; with_reducible rfl) ?_; try simp only [Act.put, qA, qZ, qS]
  refine wKt 2 (v := ?_) rfl (by intro W hSw; go_simp; with_reducible rfl) ?_; try simp only [Act.put, qA, qZ, qS]
  refine wKt 3 (v := ?_) rfl (by intro W hSw; go_simp; with_reducible rfl) ?_; try simp only [Act.put, qA, qZ, qS]
  refine wKt 4 (v := ?_) rfl (by intro W hSw; go_simp; with_reducible rfl) ?_; try simp only [Act.put, qA, qZ, qS]
  refine wKt 5 (v := ?_) rfl (by intro W hSw; go_simp; with_reducible rfl) ?_; try simp only [Act.put, qA, qZ, qS]
  refine wKt 6 (v := ?_) rfl (by intro W hSw; go_simp; with_reducible rfl) ?_; try simp only [Act.put, qA, qZ, qS]
  refine wKt 7 (v := ?_) rfl (by intro W hSw; go_simp; with_reducible rfl) ?_; try simp only [Act.put, qA, qZ, qS]
  refine wKt 8 (v := ?_) rfl (by intro W hSw; go_simp; with_reducible rfl) ?_; try simp only [Act.put, qA, qZ, qS]
  refine wKt 9 (v := ?_) rfl (by intro W hSw; go_simp; with_reducible rfl) ?_; try simp only [Act.put, qA, qZ, qS]
  refine wpAnyK_done (by kernel_rfl) ?_ _
  clear k4 k5 g8 j0 glt jlt blt
  obtain ⟨W2, hV⟩ : ∃ V, V = W1.drew := ⟨_, rfl⟩
  have hld := (Later.refl W1).dr
  rw [← hV] at hld ⊢
  have HLMB := hide_ hld
  have HB := hide_ (later_row hld HB.out)
  have HGR := hide_ (later_row hld HGR.out)
  have HJ := hide_ ((hld.cell (cell_lt HJ.out)).trans HJ.out)
  have HAT := hide_ (ObjAt.later HAT.out hld)
  have HL := hide_ (HL.out.trans hld)
  have glt := theap_lt HGR.out
  have jlt := cell_lt HJ.out
  have blt := theap_lt HB.out
  clear hV hld
  have HLM2 := hide_ (show Later Wm W2 from HLMA.out.trans HLMB.out)
  have k6 : W2.cell? ⟨w.heap.size, 6, none⟩ = some (.int .i64 0) := cell_of_row _ _ 6 _ _ (0, 0) HB.out
  have k7 : W2.cell? ⟨w.heap.size, 7, none⟩ = some (.slice Ab 0 cb) := cell_of_row _ _ 7 _ _ (0, 0) HB.out
  go_wp2_with fail
  obtain ⟨W3, hW3⟩ : ∃ V, V = (W2.alloc (.cells #[] 30)).alloc (.cells #[.slice Ab 0 cb, .bool false] 145) := ⟨_, rfl⟩
  have HW3 := hide_ hW3
  have hl3 : Later W2 W3 := by rw [hW3]; exact (later_alloc _ _).al _
  have hrr : W3.heap[W2.heap.size + 1]? = some (.cells #[.slice Ab 0 cb, .bool false] 145 (0, 0)) := by rw [hW3]; exact row_new2 _ _ _
  have HRR := hide_ hrr
  have HB := hide_ (later_row hl3 HB.out)
  have HGR := hide_ (later_row hl3 HGR.out)
  have HJ := hide_ ((hl3.cell (cell_lt HJ.out)).trans HJ.out)
  have HAT := hide_ (ObjAt.later HAT.out hl3)
  have HLM3 := hide_ (show Later Wm W3 from (HLM2.out.trans hl3))
  have HL := hide_ (HL.out.trans hl3)
  have HS2 := hide_ (show w.heap.size < W2.heap.size by have h1 := HLM2.out.size; have h2 := theap_lt HBM.out; omega)
  clear hW3 hl3 hrr k6 k7 glt jlt blt
  go_loopw [6, 8] (fun s6 s8 wr => s6 = .slice (some ⟨W2.heap.size, 0, none⟩) 0 0 ∧ s8 = .int .i64 0 ∧ Hid (wr = W3)) (fun _ _ _ => 0)
  case atStart => exact ⟨rfl, rfl, HW3.out ▸ hide_ rfl⟩
  case round =>
    obtain ⟨rfl, rfl, HQ⟩ := hrel
    have hq := HQ.out
    subst hq
    have k6 : wr.cell? ⟨w.heap.size, 6, none⟩ = some (.int .i64 0) := cell_of_row _ _ 6 _ _ (0, 0) HB.out
    have k5 := Stands.cell (X := fun q => q = g ∨ q = gm ∨ q = w.heap.size) (show wr.cell? ⟨w.heap.size, 5, none⟩ = some (.int .i64 1050) from cell_of_row _ _ 5 _ _ (0, 0) HB.out) (.inr (.inr rfl))
    have g7 := Stands.cell (X := fun q => q = g ∨ q = gm ∨ q = w.heap.size) (show wr.cell? ⟨g, 7, none⟩ = some (.slice (some ⟨gm, 0, none⟩) 1 cm) from cell_of_row _ _ 7 _ _ (0, 0) HGR.out) (.inl rfl)
    have n0 := Stands.cell (X := fun q => q = g ∨ q = gm ∨ q = w.heap.size) ((HLM3.out.cell (cell_lt HM0.out)).trans HM0.out) (.inr (.inl rfl))
    have HJU := hide_ (djudge_nil (A := some ⟨W2.heap.size, 0, none⟩) (c := 0) (later_row (HLM3.out.trans (Later.refl wr).dr) HBB.out))
    go_wp2_with fail
    refine wp_region_z (R := Stands (fun q => q = g ∨ q = gm ∨ q = w.heap.size)) [] (by kernel_rfl) ?_
    refine wpAnyZ_take0 (Stands.steady (fun q => q = g ∨ q = gm ∨ q = w.heap.size)) 0 (v := ?_) rfl (by kernel_rfl) (by kernel_rfl) (by kernel_rfl) (fun _ _ _ h => h) (by rfl) (by intro W hSw; go_simp; with_reducible rfl) ?_; try simp only [Act.put, qA, qZ, qS]
    refine wpAnyZ_take0 (Stands.steady (fun q => q = g ∨ q = gm ∨ q = w.heap.size)) 1 (v := ?_) rfl (by kernel_rfl) (by kernel_rfl) (by kernel_rfl) (fun _ _ _ h => h) (by rfl) (by intro W hSw; go_simp; with_reducible rfl) ?_; try simp only [Act.put, qA, qZ, qS]
    refine wpAnyZ_take0 (Stands.steady (fun q => q = g ∨ q = gm ∨ q = w.heap.size)) 2 (v := ?_) rfl (by kernel_rfl) (by kernel_rfl) (by kernel_rfl) (fun _ _ _ h => h) (by rfl) (by intro W hSw; go_simp; with_reducible rfl) ?_; try simp only [Act.put, qA, qZ, qS]
    refine wpAnyZ_take0 (Stands.steady (fun q => q = g ∨ q = gm ∨ q = w.heap.size)) 3 (v := ?_) rfl (by kernel_rfl) (by kernel_rfl) (by kernel_rfl) (fun _ _ _ h => h) (by rfl) (by intro W hSw; have hS0 := Stands.trans (show Stands (fun q => q = g ∨ q = gm ∨ q = w.heap.size) wr _ from by repeat first | with_reducible assumption | with_reducible exact Stands.refl _ _ | with_reducible refine Stands.alloc ?_ _ | with_reducible refine Stands.drew ?_ | with_reducible refine Stands.drewL ?_ | with_reducible refine Stands.setCell ?_ (by assumption) _ _ | assumption | refine Stands.trans ?_ (by assumption)) hSw; go_simp; with_reducible rfl) ?_; try simp only [Act.put, qA, qZ, qS]
    refine wpAnyZ_take0 (Stands.steady (fun q => q = g ∨ q = gm ∨ q = w.heap.size)) 4 (v := ?_) rfl (by kernel_rfl) (by kernel_rfl) (by kernel_rfl) (fun _ _ _ h => h) (by rfl) (by intro W hSw; go_simp; with_reducible rfl) ?_; try simp only [Act.put, qA, qZ, qS]
    refine wpAnyZ_take0 (Stands.steady (fun q => q = g ∨ q = gm ∨ q = w.heap.size)) 5 (v := ?_) rfl (by kernel_rfl) (by kernel_rfl) (by kernel_rfl) (fun _ _ _ h => h) (by rfl) (by intro W hSw; go_simp; with_reducible rfl) ?_; try simp only [Act.put, qA, qZ, qS]
    refine wpAnyZ_take0 (Stands.steady (fun q => q = g ∨ q = gm ∨ q = w.heap.size)) 6 (v := ?_) rfl (by kernel_rfl) (by kernel_rfl) (by kernel_rfl) (fun _ _ _ h => h) (by rfl) (by intro W hSw; have hS0 := Stands.trans (show Stands (fun q => q = g ∨ q = gm ∨ q = w.heap.size) wr _ from by repeat first | with_reducible assumption | with_reducible exact Stands.refl _ _ | with_reducible refine Stands.alloc ?_ _ | with_reducible refine Stands.drew ?_ | with_reducible refine Stands.drewL ?_ | with_reducible refine Stands.setCell ?_ (by assumption) _ _ | assumption | refine Stands.trans ?_ (by assumption)) hSw; go_simp; with_reducible rfl) ?_; try simp only [Act.put, qA, qZ, qS]
    refine wpAnyZ_take0 (Stands.steady (fun q => q = g ∨ q = gm ∨ q = w.heap.size)) 7 (v := ?_) rfl (by kernel_rfl) (by kernel_rfl) (by kernel_rfl) (fun _ _ _ h => h) (by rfl) (by intro W hSw; go_simp; with_reducible rfl) ?_; try simp only [Act.put, qA, qZ, qS]
    refine wpAnyZ_take0 (Stands.steady (fun q => q = g ∨ q = gm ∨ q = w.heap.size)) 8 (v := ?_) rfl (by kernel_rfl) (by kernel_rfl) (by kernel_rfl) (fun _ _ _ h => h) (by rfl) (by intro W hSw; have hS0 := Stands.trans (show Stands (fun q => q = g ∨ q = gm ∨ q = w.heap.size) wr _ from by repeat first | with_reducible assumption | with_reducible exact Stands.refl _ _ | with_reducible refine Stands.alloc ?_ _ | with_reducible refine Stands.drew ?_ | with_reducible refine Stands.drewL ?_ | with_reducible refine Stands.setCell ?_ (by assumption) _ _ | assumption | refine Stands.trans ?_ (by assumption)) hSw; go_simp; with_reducible rfl) ?_; try simp only [Act.put, qA, qZ, qS]
    refine wpAnyZ_take0 (Stands.steady (fun q => q = g ∨ q = gm ∨ q = w.heap.size)) 9 (v := ?_) rfl (by kernel_rfl) (by kernel_rfl) (by kernel_rfl) (fun _ _ _ h => h) (by rfl) (by intro W hSw; go_simp; with_reducible rfl) ?_; try simp only [Act.put, qA, qZ, qS]
    refine wpAnyZ_one 10 (by kernel_rfl) rfl (fun K hK => ?_)
    go_simp
    refine HJU.out.mono ?_; rintro e w5 ⟨b5, rfl, hb5, hbs5, hl5⟩; have hs5 : Stands (fun q => q = g ∨ q = gm ∨ q = w.heap.size) _ w5 := Stands.of_later hl5
    refine hK.out _ _ (by repeat first | with_reducible assumption | with_reducible exact Stands.refl _ _ | with_reducible refine Stands.alloc ?_ _ | with_reducible refine Stands.drew ?_ | with_reducible refine Stands.drewL ?_ | with_reducible refine Stands.setCell ?_ (by assumption) _ _ | assumption | refine Stands.of_later ?_) ?_
    clear hK K; try simp only [Act.put, qA, qZ, qS]
    refine wpAnyZ_take0 (Stands.steady (fun q => q = g ∨ q = gm ∨ q = w.heap.size)) 11 (v := ?_) rfl (by kernel_rfl) (by kernel_rfl) (by kernel_rfl) (fun _ _ _ h => h) (by rfl) (by intro W hSw; go_simp; with_reducible rfl) ?_; try simp only [Act.put, qA, qZ, qS]
    refine wpAnyZ_take0 (Stands.steady (fun q => q = g ∨ q = gm ∨ q = w.heap.size)) 12 (v := ?_) rfl (by kernel_rfl) (by kernel_rfl) (by kernel_rfl) (fun _ _ _ h => h) (by rfl) (by intro W hSw; go_simp; with_reducible rfl) ?_; try simp only [Act.put, qA, qZ, qS]
    refine wpAnyZ_take0 (Stands.steady (fun q => q = g ∨ q = gm ∨ q = w.heap.size)) 13 (v := ?_) rfl (by kernel_rfl) (by kernel_rfl) (by kernel_rfl) (fun _ _ _ h => h) (by rfl) (by intro W hSw; go_simp; with_reducible rfl) ?_; try simp only [Act.put, qA, qZ, qS]
    refine wpAnyZ_take0 (Stands.steady (fun q => q = g ∨ q = gm ∨ q = w.heap.size)) 14 (v := ?_) rfl (by kernel_rfl) (by kernel_rfl) (by kernel_rfl) (fun _ _ _ h => h) (by rfl) (by intro W hSw; go_simp; with_reducible rfl) ?_; try simp only [Act.put, qA, qZ, qS]
    refine wpAnyZ_take0 (Stands.steady (fun q => q = g ∨ q = gm ∨ q = w.heap.size)) 15 (v := ?_) rfl (by kernel_rfl) (by kernel_rfl) (by kernel_rfl) (fun _ _ _ h => h) (by rfl) (by intro W hSw; go_simp; with_reducible rfl) ?_; try simp only [Act.put, qA, qZ, qS]
    refine wpAnyZ_done (by kernel_rfl) ?_ _
    have hl5' : Later wr w5 := (Later.refl wr).dr.trans hl5
    have hat5 := ObjAt.later HAT.out hl5'
    have hgr5 := later_row hl5' HGR.out
    have hb5m := later_row hl5' HB.out
    have hrr5 := later_row hl5' HRR.out
    have hj5 := (hl5'.cell (cell_lt HJ.out)).trans HJ.out
    have HL5 := hide_ (HL.out.trans hl5')
    have HB5 := hide_ hb5
    have HBS5 := hide_ (show w.heap.size ≤ b5 by have h1 := HL.out.size; have h2 : wr.heap.size ≤ b5 := hbs5; omega)
    have jf5 : w5.frozen? ⟨gj, 0, none⟩ = false := by
      obtain ⟨v, e, ho, hx⟩ := ints_holds.1 (GmAt.p hat5).judged
      injection e with e
      rw [HUJ.out] at e
      exact frozen_own ho (by rw [← e]; rfl) 0
    have r0 : w5.cell? ⟨W2.heap.size + 1, 0, none⟩ = some (.slice Ab 0 cb) := cell_of_row _ _ 0 _ _ (0, 0) hrr5
    have r1 : w5.cell? ⟨W2.heap.size + 1, 1, none⟩ = some (.bool false) := cell_of_row _ _ 1 _ _ (0, 0) hrr5
    have rlt := theap_lt hrr5
    have k5' := Stands.cell (X := fun q => q = g ∨ q = gj ∨ q = w.heap.size) (show w5.cell? ⟨w.heap.size, 5, none⟩ = some (.int .i64 1050) from cell_of_row _ _ 5 _ _ (0, 0) hb5m) (.inr (.inr rfl))
    have g8' := Stands.cell (X := fun q => q = g ∨ q = gj ∨ q = w.heap.size) (show w5.cell? ⟨g, 8, none⟩ = some (.slice (some ⟨gj, 0, none⟩) 1 cj) from cell_of_row _ _ 8 _ _ (0, 0) hgr5) (.inl rfl)
    have j0' := Stands.cell (X := fun q => q = g ∨ q = gj ∨ q = w.heap.size) hj5 (.inr (.inl rfl))
    have jf6 : w5.drew.frozen? ⟨gj, 0, none⟩ = false := jf5
    have HA5 := hide_ hat5
    have HJ5 := hide_ hj5
    clear hs5 hl5 hl5' hb5 hbs5 hat5 hgr5 hb5m hrr5 k6 k5 g7 n0 HJU HAT HGR HB HJ HL HRR HLM3 HLMA HLMB
    go_wp2_with fail
    refine wp_region_z (R := Stands (fun q => q = g ∨ q = gj ∨ q = w.heap.size)) [8] (by kernel_rfl) ?_
    refine wpAnyZ_pure (Stands.steady (fun q => q = g ∨ q = gj ∨ q = w.heap.size)) 0 (v := ?_) rfl (by kernel_rfl) (by kernel_rfl) (by kernel_rfl) (fun _ _ _ h => h) (by rfl) (by intro W; go_simp; with_reducible rfl) ?_; try simp only [Act.put, qA, qZ, qS]
    refine wpAnyZ_pure (Stands.steady (fun q => q = g ∨ q = gj ∨ q = w.heap.size)) 1 (v := ?_) rfl (by kernel_rfl) (by kernel_rfl) (by kernel_rfl) (fun _ _ _ h => h) (by rfl) (by intro W; go_simp; with_reducible rfl) ?_; try simp only [Act.put, qA, qZ, qS]
    refine wpAnyZ_pure (Stands.steady (fun q => q = g ∨ q = gj ∨ q = w.heap.size)) 2 (v := ?_) rfl (by kernel_rfl) (by kernel_rfl) (by kernel_rfl) (fun _ _ _ h => h) (by rfl) (by intro W; go_simp; with_reducible rfl) ?_; try simp only [Act.put, qA, qZ, qS]
    refine wpAnyZ_take (Stands.steady (fun q => q = g ∨ q = gj ∨ q = w.heap.size)) 3 (v := ?_) rfl (by kernel_rfl) (by kernel_rfl) (by kernel_rfl) (by kernel_rfl) (fun _ _ _ h => h) (by rfl) (by intro W hSw; have hS0 := Stands.trans (show Stands (fun q => q = g ∨ q = gj ∨ q = w.heap.size) w5 _ from by repeat first | with_reducible assumption | with_reducible exact Stands.refl _ _ | with_reducible refine Stands.alloc ?_ _ | with_reducible refine Stands.drew ?_ | with_reducible refine Stands.drewL ?_ | with_reducible refine Stands.setCell ?_ (by assumption) _ _ | assumption | refine Stands.trans ?_ (by assumption)) hSw; go_simp; with_reducible rfl) ?_; try simp only [Act.put, qA, qZ, qS]
    refine wpAnyZ_pure (Stands.steady (fun q => q = g ∨ q = gj ∨ q = w.heap.size)) 4 (v := ?_) rfl (by kernel_rfl) (by kernel_rfl) (by kernel_rfl) (fun _ _ _ h => h) (by rfl) (by intro W; go_simp; with_reducible rfl) ?_; try simp only [Act.put, qA, qZ, qS]
    refine wpAnyZ_pure (Stands.steady (fun q => q = g ∨ q = gj ∨ q = w.heap.size)) 5 (v := ?_) rfl (by kernel_rfl) (by kernel_rfl) (by kernel_rfl) (fun _ _ _ h => h) (by rfl) (by intro W; go_simp; with_reducible rfl) ?_; try simp only [Act.put, qA, qZ, qS]
    refine wpAnyZ_take (Stands.steady (fun q => q = g ∨ q = gj ∨ q = w.heap.size)) 6 (v := ?_) rfl (by kernel_rfl) (by kernel_rfl) (by kernel_rfl) (by kernel_rfl) (fun _ _ _ h => h) (by rfl) (by intro W hSw; have hS0 := Stands.trans (show Stands (fun q => q = g ∨ q = gj ∨ q = w.heap.size) w5 _ from by repeat first | with_reducible assumption | with_reducible exact Stands.refl _ _ | with_reducible refine Stands.alloc ?_ _ | with_reducible refine Stands.drew ?_ | with_reducible refine Stands.drewL ?_ | with_reducible refine Stands.setCell ?_ (by assumption) _ _ | assumption | refine Stands.trans ?_ (by assumption)) hSw; go_simp; with_reducible rfl) ?_; try simp only [Act.put, qA, qZ, qS]
    refine wpAnyZ_pure (Stands.steady (fun q => q = g ∨ q = gj ∨ q = w.heap.size)) 7 (v := ?_) rfl (by kernel_rfl) (by kernel_rfl) (by kernel_rfl) (fun _ _ _ h => h) (by rfl) (by intro W; go_simp; with_reducible rfl) ?_; try simp only [Act.put, qA, qZ, qS]
    refine wpAnyZ_loud 8 (by kernel_rfl) (by rfl) rfl (fun K hK => ?_)
    go_simp
    refine hK.out _ _ ?_
    clear hK K; try simp only [Act.put, qA, qZ, qS]
    refine wpAnyZ_done (by kernel_rfl) ?_ _
    have hjs := judged_set HA5.out HUJ.out 0 1050
    rw [HJD.out, show ([50] : List Int).set 0 1050 = [1050] from rfl] at hjs
    have hld := (Later.refl (w5.setCell ⟨gj, 0, none⟩ (.int .i64 1050))).dr
    have hgjX : gj ∈ X := by
      obtain ⟨v, e, ho, hx⟩ := ints_holds.1 (GmAt.p HA5.out).judged
      injection e with e
      rw [← e, HUJ.out] at hx
      rw [HX.out]
      exact (GmAt.part HA5.out (i := 6) (x := c.Xj) rfl).2.1 gj (by rw [hx]; simp [obL, Value.ownBlock])
    have hb6 : (w5.setCell ⟨gj, 0, none⟩ (.int .i64 1050)).heap[b5]? = some (.cells #[] 3 (0, 0)) := ((Hits.refl (· = gj) w5).setCell (g := gj) (fun _ => rfl) 0 _).row HB5.out (fun e => by
      have h1 := HXLT.out gj hgjX
      have h2 := HBS5.out
      omega)
    obtain ⟨W6, hW6⟩ : ∃ V, V = (w5.setCell ⟨gj, 0, none⟩ (.int .i64 1050)).drew := ⟨_, rfl⟩
    have hA6 : GmAt W6 g { d with judged := [1050] } c := by rw [hW6]; exact ObjAt.later hjs.1 hld
    have HH6 := hide_ (show Hits (· ∈ X) w W6 by rw [hW6, HX.out]; exact ((Hits.later HL5.out).trans hjs.2 fun _ _ h => h).thenLater hld)
    have hb6' : W6.heap[b5]? = some (.cells #[] 3 (0, 0)) := by rw [hW6]; exact later_row hld hb6
    rw [← hW6]
    have hgr6 := GmAt.cells hA6
    unfold gmRow at hgr6
    rw [HUS.out] at hgr6
    have z9 : W6.cell? ⟨g, 9, none⟩ = some (.slice (some ⟨gs, 0, none⟩) 1 cs) := cell_of_row _ _ 9 _ _ (0, 0) hgr6
    have hsd := (GmAt.p hA6).said
    rw [HUS.out] at hsd
    obtain ⟨_, gs', cells6, x6, eA6, hcl6, hh6⟩ := slice_cells hsd (i := 0) (el := s0) (by show d.said[0]? = _; rw [HS.out]; rfl) (by decide)
    injection eA6 with eA6
    injection eA6 with eA6 _ _
    subst eA6
    obtain ⟨A6, c6, e6⟩ := slice_len hh6
    subst e6
    have s0c : W6.cell? ⟨gs, 0, none⟩ = some (.slice A6 s0.length c6) := hcl6 0 _ rfl
    have sf : W6.frozen? ⟨gs, 0, none⟩ = false := by
      obtain ⟨v, rows, xs, e, ho, hr, hx⟩ := hsd
      injection e with e
      exact frozen_own ho (by rw [← e]; rfl) 0
    have hset := said_set hA6 HS.out HUS.out hb6' (by rw [← HX.out]; intro hm; have h1 := HXLT.out b5 hm; have h2 := HBS5.out; omega) (fun hm => by have h1 := (HZLT.out b5 hm).2; have h2 := HBS5.out; omega)
    rw [← HX.out] at hset
    have HF := hide_ (show JudgedPost w g X { d with judged := [1050], said := [[]] } (.returned (.bool true)) (W6.setCell ⟨gs, 0, none⟩ (.slice (some ⟨b5, 0, none⟩) 0 0)) by
      obtain ⟨X', h1, h2, h3⟩ := hset
      exact ⟨rfl, X', h1, HH6.out.trans h2 (fun _ _ h => h), fun k hk => (h3 k hk).elim .inl fun e => .inr (by rw [e]; exact HBS5.out)⟩)
    have glt := theap_lt hgr6
    have slt := cell_lt s0c
    clear hjs hld hgjX hb6 hW6 hA6 hb6' hgr6 hsd hcl6 hh6 hset jf5 jf6 k5' g8' j0' r0 r1 rlt
    go_wp2_with fail
    go_ret
    exact HF.out

end Go.Proofs.YtcmollfhlillfaaGreatDoor
