/-
  Texts of this seat in one: GDel, GCalm.
-/
import Derived.Test.YtcmollfhlillfaaGreatDoorM42
/-
  The law's game: a node says that it is alive.
-/
namespace Go.Proofs.YtcmollfhlillfaaGreatDoor
open Go.RowKit
set_option linter.unusedVariables false
set_option linter.unusedSimpArgs false
def TSPost (w : World) (g : Nat) (X : List Nat) (d : Gm) (s : Fr) (L : List Msg) (e : Ending) (w' : World) : Prop := e = .returned (.tuple #[]) ∧ ∃ X' Z', GmH w' g { d with fr := s, way := d.way ++ L, wz := Z' } X' ∧ Hits (· ∈ X) w w' ∧ Fresh w X X'
/-- The front takes something. -/
theorem GmAt.take {w1 w2 : World} {g : Nat} {d : Gm} {c : GmC} {s : Fr} {L : List Msg} {e : Ending} (h : GmAt w1 g d c) (k : TurnW w1 d.fb c.Xf s L e w2) : ∃ A n cc Y X2, e = .returned (.slice A n cc) ∧ L.length = n ∧ GmH w2 g { d with fr := s } X2 ∧ SliceP w1.heap.size 53 msgR w2 (.slice A n cc) L Y ∧ (∀ k, (Value.slice A n cc).ownBlock = some k → k ∉ X2) ∧ (∀ k ∈ Y, k ∉ X2) ∧ Hits (· ∈ g :: c.xs.flatten) w1 w2 ∧ Fresh w1 (g :: c.xs.flatten) X2 ∧ Hits (· ∈ c.Xf) w1 w2 := by
  obtain ⟨A, n, cc, Y, X', rfl, hn, hm⟩ := k
  obtain ⟨h1, h2, h3⟩ := h.front hm.hh hm.fr hm.fs
  have hsub : ∀ q ∈ g :: ({ c with Xf := X' } : GmC).xs.flatten, q ∈ g :: c.xs.flatten ∨ q ∈ X' := fun q hq => by
    rcases List.mem_cons.1 hq with rfl | hq
    · exact .inl (List.mem_cons_self ..)
    · simp only [GmC.xs, List.flatten_cons, List.flatten_nil, List.mem_append] at hq
      rcases hq with hq | hq
      · exact .inr hq
      · left
        refine List.mem_cons_of_mem _ ?_
        simp only [GmC.xs, List.flatten_cons, List.flatten_nil, List.mem_append]
        exact .inr hq
  refine ⟨A, n, cc, Y, _, rfl, hn, ⟨_, h1, rfl⟩, hm.p, fun q hq hx => ?_, fun q hq hx => ?_, h2, h3, hm.hh⟩
  · rcases hsub q hx with h4 | h4
    · have := (hm.p.block hq).1; have := h.lt q h4; omega
    · exact (hm.ap q h4).1 hq
  · rcases hsub q hx with h4 | h4
    · have := hm.y q hq; have := h.lt q h4; omega
    · exact (hm.ap q h4).2 hq
theorem TSPost.of {w w2 w3 : World} {g : Nat} {X X2 Y : List Nat} {d : Gm} {s : Fr} {L : List Msg} {e : Ending} (hh : Hits (· ∈ X) w w2) (hf : Fresh w X X2) (h : SentPost w2 g X2 { d with fr := s } L Y e w3) : TSPost w g X d s L e w3 := by
  obtain ⟨rfl, X', h1, h2, h3⟩ := h
  exact ⟨rfl, X', _, h1, turn_step hh hf h2, hf.trans h3 hh.size⟩
structure SendOk (d : Gm) (L : List Msg) : Prop where
  all : ∀ m ∈ L, m.frm = 60 ∧ m.epoch = 300 ∧ m.kind ≠ 2
  n : d.way.length + L.length ≤ 200
set_option maxHeartbeats 8000000 in
set_option maxRecDepth 100000 in
theorem deliver_live20 {w : World} {g : Nat} {d : Gm} {X : List Nat} (h : GmH w g d X) (hG : OwnG w) (hGX : 0 ∉ X) {a : Int} (frm ep b0 c0 : Int) (Ab : Option Addr) (nb cb : Nat)
    (hok : WishOk d.fr) (hgo : GoOk (aliveF d.fr 20 a).1) (hlen : (aliveF d.fr 20 a).2.length + (goOnF (aliveF d.fr 20 a).1).2.length ≤ 1000000) (hnd : d.fr.node = 60) (hep : d.fr.epoch = 300) (hsd : SendOk d (joinL (aliveF d.fr 20 a)).2) :
    Calls Tryz.prog 23 #[.pointer (some ⟨g, 0, none⟩), .agg #[.int .i64 18, .int .i64 frm, .int .i64 20, .int .i64 ep, .int .i64 a, .int .i64 b0, .int .i64 c0, .slice Ab nb cb]] w (TSPost w g X d (joinL (aliveF d.fr 20 a)).1 (joinL (aliveF d.fr 20 a)).2) := by
  have HXLT := hide_ h.lt
  obtain ⟨c, hat, hX⟩ := h
  have HRO := hide_ hat.rows.lt.2
  obtain ⟨Wm, hW⟩ : ∃ Wm, Wm = (w.alloc (.cells #[.int .i64 18, .int .i64 frm, .int .i64 20, .int .i64 ep, .int .i64 a, .int .i64 b0, .int .i64 c0, .slice Ab nb cb] 53)).alloc (.cells #[.int .i64 0, .int .i64 20, .int .i64 60, .int .i64 300, .int .i64 0, .int .i64 0, .int .i64 0, .slice none 0 0] 53) := ⟨_, rfl⟩
  have hl : Later w Wm := by rw [hW]; exact (later_alloc _ _).al _
  have hbr : Wm.heap[w.heap.size]? = some (.cells #[.int .i64 18, .int .i64 frm, .int .i64 20, .int .i64 ep, .int .i64 a, .int .i64 b0, .int .i64 c0, .slice Ab nb cb] 53 (0, 0)) := by rw [hW]; exact row_al (heap_alloc_new _ _) _
  have hbk : Wm.heap[w.heap.size + 1]? = some (.cells #[.int .i64 0, .int .i64 20, .int .i64 60, .int .i64 300, .int .i64 0, .int .i64 0, .int .i64 0, .slice none 0 0] 53 (0, 0)) := by rw [hW]; exact row_new2 _ _ _
  have hat1 := hat.later hl
  have hgr := GmAt.cells hat1
  unfold gmRow at hgr
  have glt := theap_lt hgr
  have blt := theap_lt hbr
  have klt := theap_lt hbk
  have HAT := hide_ hat1; have HB := hide_ hbr; have HK := hide_ hbk; have HGR := hide_ hgr; have HW := hide_ hW; have HL := hide_ hl; have HX := hide_ hX; have HG := hide_ hG; have HGX := hide_ hGX; have HOK := hide_ hok; have HGO := hide_ hgo; have HLEN := hide_ hlen; have HND := hide_ hnd; have HEP := hide_ hep; have HSD := hide_ hsd
  have z0 : Wm.cell? ⟨w.heap.size, 0, none⟩ = some (.int .i64 18) := cell_of_row _ _ 0 _ _ (0, 0) hbr
  have z2 : Wm.cell? ⟨w.heap.size, 2, none⟩ = some (.int .i64 20) := cell_of_row _ _ 2 _ _ (0, 0) hbr
  have k2 := later_drew_cell z2
  clear hat hat1 hX hW hl hbr hbk hgr hG hGX hok hgo hlen hnd hep hsd
  go_enter Tryz.func23, Tryz.ntmps23
  go_wp2_with (rw [← HW.out])
  refine wp_region_k (by kernel_rfl) ?_
  refine wKt 0 (v := ?_) rfl (by intro W hSw; go_simp; with_reducible rfl) ?_; try simp only [Act.put, qA, qZ, qS]
  refine wKt 1 (v := ?_) rfl (by intro W hSw; go_simp; with_reducible rfl) ?_; try simp only [Act.put, qA, qZ, qS]
  refine wKt 2 (v := ?_) rfl (by intro W hSw; go_simp; with_reducible rfl) ?_; try simp only [Act.put, qA, qZ, qS]
  refine wKt 3 (v := ?_) rfl (by intro W hSw; go_simp; with_reducible rfl) ?_; try simp only [Act.put, qA, qZ, qS]
  refine wKs 4 rfl ?_; try simp only [Act.put, qA, qZ, qS]
  refine wKs 5 rfl ?_; try simp only [Act.put, qA, qZ, qS]
  refine wKs 6 rfl ?_; try simp only [Act.put, qA, qZ, qS]
  refine wKs 7 rfl ?_; try simp only [Act.put, qA, qZ, qS]
  refine wKs 8 rfl ?_; try simp only [Act.put, qA, qZ, qS]
  refine wKs 9 rfl ?_; try simp only [Act.put, qA, qZ, qS]
  refine wKs 10 rfl ?_; try simp only [Act.put, qA, qZ, qS]
  refine wKs 11 rfl ?_; try simp only [Act.put, qA, qZ, qS]
  refine wKs 12 rfl ?_; try simp only [Act.put, qA, qZ, qS]
  refine wKt 13 (v := ?_) rfl (by intro W hSw; go_simp; with_reducible rfl) ?_; try simp only [Act.put, qA, qZ, qS]
  refine wKt 14 (v := ?_) rfl (by intro W hSw; go_simp; with_reducible rfl) ?_; try simp only [Act.put, qA, qZ, qS]
  refine wKs 15 rfl ?_; try simp only [Act.put, qA, qZ, qS]
  refine wKs 16 rfl ?_; try simp only [Act.put, qA, qZ, qS]
  refine wKs 17 rfl ?_; try simp only [Act.put, qA, qZ, qS]
  refine wKs 18 rfl ?_; try simp only [Act.put, qA, qZ, qS]
  refine wKs 19 rfl ?_; try simp only [Act.put, qA, qZ, qS]
  refine wKs 20 rfl ?_; try simp only [Act.put, qA, qZ, qS]
  refine wKs 21 rfl ?_; try simp only [Act.put, qA, qZ, qS]
  refine wKs 22 rfl ?_; try simp only [Act.put, qA, qZ, qS]
  refine wKs 23 rfl ?_; try simp only [Act.put, qA, qZ, qS]
  refine wKs 24 rfl ?_; try simp only [Act.put, qA, qZ, qS]
  refine wKs 25 rfl ?_; try simp only [Act.put, qA, qZ, qS]
  refine wKs 26 rfl ?_; try simp only [Act.put, qA, qZ, qS]
  refine wKt 27 (v := ?_) rfl (by intro W hSw; go_simp; with_reducible rfl) ?_; try simp only [Act.put, qA, qZ, qS]
  refine wpAnyK_done (by kernel_rfl) ?_ _
  clear z0 z2 k2 glt blt klt
  obtain ⟨W1, hV⟩ : ∃ V, V = Wm.drew := ⟨_, rfl⟩
  have hld := (Later.refl Wm).dr
  rw [← hV] at hld ⊢
  have HB := hide_ (later_row hld HB.out)
  have HK := hide_ (later_row hld HK.out)
  have HAT := hide_ (ObjAt.later HAT.out hld)
  have HL := hide_ (HL.out.trans hld)
  have k4 := Stands.cell (X := fun q => q = w.heap.size) (show W1.cell? ⟨w.heap.size, 4, none⟩ = some (.int .i64 a) from cell_of_row _ _ 4 _ _ (0, 0) HB.out) rfl
  have y0 : W1.cell? ⟨w.heap.size + 1, 0, none⟩ = some (.int .i64 0) := cell_of_row _ _ 0 _ _ (0, 0) HK.out
  have y4 : W1.cell? ⟨w.heap.size + 1, 4, none⟩ = some (.int .i64 0) := cell_of_row _ _ 4 _ _ (0, 0) HK.out
  have f0 := frozen_of_row _ _ 0 _ _ HK.out
  have f4 := frozen_of_row _ _ 4 _ _ HK.out
  have f0' : W1.drew.frozen? ⟨w.heap.size + 1, 0, none⟩ = false := f0
  have f4' : W1.drew.frozen? ⟨w.heap.size + 1, 4, none⟩ = false := f4
  have blt := theap_lt HB.out
  have klt := theap_lt HK.out
  have hne : ¬ w.heap.size + 1 = w.heap.size := by omega
  clear hV hld
  go_wp2_with fail
  refine wp_region_z (R := Stands (fun q => q = w.heap.size)) [] (by kernel_rfl) ?_
  refine wpAnyZ_take0 (Stands.steady (fun q => q = w.heap.size)) 0 (v := ?_) rfl (by kernel_rfl) (by kernel_rfl) (by kernel_rfl) (fun _ _ _ h => h) (by rfl) (by intro W hSw; go_simp; with_reducible rfl) ?_; try simp only [Act.put, qA, qZ, qS]
  refine wpAnyZ_take0 (Stands.steady (fun q => q = w.heap.size)) 1 (v := ?_) rfl (by kernel_rfl) (by kernel_rfl) (by kernel_rfl) (fun _ _ _ h => h) (by rfl) (by intro W hSw; have hS0 := Stands.trans (show Stands (fun q => q = w.heap.size) W1 _ from by repeat first | with_reducible assumption | with_reducible exact Stands.refl _ _ | with_reducible refine Stands.alloc ?_ _ | with_reducible refine Stands.drew ?_ | with_reducible refine Stands.drewL ?_ | with_reducible refine Stands.setCell ?_ (by assumption) _ _ | assumption | refine Stands.trans ?_ (by assumption)) hSw; go_simp; with_reducible rfl) ?_; try simp only [Act.put, qA, qZ, qS]
  refine wpAnyZ_take0 (Stands.steady (fun q => q = w.heap.size)) 2 (v := ?_) rfl (by kernel_rfl) (by kernel_rfl) (by kernel_rfl) (fun _ _ _ h => h) (by rfl) (by intro W hSw; go_simp; with_reducible rfl) ?_; try simp only [Act.put, qA, qZ, qS]
  refine wpAnyZ_one 3 (by kernel_rfl) rfl (fun K hK => ?_)
  go_simp
  refine hK.out _ _ (by repeat first | with_reducible assumption | with_reducible exact Stands.refl _ _ | with_reducible refine Stands.alloc ?_ _ | with_reducible refine Stands.drew ?_ | with_reducible refine Stands.drewL ?_ | with_reducible refine Stands.setCell ?_ (by assumption) _ _ | assumption | refine Stands.of_later ?_) ?_
  clear hK K; try simp only [Act.put, qA, qZ, qS]
  refine wpAnyZ_take0 (Stands.steady (fun q => q = w.heap.size)) 4 (v := ?_) rfl (by kernel_rfl) (by kernel_rfl) (by kernel_rfl) (fun _ _ _ h => h) (by rfl) (by intro W hSw; go_simp; with_reducible rfl) ?_; try simp only [Act.put, qA, qZ, qS]
  refine wpAnyZ_one 5 (by kernel_rfl) rfl (fun K hK => ?_)
  go_simp
  refine hK.out _ _ (by repeat first | with_reducible assumption | with_reducible exact Stands.refl _ _ | with_reducible refine Stands.alloc ?_ _ | with_reducible refine Stands.drew ?_ | with_reducible refine Stands.drewL ?_ | with_reducible refine Stands.setCell ?_ (by assumption) _ _ | assumption | refine Stands.of_later ?_) ?_
  clear hK K; try simp only [Act.put, qA, qZ, qS]
  refine wpAnyZ_done (by kernel_rfl) ?_ _
  obtain ⟨W2, hW2⟩ : ∃ V, V = ((W1.setCell ⟨w.heap.size + 1, 0, none⟩ (.int .i64 19)).setCell ⟨w.heap.size + 1, 4, none⟩ (.int .i64 a)).drew := ⟨_, rfl⟩
  rw [← hW2]
  have hhb : Hits (· = w.heap.size + 1) W1 W2 := by rw [hW2]; exact (((Hits.refl (· = w.heap.size + 1) W1).setCell (g := w.heap.size + 1) (fun _ => rfl) 0 _).setCell (g := w.heap.size + 1) (fun _ => rfl) 4 _).thenLater (Later.refl _).dr
  have hA2 : GmAt W2 g d c := HAT.out.frame hhb (fun k hk e => by have h1 := HXLT.out k (by rw [HX.out]; exact hk); omega) fun f hf k hk e => by have h1 := HRO.out f hf k hk; omega
  have HK2 := hide_ (show W2.heap[w.heap.size + 1]? = some (.cells #[.int .i64 19, .int .i64 20, .int .i64 60, .int .i64 300, .int .i64 a, .int .i64 0, .int .i64 0, .slice none 0 0] 53 (0, 0)) by rw [hW2]; exact later_row (Later.refl _).dr (heap_setCell_same _ _ 4 _ _ (.int .i64 a) (heap_setCell_same W1 _ 0 _ _ (.int .i64 19) HK.out)))
  have HH2 := hide_ (show Hits (· ∈ X) w W2 from ((Hits.later HL.out).trans (hhb.mono (G := fun k => w.heap.size ≤ k) fun k _ h => by omega) (fun i hi h => by omega)))
  obtain ⟨V2, hV2⟩ : ∃ V, V = W2.drew := ⟨_, rfl⟩
  have hgr2 := GmAt.cells hA2
  unfold gmRow at hgr2
  have k0 := Stands.cell (X := fun q => q = g ∨ q = w.heap.size + 1) (show W2.cell? ⟨g, 0, none⟩ = some (.pointer (some ⟨d.fb, 0, none⟩)) from cell_of_row _ _ 0 _ _ (0, 0) hgr2) (.inl rfl)
  have b0 := Stands.cell (X := fun q => q = g ∨ q = w.heap.size + 1) (show W2.cell? ⟨w.heap.size + 1, 0, none⟩ = some (.int .i64 19) from cell_of_row _ _ 0 _ _ (0, 0) HK2.out) (.inr rfl)
  have b1 := Stands.cell (X := fun q => q = g ∨ q = w.heap.size + 1) (show W2.cell? ⟨w.heap.size + 1, 1, none⟩ = some (.int .i64 20) from cell_of_row _ _ 1 _ _ (0, 0) HK2.out) (.inr rfl)
  have b2 := Stands.cell (X := fun q => q = g ∨ q = w.heap.size + 1) (show W2.cell? ⟨w.heap.size + 1, 2, none⟩ = some (.int .i64 60) from cell_of_row _ _ 2 _ _ (0, 0) HK2.out) (.inr rfl)
  have b3 := Stands.cell (X := fun q => q = g ∨ q = w.heap.size + 1) (show W2.cell? ⟨w.heap.size + 1, 3, none⟩ = some (.int .i64 300) from cell_of_row _ _ 3 _ _ (0, 0) HK2.out) (.inr rfl)
  have b4 := Stands.cell (X := fun q => q = g ∨ q = w.heap.size + 1) (show W2.cell? ⟨w.heap.size + 1, 4, none⟩ = some (.int .i64 a) from cell_of_row _ _ 4 _ _ (0, 0) HK2.out) (.inr rfl)
  have b5 := Stands.cell (X := fun q => q = g ∨ q = w.heap.size + 1) (show W2.cell? ⟨w.heap.size + 1, 5, none⟩ = some (.int .i64 0) from cell_of_row _ _ 5 _ _ (0, 0) HK2.out) (.inr rfl)
  have b6 := Stands.cell (X := fun q => q = g ∨ q = w.heap.size + 1) (show W2.cell? ⟨w.heap.size + 1, 6, none⟩ = some (.int .i64 0) from cell_of_row _ _ 6 _ _ (0, 0) HK2.out) (.inr rfl)
  have b7 := Stands.cell (X := fun q => q = g ∨ q = w.heap.size + 1) (show W2.cell? ⟨w.heap.size + 1, 7, none⟩ = some (.slice none 0 0) from cell_of_row _ _ 7 _ _ (0, 0) HK2.out) (.inr rfl)
  have hld2 := (Later.refl W2).dr
  have HAD := hide_ (ObjAt.later hA2 hld2)
  have HGF := hide_ (show g ∉ c.Xf from (GmAt.part hA2 (i := 0) (x := c.Xf) rfl).2.2)
  have HFL := hide_ (show ∀ k ∈ c.Xf, k < w.heap.size from fun k hk => HXLT.out k (by rw [HX.out]; exact (GmAt.part hA2 (i := 0) (x := c.Xf) rfl).2.1 k hk))
  have HG2 := hide_ ((HG.out.hits HH2.out HGX.out).later hld2)
  have HTK := hide_ (take_alive (GmAt.p HAD.out).fr HOK.out HG2.out (fun hm => HGX.out (by rw [HX.out]; exact (GmAt.part HAD.out (i := 0) (x := c.Xf) rfl).2.1 _ hm)) HGO.out HLEN.out HND.out HEP.out 0 0 none 0 0 (frm := 20) (a := a))
  have glt2 := theap_lt hgr2
  have klt2 := theap_lt HK2.out
  clear hV2 hgr2 hA2 hhb hW2 k4 y0 y4 f0 f4 f0' f4' blt klt hld2
  go_wp2_with fail
  refine wp_region_z (R := Stands (fun q => q = g ∨ q = w.heap.size + 1)) [7] (by kernel_rfl) ?_
  refine wpAnyZ_pure (Stands.steady (fun q => q = g ∨ q = w.heap.size + 1)) 0 (v := ?_) rfl (by kernel_rfl) (by kernel_rfl) (by kernel_rfl) (fun _ _ _ h => h) (by rfl) (by intro W; go_simp; with_reducible rfl) ?_; try simp only [Act.put, qA, qZ, qS]
  refine wpAnyZ_pure (Stands.steady (fun q => q = g ∨ q = w.heap.size + 1)) 1 (v := ?_) rfl (by kernel_rfl) (by kernel_rfl) (by kernel_rfl) (fun _ _ _ h => h) (by rfl) (by intro W; go_simp; with_reducible rfl) ?_; try simp only [Act.put, qA, qZ, qS]
  refine wpAnyZ_pure (Stands.steady (fun q => q = g ∨ q = w.heap.size + 1)) 2 (v := ?_) rfl (by kernel_rfl) (by kernel_rfl) (by kernel_rfl) (fun _ _ _ h => h) (by rfl) (by intro W; go_simp; with_reducible rfl) ?_; try simp only [Act.put, qA, qZ, qS]
  refine wpAnyZ_pure (Stands.steady (fun q => q = g ∨ q = w.heap.size + 1)) 3 (v := ?_) rfl (by kernel_rfl) (by kernel_rfl) (by kernel_rfl) (fun _ _ _ h => h) (by rfl) (by intro W; go_simp; with_reducible rfl) ?_; try simp only [Act.put, qA, qZ, qS]
  refine wpAnyZ_take (Stands.steady (fun q => q = g ∨ q = w.heap.size + 1)) 4 (v := ?_) rfl (by kernel_rfl) (by kernel_rfl) (by kernel_rfl) (by kernel_rfl) (fun _ _ _ h => h) (by rfl) (by intro W hSw; have hS0 := Stands.trans (show Stands (fun q => q = g ∨ q = w.heap.size + 1) W2 _ from by repeat first | with_reducible assumption | with_reducible exact Stands.refl _ _ | with_reducible refine Stands.alloc ?_ _ | with_reducible refine Stands.drew ?_ | with_reducible refine Stands.drewL ?_ | with_reducible refine Stands.setCell ?_ (by assumption) _ _ | assumption | refine Stands.trans ?_ (by assumption)) hSw; go_simp; with_reducible rfl) ?_; try simp only [Act.put, qA, qZ, qS]
  refine wpAnyZ_take (Stands.steady (fun q => q = g ∨ q = w.heap.size + 1)) 5 (v := ?_) rfl (by kernel_rfl) (by kernel_rfl) (by kernel_rfl) (by kernel_rfl) (fun _ _ _ h => h) (by rfl) (by intro W hSw; have hS0 := Stands.trans (show Stands (fun q => q = g ∨ q = w.heap.size + 1) W2 _ from by repeat first | with_reducible assumption | with_reducible exact Stands.refl _ _ | with_reducible refine Stands.alloc ?_ _ | with_reducible refine Stands.drew ?_ | with_reducible refine Stands.drewL ?_ | with_reducible refine Stands.setCell ?_ (by assumption) _ _ | assumption | refine Stands.trans ?_ (by assumption)) hSw; go_simp; with_reducible rfl) ?_; try simp only [Act.put, qA, qZ, qS]
  refine wpAnyZ_one 6 (by kernel_rfl) rfl (fun K hK => ?_)
  go_simp
  refine HTK.out.mono ?_; rintro e w5 h5; obtain ⟨A5, n5, c5, Y5, X5, rfl, hn5, hg5, hp5, hv5, hy5, hh5, hf5, hhx⟩ := GmAt.take HAD.out h5; have hs5 : Stands (fun q => q = g ∨ q = w.heap.size + 1) _ w5 := hhx.stands (fun k hk hF hX => by rcases hX with e | e; (exact HGF.out (e ▸ hF)); (have h1 := HFL.out k hF; omega)); have HSN := hide_ (gsend_any hg5 hp5 hn5 hv5 hy5 HSD.out.all (by rw [← hn5]; exact HSD.out.n)); have HH5 := hide_ hh5; have HF5 := hide_ hf5; clear hhx hp5 hv5 hy5 h5 hg5
  refine hK.out _ _ (by repeat first | with_reducible assumption | with_reducible exact Stands.refl _ _ | with_reducible refine Stands.alloc ?_ _ | with_reducible refine Stands.drew ?_ | with_reducible refine Stands.drewL ?_ | with_reducible refine Stands.setCell ?_ (by assumption) _ _ | assumption | refine Stands.of_later ?_) ?_
  clear hK K; try simp only [Act.put, qA, qZ, qS]
  refine wpAnyZ_loud 7 (by kernel_rfl) (by rfl) rfl (fun K hK => ?_)
  go_simp
  refine HSN.out.mono ?_; rintro e w6 h6; obtain ⟨rfl, h6⟩ := h6
  refine hK.out _ _ ?_
  clear hK K; try simp only [Act.put, qA, qZ, qS]
  refine wpAnyZ_done (by kernel_rfl) ?_ _
  go_wp2_with fail
  go_returns
  exact TSPost.of (w2 := w5) (X2 := X5) (Y := Y5) ((HH2.out.thenLater (Later.refl W2).dr).trans HH5.out (fun _ _ h => by rw [HX.out]; exact h)) (fun k hk => (HF5.out k hk).elim (fun h => .inl (by rw [HX.out]; exact h)) fun h => .inr (Nat.le_trans HH2.out.size h)) ⟨rfl, h6⟩

end Go.Proofs.YtcmollfhlillfaaGreatDoor
/-
  The law's game: calm.
-/
namespace Go.Proofs.YtcmollfhlillfaaGreatDoor
open Go.RowKit
set_option linter.unusedVariables false
set_option linter.unusedSimpArgs false
theorem wpList_joinR {α : Type} {P : Program} {base : Nat} {t e : TypeId} {r : Rep α} {w : World} {v : Value} {L L2 : List α} {X : List Nat} {ops : Array Oper} {rest : List Oper} {o : Oper} {a : Act} {Q : Exit → Act → World → Prop} {bytes n m : Nat} {rows2 : List (List Value)} {xs2 : List (List Nat)}
    (hgd : o.guard = none) (s x : Operand) (ho : o.op = .call { callee := .builtin .append, args := #[s, x], argTypes := #[t, t] }) (E : ElemT P t e r.size bytes) (hs : a.eval s = v) (h : SliceP base e r w v L X) (hn : L.length = n)
    {A : Option Addr} {c : Nat} (hx : a.eval x = .slice A m c) (hrd : Rd w r.size A m rows2.flatten) (hrw : Rows r w rows2 L2 xs2) (hm : L2.length = m) (hnil : A = none → m = 0) (hY : ∀ k ∈ xs2.flatten, v.ownBlock ≠ some k)
    (hbytes : (n + m) * bytes ≤ 140737488355328) (h63 : n + m ≤ maxLen) (hbase : base ≤ w.heap.size)
    (hK : ∀ A' c' w', SliceP base e r w' (.slice A' (n + m) c') (L ++ L2) (X ++ xs2.flatten) → w.grownBy w' v.ownBlock → ((Value.slice A' (n + m) c').ownBlock = v.ownBlock ∨ (Value.slice A' (n + m) c').ownBlock = some w.heap.size) →
      wpList P ops Q rest (a.put o.dst (.slice A' (n + m) c')) w') : wpList P ops Q (o :: rest) a w := by
  subst hn hm
  obtain ⟨rows, xs, h1, hr1, rfl, h3⟩ := h
  refine wpList_append_rd w hgd s x t ho base e r.size bytes E v L.length rows.flatten hs h1 A L2.length c rows2.flatten hx hrd hrw.one hbytes h63 hbase hnil ?_
  intro v' w' hown hg hat
  obtain ⟨A', c', rfl⟩ := own_form hown
  have hh : Hits (fun k => v.ownBlock = some k) w w' := (Hits.refl _ w).grown hg fun g hg _ => hg
  refine hK A' c' w' ⟨rows ++ rows2, xs ++ xs2, ?_, ?_, by simp, ?_⟩ hg hat
  · rw [List.flatten_append, List.length_append]; exact hown
  · exact Rows.append (hr1.frame hh fun k hk hf => h3 k hk hf) (hrw.frame hh fun k hk hf => hY k hk hf)
  · intro k hk
    rcases List.mem_append.1 hk with hk2 | hk2
    · rcases hat with e1 | e1
      · rw [e1]; exact h3 k hk2
      · rw [e1]; intro e2; injection e2 with e2; have := hr1.lt k hk2; omega
    · rcases hat with e1 | e1
      · rw [e1]; exact hY k hk2
      · rw [e1]; intro e2; injection e2 with e2; have := hrw.lt k hk2; omega
/-- A game, whatever blocks the messages on the way read. -/
def GmE (w : World) (g : Nat) (d : Gm) (X : List Nat) : Prop := ∃ Z, GmH w g { d with wz := Z } X
def TPost (w : World) (g : Nat) (X : List Nat) (d : Gm) (e : Ending) (w' : World) : Prop := e = .returned (.tuple #[]) ∧ ∃ X', GmE w' g d X' ∧ Hits (· ∈ X) w w' ∧ Fresh w X X'
/-- A message is delivered. -/
def Dlv (m : Msg) (d d' : Gm) : Prop := ∀ (w : World) (g : Nat) (X : List Nat) (Ab : Option Addr) (cb : Nat), GmE w g d X → OwnG w → 0 ∉ X → BodyAt w Ab cb m.body →
  Calls Tryz.prog 23 #[.pointer (some ⟨g, 0, none⟩), .agg #[.int .i64 m.kind, .int .i64 m.frm, .int .i64 m.to_, .int .i64 m.epoch, .int .i64 m.a, .int .i64 m.b, .int .i64 m.c, .slice Ab m.body.length cb]] w (TPost w g X d')
/-- The front's moment. -/
def Tck (d : Gm) (s : Fr) (L : List Msg) : Prop := SendOk d L ∧ ∀ (w : World) (X : List Nat), FrH w d.fb d.fr X → OwnG w → 0 ∉ X → Calls Tryz.prog 16 #[.pointer (some ⟨d.fb, 0, none⟩)] w (TurnW w d.fb X s L)
structure CalmOk (N : Nat) (St : Nat → Nat → Gm) (K : Nat → Nat) : Prop where
  k : ∀ i, i < N → K i < 500
  dlv : ∀ i k, i < N → k < K i → ∃ m rest, (St i k).way = m :: rest ∧ m.body.length ≤ 65536 ∧ Dlv m { St i k with way := rest } (St i (k + 1))
  fin : ∀ i, i < N → (St i (K i)).way = []
  tck : ∀ i, i < N → ∃ s L, Tck (St i (K i)) s L ∧ St (i + 1) 0 = { St i (K i) with fr := s, way := (St i (K i)).way ++ L }
  len : ∀ i k, i < N → k ≤ K i → (St i k).way.length ≤ 200
theorem bodyAt {w : World} {A : Option Addr} {n c : Nat} {l : List UInt8} {x : List Nat} (h : bodyR.holds w [.slice A n c] l x) (hl : l.length ≤ 65536) : n = l.length ∧ BodyAt w A c l := by
  obtain ⟨A', c', e, h1, h2, h3, h4, h5, h6⟩ := h
  injection e with e
  injection e with e1 e2 e3
  subst e1 e2 e3
  exact ⟨rfl, h1, h2, h3, by omega, h4, h5⟩
theorem GmE.later {w w' : World} {g : Nat} {d : Gm} {X : List Nat} (h : GmE w g d X) (hl : Later w w') : GmE w' g d X := by
  obtain ⟨Z, h1⟩ := h
  exact ⟨Z, h1.later hl⟩
/-- The first message is taken off the way. -/
theorem way_pop {w w9 : World} {g : Nat} {d : Gm} {c : GmC} (h : GmAt w g d c) {A' : Option Addr} {n' cc' : Nat} {L : List Msg} {Z : List Nat} {v0 : Value} (hp : SliceP w.heap.size 53 msgR w9 (.slice A' n' cc') L Z) (hl : Later w w9) (hZ : ∀ k ∈ Z, k ∈ d.wz) :
    ∃ X', GmH (w9.setCell ⟨g, 6, none⟩ (.slice A' n' cc')) g { d with way := L, wz := Z } X' ∧ Hits (· ∈ g :: c.xs.flatten) w (w9.setCell ⟨g, 6, none⟩ (.slice A' n' cc')) ∧ Fresh w (g :: c.xs.flatten) X' := by
  have hz := GmH.zlt (w := w) (g := g) ⟨c, h, rfl⟩
  have hin : ∀ k ∈ obL (Value.slice A' n' cc'), w.heap.size ≤ k := fun k hk => (hp.block (mem_obL.1 hk)).1
  have h1 := h.put (w9 := w9) 4 6 (x := c.Xw) (x' := obL (.slice A' n' cc')) (u := .slice A' n' cc') (f' := wayFld L Z) (d' := { d with way := L, wz := Z }) (c' := { c with uw := .slice A' n' cc', Xw := obL (.slice A' n' cc') }) rfl
    (Hits.later hl) ⟨_, rfl, hp.weaken (Nat.zero_le _), rfl⟩ (obL_nodup _) (fun k hk => .inr (hin k hk))
    (fun k hk => ⟨(hz k (hZ k hk)).1, fun hm => by have h2 := hin k hm; have h3 := (hz k (hZ k hk)).2; omega⟩) rfl rfl rfl rfl
  exact ⟨_, ⟨_, h1.1, rfl⟩, h1.2.1, h1.2.2⟩
set_option maxHeartbeats 8000000 in
set_option maxRecDepth 100000 in
theorem calm_any {w : World} {g : Nat} {X : List Nat} {N : Nat} {St : Nat → Nat → Gm} {K : Nat → Nat} (hok : CalmOk N St K) (h : GmE w g (St 0 0) X) (hG : OwnG w) (hGX : 0 ∉ X) (hN : N ≤ 1000) :
    Calls Tryz.prog 12 #[.pointer (some ⟨g, 0, none⟩), .int .i64 (N : Nat)] w (TPost w g X (St N 0)) := by
  have HH := hide_ h; have HOK := hide_ hok; have HG := hide_ hG; have HGX := hide_ hGX
  have HGL := hide_ (show 0 < w.heap.size from cell_lt hG.c0)
  have hN2 : (N : Int) ≤ 1000 := by omega
  clear h hok hG hGX
  go_enter Tryz.func12, Tryz.ntmps12
  go_wp2_with fail
  go_loopw [4] (fun s4 wr => ∃ i : Nat, i ≤ N ∧ s4 = .int .i64 i ∧ Hid (∃ Xi, GmE wr g (St i 0) Xi ∧ Fresh w X Xi) ∧ Hid (Hits (· ∈ X) w wr)) (fun i _ => N - (intOf i).toNat)
  case atStart => exact ⟨0, Nat.zero_le _, rfl, hide_ ⟨X, HH.out, Fresh.refl _ _⟩, hide_ (Hits.refl _ _)⟩
  case round =>
    obtain ⟨i, hi, rfl, HE, HT⟩ := hrel
    by_cases hlt : i < N
    · have q1 : (i : Int) < (N : Int) := by omega
      have HK5 := hide_ (HOK.out.k i hlt)
      go_wp2_with fail
      go_loopw [5] (fun s5 wr => ∃ k : Nat, k ≤ K i ∧ s5 = .int .i64 k ∧ Hid (∃ Xi, GmE wr g (St i k) Xi ∧ Fresh w X Xi) ∧ Hid (Hits (· ∈ X) w wr)) (fun k _ => K i - (intOf k).toNat)
      case atStart => exact ⟨0, Nat.zero_le _, rfl, HE, HT⟩
      case round =>
        obtain ⟨k, hk, rfl, HE2, HT2⟩ := hrel
        obtain ⟨Xi, ⟨Z, hg⟩, hfi⟩ := HE2.out
        obtain ⟨c, hat, hXi⟩ := id hg
        have hgr := GmAt.cells hat
        obtain ⟨Aw, cw, ew⟩ := (GmAt.p hat).way.form
        obtain ⟨nw, hnw⟩ : ∃ n, n = (St i k).way.length := ⟨_, rfl⟩
        rw [show ({ St i k with wz := Z } : Gm).way.length = nw from hnw.symm] at ew
        unfold gmRow at hgr
        rw [ew] at hgr
        have c6 : wr.cell? ⟨g, 6, none⟩ = some (.slice Aw nw cw) := cell_of_row _ _ 6 _ _ (0, 0) hgr
        have glt := theap_lt hgr
        have q2 : (k : Int) < 500 := by have := HK5.out; omega
        have hnw2 : nw ≤ 200 := by rw [hnw]; exact HOK.out.len i k hlt hk
        by_cases hkk : k < K i
        · obtain ⟨m, rest, hway, hbl, hdl⟩ := HOK.out.dlv i k hlt hkk
          have hnw1 : nw = rest.length + 1 := by rw [hnw, hway]; rfl
          have q3 : (0 : Int) < (nw : Int) := by omega
          obtain ⟨rows, xs, ho, hr, hZx, _⟩ := show SliceP 0 53 msgR wr (.slice Aw nw cw) (m :: rest) Z by rw [← hway, ← ew]; exact (GmAt.p hat).way
          rw [show (m :: rest).length = nw by rw [hnw1]; rfl] at ho
          have ho8 := ho
          rw [← (show (m :: rest).length = nw by rw [hnw1]; rfl)] at ho8
          obtain ⟨g0, cells, x, rfl, hcl, ⟨u, rfl, hbd⟩, hxi⟩ := rows_cells (show wr.ownsRow 0 53 msgR.size (.slice Aw (m :: rest).length cw) (m :: rest).length rows.flatten by rw [show (m :: rest).length = nw by rw [hnw1]; rfl]; exact ho) hr (i := 0) (el := m) rfl (by decide)
          obtain ⟨Ab, cb, eb, _⟩ := id hbd
          injection eb with eb
          subst eb
          obtain ⟨_, hba⟩ := bodyAt hbd hbl
          obtain ⟨nb, hnb⟩ : ∃ nb, nb = m.body.length := ⟨_, rfl⟩
          rw [← hnb] at hcl
          have m0 : wr.cell? ⟨g0, 0, none⟩ = some (.int .i64 m.kind) := hcl 0 _ rfl
          have m1 : wr.cell? ⟨g0, 1, none⟩ = some (.int .i64 m.frm) := hcl 1 _ rfl
          have m2 : wr.cell? ⟨g0, 2, none⟩ = some (.int .i64 m.to_) := hcl 2 _ rfl
          have m3 : wr.cell? ⟨g0, 3, none⟩ = some (.int .i64 m.epoch) := hcl 3 _ rfl
          have m4 : wr.cell? ⟨g0, 4, none⟩ = some (.int .i64 m.a) := hcl 4 _ rfl
          have m5 : wr.cell? ⟨g0, 5, none⟩ = some (.int .i64 m.b) := hcl 5 _ rfl
          have m6 : wr.cell? ⟨g0, 6, none⟩ = some (.int .i64 m.c) := hcl 6 _ rfl
          have m7 : wr.cell? ⟨g0, 7, none⟩ = some (.slice Ab nb cb) := hcl 7 _ rfl
          have glt0 := cell_lt m0
          have hcw : nw ≤ cw := by
            rcases ho.2 with ⟨e1, h0⟩ | ⟨g2, cap, cur, e1, _, _, h3, _⟩
            · omega
            · injection e1 with _ _ e3; omega
          have hcw2 : (nw : Int) ≤ (cw : Int) := by omega
          have q4 : (1 : Int) ≤ (nw : Int) := by omega
          obtain ⟨Wc, hWc⟩ : ∃ Wc, Wc = (wr.alloc (.cells #[.int .i64 m.kind, .int .i64 m.frm, .int .i64 m.to_, .int .i64 m.epoch, .int .i64 m.a, .int .i64 m.b, .int .i64 m.c, .slice Ab nb cb] 53)).alloc (.cells #[] 53) := ⟨_, rfl⟩
          have hlc : Later wr Wc := by rw [hWc]; exact (later_alloc _ _).al _
          have hgc := later_row hlc hgr
          have c6' : Wc.cell? ⟨g, 6, none⟩ = some (.slice (some ⟨g0, 0, none⟩) nw cw) := cell_of_row _ _ 6 _ _ (0, 0) hgc
          have glt' := theap_lt hgc
          have HWC := hide_ hWc
          have HBL := hide_ hbl; have HBD := hide_ hbd
          have HXZ := hide_ (show ∀ q ∈ x, q ∉ Xi from fun q hq => (GmH.zlt hg q (by rw [show ({ St i k with wz := Z } : Gm).wz = Z from rfl, hZx]; exact List.mem_flatten.2 ⟨x, List.mem_of_getElem? hxi, hq⟩)).1)
          have HR := hide_ hr; have HO := hide_ ho; have HAT := hide_ hat; have HBA := hide_ hba; have HNB := hide_ hnb; have HDL := hide_ hdl; have HWAY := hide_ hway; have HXI := hide_ hXi; have HFI := hide_ hfi; have HZX := hide_ hZx; have HLC := hide_ hlc; have HGC := hide_ hgc; have HRL := hide_ hnw1
          clear hr ho ho8 hat hba hnb hdl hway hXi hfi hZx hlc hgc hcl hbd hxi hg hgr ew hnw hWc hnw1 hbl
          have gf : Wc.frozen? ⟨g, 6, none⟩ = false := frozen_of_row _ _ 6 _ _ HGC.out
          have hrm : Wc.heap[wr.heap.size]? = some (.cells #[.int .i64 m.kind, .int .i64 m.frm, .int .i64 m.to_, .int .i64 m.epoch, .int .i64 m.a, .int .i64 m.b, .int .i64 m.c, .slice Ab nb cb] 53 (0, 0)) := by rw [HWC.out]; exact row_al (heap_alloc_new _ _) _
          have hre : Wc.heap[wr.heap.size + 1]? = some (.cells #[] 53 (0, 0)) := by rw [HWC.out]; exact row_new2 _ _ _
          have HRM := hide_ hrm; have HRE := hide_ hre
          have HGI := hide_ (show g < wr.heap.size from theap_lt HAT.out.row)
          clear hrm hre
          by_cases hn1 : nw = 1
          · subst hn1
            have hrest : rest = [] := List.length_eq_zero_iff.1 (by have := HRL.out; omega)
            have hsp : SliceP wr.heap.size 53 msgR Wc (.slice (some ⟨wr.heap.size + 1, 0, none⟩) 0 0) [] [] := ⟨[], [], ⟨rfl, .inr ⟨_, 0, #[], rfl, by omega, HRE.out, Nat.le_refl _, Nat.zero_le _, rfl, rfl⟩⟩, trivial, rfl, fun q hq => (by cases hq)⟩
            obtain ⟨XJ, hgj, hhj, hfj⟩ := way_pop HAT.out hsp HLC.out (fun q hq => by cases hq) (v0 := .bool true)
            obtain ⟨w3, hw3⟩ : ∃ V, V = Wc.setCell ⟨g, 6, none⟩ (.slice (some ⟨wr.heap.size + 1, 0, none⟩) 0 0) := ⟨_, rfl⟩
            have HW3 := hide_ hw3
            have HLD : Later wr wr := Later.refl _
            rw [← hrest] at hgj
            have HGJ := hide_ (show GmE w3 g { St i k with way := rest } XJ from ⟨_, by rw [hw3]; exact hgj⟩)
            have HTJ := hide_ (show Hits (· ∈ X) w w3 by rw [hw3]; exact turn_step (HT2.out.thenLater HLD) HFI.out (by rw [HXI.out]; exact hhj))
            have HFJ := hide_ (show Fresh w X XJ from fun q hq => by
              rcases hfj q hq with h1 | h1
              · exact HFI.out q (by rw [HXI.out]; exact h1)
              · exact .inr (Nat.le_trans HT2.out.size (Nat.le_trans HLD.size h1)))
            have HGW := hide_ (HG.out.hits HTJ.out HGX.out)
            have HGO := hide_ (show 0 ∉ XJ from fun hm => by
              rcases HFJ.out _ hm with h1 | h1
              · exact HGX.out h1
              · have := HGL.out; omega)
            have hr3 : w3.heap[wr.heap.size]? = some (.cells #[.int .i64 m.kind, .int .i64 m.frm, .int .i64 m.to_, .int .i64 m.epoch, .int .i64 m.a, .int .i64 m.b, .int .i64 m.c, .slice Ab nb cb] 53 (0, 0)) := by rw [hw3]; exact ((Hits.refl (· = g) Wc).setCell (g := g) (fun _ => rfl) 6 _).row HRM.out (fun e => by have := HGI.out; omega)
            have HB3 := hide_ (show BodyAt w3 Ab cb m.body from (bodyAt (bodyR.frame HBD.out (show Hits (· ∈ Xi) wr w3 by rw [hw3, HXI.out]; exact hhj) HXZ.out) HBL.out).2)
            have n0 : (Wc.setCell ⟨g, 6, none⟩ (.slice (some ⟨wr.heap.size + 1, 0, none⟩) 0 0)).cell? ⟨wr.heap.size, 0, none⟩ = some (.int .i64 m.kind) := by rw [← hw3]; exact cell_of_row _ _ 0 _ _ (0, 0) hr3
            have n1 : (Wc.setCell ⟨g, 6, none⟩ (.slice (some ⟨wr.heap.size + 1, 0, none⟩) 0 0)).cell? ⟨wr.heap.size, 1, none⟩ = some (.int .i64 m.frm) := by rw [← hw3]; exact cell_of_row _ _ 1 _ _ (0, 0) hr3
            have n2 : (Wc.setCell ⟨g, 6, none⟩ (.slice (some ⟨wr.heap.size + 1, 0, none⟩) 0 0)).cell? ⟨wr.heap.size, 2, none⟩ = some (.int .i64 m.to_) := by rw [← hw3]; exact cell_of_row _ _ 2 _ _ (0, 0) hr3
            have n3 : (Wc.setCell ⟨g, 6, none⟩ (.slice (some ⟨wr.heap.size + 1, 0, none⟩) 0 0)).cell? ⟨wr.heap.size, 3, none⟩ = some (.int .i64 m.epoch) := by rw [← hw3]; exact cell_of_row _ _ 3 _ _ (0, 0) hr3
            have n4 : (Wc.setCell ⟨g, 6, none⟩ (.slice (some ⟨wr.heap.size + 1, 0, none⟩) 0 0)).cell? ⟨wr.heap.size, 4, none⟩ = some (.int .i64 m.a) := by rw [← hw3]; exact cell_of_row _ _ 4 _ _ (0, 0) hr3
            have n5 : (Wc.setCell ⟨g, 6, none⟩ (.slice (some ⟨wr.heap.size + 1, 0, none⟩) 0 0)).cell? ⟨wr.heap.size, 5, none⟩ = some (.int .i64 m.b) := by rw [← hw3]; exact cell_of_row _ _ 5 _ _ (0, 0) hr3
            have n6 : (Wc.setCell ⟨g, 6, none⟩ (.slice (some ⟨wr.heap.size + 1, 0, none⟩) 0 0)).cell? ⟨wr.heap.size, 6, none⟩ = some (.int .i64 m.c) := by rw [← hw3]; exact cell_of_row _ _ 6 _ _ (0, 0) hr3
            have n7 : (Wc.setCell ⟨g, 6, none⟩ (.slice (some ⟨wr.heap.size + 1, 0, none⟩) 0 0)).cell? ⟨wr.heap.size, 7, none⟩ = some (.slice Ab nb cb) := by rw [← hw3]; exact cell_of_row _ _ 7 _ _ (0, 0) hr3
            have nlt : wr.heap.size < (Wc.setCell ⟨g, 6, none⟩ (.slice (some ⟨wr.heap.size + 1, 0, none⟩) 0 0)).heap.size := by rw [← hw3]; exact theap_lt hr3
            clear hgj hhj hfj hsp hr3
            by_cases hcU : cw = 1
            · subst hcU
              go_wp2_with (rw [← HWC.out])
              rw [← HW3.out]
              have hdl := HDL.out w3 g XJ Ab cb HGJ.out HGW.out HGO.out HB3.out
              rw [← HNB.out] at hdl
              refine hdl.mono ?_
              rintro e w4 ⟨rfl, X4, hg4, hh4, hf4⟩
              have HT4 := hide_ (turn_step HTJ.out HFJ.out hh4)
              have HG4 := hide_ (show ∃ Xi, GmE w4 g (St i (k + 1)) Xi ∧ Fresh w X Xi from ⟨X4, hg4, HFJ.out.trans hf4 HTJ.out.size⟩)
              clear hg4 hh4 hf4 hdl n0 n1 n2 n3 n4 n5 n6 n7 nlt
              go_wp2_with fail
              go_roundw
              case rel => exact ⟨k + 1, by omega, by go_num, HG4, HT4⟩
              case measure => simp [intOf]; omega
            · have q5 : ¬ (cw : Int) = 1 := by omega
              go_wp2_with (rw [← HWC.out])
              rw [← HW3.out]
              have hdl := HDL.out w3 g XJ Ab cb HGJ.out HGW.out HGO.out HB3.out
              rw [← HNB.out] at hdl
              refine hdl.mono ?_
              rintro e w4 ⟨rfl, X4, hg4, hh4, hf4⟩
              have HT4 := hide_ (turn_step HTJ.out HFJ.out hh4)
              have HG4 := hide_ (show ∃ Xi, GmE w4 g (St i (k + 1)) Xi ∧ Fresh w X Xi from ⟨X4, hg4, HFJ.out.trans hf4 HTJ.out.size⟩)
              clear hg4 hh4 hf4 hdl n0 n1 n2 n3 n4 n5 n6 n7 nlt
              go_wp2_with fail
              go_roundw
              case rel => exact ⟨k + 1, by omega, by go_num, HG4, HT4⟩
              case measure => simp [intOf]; omega
          · have q5 : ¬ (cw : Int) = 1 := by omega
            have hcU : ¬ cw = 1 := by omega
            have hcut := (Rd.of_own HO.out).cut (k := 1) (cap := cw) (by omega) hcw
            rw [if_neg hcU] at hcut
            simp only [show msgR.size = 8 from rfl] at hcut
            rw [rflat_drop (n := 8) HR.out.each 1] at hcut
            rw [show (some (⟨g0, 0, none⟩ : Addr)).map (fun x => x.add (1 * 8)) = some ⟨g0, 8, none⟩ from rfl] at hcut
            have hrw := HR.out.drop 1
            simp only [List.drop_succ_cons, List.drop_zero] at hrw
            have HCUT := hide_ (hcut.below HLC.out); have HRW := hide_ (Rows.frame (Hits.later (F := fun _ => False) HLC.out) hrw fun _ _ hf => hf)
            have HSP := hide_ (show SliceP wr.heap.size 53 msgR Wc (.slice (some ⟨wr.heap.size + 1, 0, none⟩) 0 0) [] [] from ⟨[], [], ⟨rfl, .inr ⟨_, 0, #[], rfl, by omega, HRE.out, Nat.le_refl _, Nat.zero_le _, rfl, rfl⟩⟩, trivial, rfl, fun q hq => (by cases hq)⟩)
            have HRN := hide_ (show rest.length = nw - 1 by have := HRL.out; omega)
            have HZ2 := hide_ (show ∀ q ∈ (xs.drop 1).flatten, q < wr.heap.size from fun q hq => hrw.lt q hq)
            clear hcut hrw
            go_wp2_with (first | rw [← HWC.out] | (at_builtin; refine wpList_joinR rfl (.tmp 31) (.tmp 36) rfl msgT rfl HSP.out (show ([] : List Msg).length = 0 from rfl) rfl HCUT.out HRW.out HRN.out (fun h => by cases h) (fun q hq e => by have e2 : (some (wr.heap.size + 1) : Option Nat) = some q := e; injection e2 with e2; have h1 := HZ2.out q hq; omega) (by omega) (by unfold maxLen; omega) HLC.out.size ?c8))
            case c8 =>
              intro A9 c9 w9 hp9 hg9 hat9
              have hh9 : Hits (fun q => (Value.slice (some ⟨wr.heap.size + 1, 0, none⟩) 0 0).ownBlock = some q) Wc w9 := (Hits.refl _ Wc).grown hg9 fun q hq _ => hq
              have hl9 : Later wr w9 := hp_later HLC.out HSP.out hg9 (Nat.le_refl _)
              have hgr9 := hh9.row HGC.out (fun e => by have e2 : (some (wr.heap.size + 1) : Option Nat) = some g := e; injection e2 with e2; have := HGI.out; omega)
              have hrm9 := hh9.row HRM.out (fun e => by have e2 : (some (wr.heap.size + 1) : Option Nat) = some wr.heap.size := e; injection e2 with e2; omega)
              have HRM9 := hide_ hrm9
              have c69 : w9.cell? ⟨g, 6, none⟩ = some (.slice (some ⟨g0, 0, none⟩) nw cw) := cell_of_row _ _ 6 _ _ (0, 0) hgr9
              have gf9 : w9.frozen? ⟨g, 6, none⟩ = false := frozen_of_row _ _ 6 _ _ hgr9
              have hp9' : SliceP wr.heap.size 53 msgR w9 (.slice A9 (nw - 1) c9) rest (xs.drop 1).flatten := by simpa using hp9
              obtain ⟨XJ, hgj, hhj, hfj⟩ := way_pop HAT.out hp9' hl9 (fun q hq => by
                show q ∈ Z
                rw [HZX.out]
                obtain ⟨y, h1, h2⟩ := List.mem_flatten.1 hq
                exact List.mem_flatten.2 ⟨y, List.mem_of_mem_drop h1, h2⟩) (v0 := .bool true)
              obtain ⟨w3, hw3⟩ : ∃ V, V = (w9.setCell ⟨g, 6, none⟩ (.slice A9 (nw - 1) c9)) := ⟨_, rfl⟩
              have HW3 := hide_ hw3
              have HLD : Later wr wr := Later.refl _
              have HGJ := hide_ (show GmE w3 g { St i k with way := rest } XJ from ⟨_, by rw [hw3]; exact hgj⟩)
              have HTJ := hide_ (show Hits (· ∈ X) w w3 by rw [hw3]; exact turn_step (HT2.out.thenLater HLD) HFI.out (by rw [HXI.out]; exact hhj))
              have HFJ := hide_ (show Fresh w X XJ from fun q hq => by
                rcases hfj q hq with h1 | h1
                · exact HFI.out q (by rw [HXI.out]; exact h1)
                · exact .inr (Nat.le_trans HT2.out.size (Nat.le_trans HLD.size h1)))
              have HGW := hide_ (HG.out.hits HTJ.out HGX.out)
              have HGO := hide_ (show 0 ∉ XJ from fun hm => by
                rcases HFJ.out _ hm with h1 | h1
                · exact HGX.out h1
                · have := HGL.out; omega)
              have hr3 : w3.heap[wr.heap.size]? = some (.cells #[.int .i64 m.kind, .int .i64 m.frm, .int .i64 m.to_, .int .i64 m.epoch, .int .i64 m.a, .int .i64 m.b, .int .i64 m.c, .slice Ab nb cb] 53 (0, 0)) := by rw [hw3]; exact ((Hits.refl (· = g) w9).setCell (g := g) (fun _ => rfl) 6 _).row HRM9.out (fun e => by have := HGI.out; omega)
              have HB3 := hide_ (show BodyAt w3 Ab cb m.body from (bodyAt (bodyR.frame HBD.out (show Hits (· ∈ Xi) wr w3 by rw [hw3, HXI.out]; exact hhj) HXZ.out) HBL.out).2)
              have n0 : (w9.setCell ⟨g, 6, none⟩ (.slice A9 (nw - 1) c9)).cell? ⟨wr.heap.size, 0, none⟩ = some (.int .i64 m.kind) := by rw [← hw3]; exact cell_of_row _ _ 0 _ _ (0, 0) hr3
              have n1 : (w9.setCell ⟨g, 6, none⟩ (.slice A9 (nw - 1) c9)).cell? ⟨wr.heap.size, 1, none⟩ = some (.int .i64 m.frm) := by rw [← hw3]; exact cell_of_row _ _ 1 _ _ (0, 0) hr3
              have n2 : (w9.setCell ⟨g, 6, none⟩ (.slice A9 (nw - 1) c9)).cell? ⟨wr.heap.size, 2, none⟩ = some (.int .i64 m.to_) := by rw [← hw3]; exact cell_of_row _ _ 2 _ _ (0, 0) hr3
              have n3 : (w9.setCell ⟨g, 6, none⟩ (.slice A9 (nw - 1) c9)).cell? ⟨wr.heap.size, 3, none⟩ = some (.int .i64 m.epoch) := by rw [← hw3]; exact cell_of_row _ _ 3 _ _ (0, 0) hr3
              have n4 : (w9.setCell ⟨g, 6, none⟩ (.slice A9 (nw - 1) c9)).cell? ⟨wr.heap.size, 4, none⟩ = some (.int .i64 m.a) := by rw [← hw3]; exact cell_of_row _ _ 4 _ _ (0, 0) hr3
              have n5 : (w9.setCell ⟨g, 6, none⟩ (.slice A9 (nw - 1) c9)).cell? ⟨wr.heap.size, 5, none⟩ = some (.int .i64 m.b) := by rw [← hw3]; exact cell_of_row _ _ 5 _ _ (0, 0) hr3
              have n6 : (w9.setCell ⟨g, 6, none⟩ (.slice A9 (nw - 1) c9)).cell? ⟨wr.heap.size, 6, none⟩ = some (.int .i64 m.c) := by rw [← hw3]; exact cell_of_row _ _ 6 _ _ (0, 0) hr3
              have n7 : (w9.setCell ⟨g, 6, none⟩ (.slice A9 (nw - 1) c9)).cell? ⟨wr.heap.size, 7, none⟩ = some (.slice Ab nb cb) := by rw [← hw3]; exact cell_of_row _ _ 7 _ _ (0, 0) hr3
              have nlt : wr.heap.size < (w9.setCell ⟨g, 6, none⟩ (.slice A9 (nw - 1) c9)).heap.size := by rw [← hw3]; exact theap_lt hr3
              clear hgj hhj hfj hr3 hp9 hp9' hg9 hat9 hh9 hl9 hgr9 hrm9 hw3 c6 c6' gf m0 m1 m2 m3 m4 m5 m6 m7
              go_wp2_with fail
              rw [← HW3.out]
              have hdl := HDL.out w3 g XJ Ab cb HGJ.out HGW.out HGO.out HB3.out
              rw [← HNB.out] at hdl
              refine hdl.mono ?_
              rintro e w4 ⟨rfl, X4, hg4, hh4, hf4⟩
              have HT4 := hide_ (turn_step HTJ.out HFJ.out hh4)
              have HG4 := hide_ (show ∃ Xi, GmE w4 g (St i (k + 1)) Xi ∧ Fresh w X Xi from ⟨X4, hg4, HFJ.out.trans hf4 HTJ.out.size⟩)
              clear hg4 hh4 hf4 hdl n0 n1 n2 n3 n4 n5 n6 n7 nlt
              go_wp2_with fail
              go_roundw
              case rel => exact ⟨k + 1, by omega, by go_num, HG4, HT4⟩
              case measure => simp [intOf]; omega
        · obtain rfl : k = K i := by omega
          have hf := HOK.out.fin i hlt
          obtain rfl : nw = 0 := by rw [hnw, hf]; rfl
          obtain ⟨s, L, ⟨hso, htk⟩, hst⟩ := HOK.out.tck i hlt
          have c0 : wr.cell? ⟨g, 0, none⟩ = some (.pointer (some ⟨(St i (K i)).fb, 0, none⟩)) := cell_of_row _ _ 0 _ _ (0, 0) hgr
          have hsub : ∀ q ∈ c.Xf, q ∈ Xi := fun q hq => by rw [hXi]; exact (GmAt.part hat (i := 0) (x := c.Xf) rfl).2.1 q hq
          have HTK := hide_ (htk wr c.Xf (GmAt.p hat).fr (HG.out.hits HT2.out HGX.out) (fun hm => (hfi _ (hsub _ hm)).elim HGX.out fun h => by have := HGL.out; omega))
          have HAT := hide_ hat; have HXI := hide_ hXi; have HFI := hide_ hfi; have HSO := hide_ hso; have HST := hide_ hst
          clear hat hXi hfi hso htk hst hsub hgr hg ew hnw hf
          go_wp2_with fail
          refine HTK.out.mono ?_
          rintro e w5 h5
          obtain ⟨A5, n5, cc5, Y5, X15, rfl, hn5, hg15, hp5, hv5, hy5, hh15, hf15, _⟩ := GmAt.take HAT.out h5
          have HSN := hide_ (gsend_any hg15 hp5 hn5 hv5 hy5 HSO.out.all (by rw [← hn5]; exact HSO.out.n))
          have HH15 := hide_ (show Hits (· ∈ X) w w5 from turn_step HT2.out HFI.out (by rw [HXI.out]; exact hh15))
          have HF15 := hide_ (show Fresh w X X15 from HFI.out.trans (by rw [HXI.out]; exact hf15) HT2.out.size)
          clear h5 hn5 hg15 hp5 hv5 hy5 hh15 hf15 c6 c0 glt
          go_wp2_with fail
          refine HSN.out.mono ?_
          rintro e w6 ⟨rfl, X6, hg6, hh6, hf6⟩
          have HT6 := hide_ (turn_step HH15.out HF15.out hh6)
          have HG6 := hide_ (show ∃ Xi, GmE w6 g (St (i + 1) 0) Xi ∧ Fresh w X Xi from ⟨X6, by rw [HST.out]; exact ⟨_, hg6⟩, HF15.out.trans hf6 HH15.out.size⟩)
          clear hg6 hh6 hf6 HSN
          go_wp2_with fail
          go_roundw
          case rel => exact ⟨i + 1, by omega, by go_num, HG6, HT6⟩
          case measure => simp [intOf]; omega
    · obtain rfl : i = N := by omega
      have q1 : ¬ (i : Int) < (i : Int) := by omega
      go_wp2_with fail
      go_returns
      obtain ⟨Xi, hg, hfi⟩ := HE.out
      exact ⟨rfl, Xi, hg, HT.out, hfi⟩

end Go.Proofs.YtcmollfhlillfaaGreatDoor
