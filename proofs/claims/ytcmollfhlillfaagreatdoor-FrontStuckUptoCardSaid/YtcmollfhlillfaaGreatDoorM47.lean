/-
  Texts of this seat in one: GDelP, GDelQ, GStuckM.
-/
import Derived.Test.YtcmollfhlillfaaGreatDoorM43
import Derived.Test.YtcmollfhlillfaaGreatDoorM35
import Derived.Test.YtcmollfhlillfaaGreatDoorM46
import Derived.Test.YtcmollfhlillfaaGreatDoorM44
import Derived.Test.YtcmollfhlillfaaGreatDoorM45
/-
  The law's game: a chest answers.
-/
namespace Go.Proofs.YtcmollfhlillfaaGreatDoor
open Go.RowKit
set_option linter.unusedVariables false
set_option linter.unusedSimpArgs false
set_option maxHeartbeats 8000000 in
set_option maxRecDepth 100000 in
theorem deliver_push20 {w : World} {g : Nat} {d : Gm} {X : List Nat} (h : GmH w g d X) (ht : d.tops = [50, 50]) (hbs : d.bats = []) {Ab : Option Addr} {n cb : Nat} {l : List UInt8} (hl0 : l = putN 50 ++ (putN 1050 ++ (putN 50 ++ (putN 0 ++ [])))) (hn : l.length = n) (hbd : BodyAt w Ab cb l)
    (hok : PsdOk d.fr) (hgo : GoOk (pushedF d.fr 20 1050).1) (hlen : (pushedF d.fr 20 1050).2.length + (goOnF (pushedF d.fr 20 1050).1).2.length ≤ 1000000) (hnd : d.fr.node = 60) (hep : d.fr.epoch = 300) (hsd : SendOk d (joinL (pushedF d.fr 20 1050)).2) :
    Calls Tryz.prog 23 #[.pointer (some ⟨g, 0, none⟩), .agg #[.int .i64 5, .int .i64 60, .int .i64 20, .int .i64 300, .int .i64 0, .int .i64 0, .int .i64 0, .slice Ab n cb]] w (TSPost w g X { d with tops := [1050, 50], bats := [b1050] } (joinL (pushedF d.fr 20 1050)).1 (joinL (pushedF d.fr 20 1050)).2) := by
  have HXLT := hide_ h.lt
  have HH := hide_ h
  obtain ⟨c, hat, hX⟩ := h
  obtain ⟨Wm, hW⟩ : ∃ Wm, Wm = (w.alloc (.cells #[.int .i64 5, .int .i64 60, .int .i64 20, .int .i64 300, .int .i64 0, .int .i64 0, .int .i64 0, .slice Ab n cb] 53)).alloc (.cells #[.int .i64 0, .int .i64 20, .int .i64 60, .int .i64 300, .int .i64 0, .int .i64 0, .int .i64 0, .slice none 0 0] 53) := ⟨_, rfl⟩
  have hl : Later w Wm := by rw [hW]; exact (later_alloc _ _).al _
  have hbr : Wm.heap[w.heap.size]? = some (.cells #[.int .i64 5, .int .i64 60, .int .i64 20, .int .i64 300, .int .i64 0, .int .i64 0, .int .i64 0, .slice Ab n cb] 53 (0, 0)) := by rw [hW]; exact row_al (heap_alloc_new _ _) _
  have hbk : Wm.heap[w.heap.size + 1]? = some (.cells #[.int .i64 0, .int .i64 20, .int .i64 60, .int .i64 300, .int .i64 0, .int .i64 0, .int .i64 0, .slice none 0 0] 53 (0, 0)) := by rw [hW]; exact row_new2 _ _ _
  have hat1 := hat.later hl
  have hgr := GmAt.cells hat1
  obtain ⟨At, ct, hut⟩ : ∃ At ct, c.ut = .slice At 2 ct := by
    obtain ⟨At, ct, e2⟩ := slice_len (GmAt.p hat1).tops
    injection e2 with e2
    rw [ht] at e2
    exact ⟨At, ct, e2⟩
  unfold gmRow at hgr
  rw [hut] at hgr
  have glt := theap_lt hgr
  have blt := theap_lt hbr
  have klt := theap_lt hbk
  have HB := hide_ hbr; have HK := hide_ hbk; have HW := hide_ hW; have HL := hide_ hl; have HX := hide_ hX; have HOK := hide_ hok; have HGO := hide_ hgo; have HLEN := hide_ hlen; have HND := hide_ hnd; have HEP := hide_ hep; have HSD := hide_ hsd; have HT := hide_ ht; have HBS := hide_ hbs; have HL0 := hide_ hl0; have HBD := hide_ hbd; have HN := hide_ hn; have HGR := hide_ hgr
  have z0 : Wm.cell? ⟨w.heap.size, 0, none⟩ = some (.int .i64 5) := cell_of_row _ _ 0 _ _ (0, 0) hbr
  have z2 : Wm.cell? ⟨w.heap.size, 2, none⟩ = some (.int .i64 20) := cell_of_row _ _ 2 _ _ (0, 0) hbr
  have k0 := later_drew_cell z0
  clear hat hat1 hX hW hl hbr hbk hgr hok hgo hlen hnd hep hsd ht hbs hl0 hbd hn hut
  go_enter Tryz.func23, Tryz.ntmps23
  go_wp2_with (rw [← HW.out])
  refine wp_region_k (by kernel_rfl) ?_
  refine wKt 0 (v := ?_) rfl (by intro W hSw; go_simp; with_reducible rfl) ?_; try simp only [Act.put, qA, qZ, qS]
  refine wKt 1 (v := ?_) rfl (by intro W hSw; go_simp; with_reducible rfl) ?_; try simp only [Act.put, qA, qZ, qS]
  refine wKt 2 (v := ?_) rfl (by intro W hSw; go_simp; with_reducible rfl) ?_; try simp only [Act.put, qA, qZ, qS]
  refine wKt 3 (v := ?_) rfl (by intro W hSw; go_simp; with_reducible rfl) ?_; try simp only [Act.put, qA, qZ, qS]
  refine wKs 4 rfl ?_; try simp only [Act.put, qA, qZ, qS]
  refine wKs 5 rfl ?_; try simp only [Act.put, qA, qZ, qS]
  refine wKs 6 rfl ?_; try simp only [Act.put, qA, qZ, qS]
  refine wKt 7 (v := ?_) rfl (by intro W hSw; go_simp; with_reducible rfl) ?_; try simp only [Act.put, qA, qZ, qS]
  refine wKt 8 (v := ?_) rfl (by intro W hSw; go_simp; with_reducible rfl) ?_; try simp only [Act.put, qA, qZ, qS]
  refine wKs 9 rfl ?_; try simp only [Act.put, qA, qZ, qS]
  refine wKs 10 rfl ?_; try simp only [Act.put, qA, qZ, qS]
  refine wKs 11 rfl ?_; try simp only [Act.put, qA, qZ, qS]
  refine wKs 12 rfl ?_; try simp only [Act.put, qA, qZ, qS]
  refine wKs 13 rfl ?_; try simp only [Act.put, qA, qZ, qS]
  refine wKs 14 rfl ?_; try simp only [Act.put, qA, qZ, qS]
  refine wKs 15 rfl ?_; try simp only [Act.put, qA, qZ, qS]
  refine wKs 16 rfl ?_; try simp only [Act.put, qA, qZ, qS]
  refine wKs 17 rfl ?_; try simp only [Act.put, qA, qZ, qS]
  refine wKt 18 (v := ?_) rfl (by intro W hSw; go_simp; with_reducible rfl) ?_; try simp only [Act.put, qA, qZ, qS]
  refine wKt 19 (v := ?_) rfl (by intro W hSw; go_simp; with_reducible rfl) ?_; try simp only [Act.put, qA, qZ, qS]
  refine wpAnyK_done (by kernel_rfl) ?_ _
  clear z0 z2 k0 glt blt klt
  obtain ⟨W0, hV⟩ : ∃ V, V = Wm.drew := ⟨_, rfl⟩
  have hld := (Later.refl Wm).dr
  rw [← hV] at hld ⊢
  have HB := hide_ (later_row hld HB.out)
  have HK := hide_ (later_row hld HK.out)
  have HGR := hide_ (later_row hld HGR.out)
  have HL := hide_ (HL.out.trans hld)
  have k0 := later_drew_cell (show W0.cell? ⟨w.heap.size, 0, none⟩ = some (.int .i64 5) from cell_of_row _ _ 0 _ _ (0, 0) HB.out)
  have k2 := later_drew_cell (show W0.cell? ⟨w.heap.size, 2, none⟩ = some (.int .i64 20) from cell_of_row _ _ 2 _ _ (0, 0) HB.out)
  have g10 := later_drew_cell (show W0.cell? ⟨g, 10, none⟩ = some (.slice At 2 ct) from cell_of_row _ _ 10 _ _ (0, 0) HGR.out)
  have glt := theap_lt HGR.out
  have blt := theap_lt HB.out
  clear hV hld
  go_wp2_with fail
  refine wp_region_k (by kernel_rfl) ?_
  refine wKt 0 (v := ?_) rfl (by intro W hSw; go_simp; with_reducible rfl) ?_; try simp only [Act.put, qA, qZ, qS]
  refine wKt 1 (v := ?_) rfl (by intro W hSw; go_simp; with_reducible rfl) ?_; try simp only [Act.put, qA, qZ, qS]
  refine wKt 2 (v := ?_) rfl (by intro W hSw; go_simp; with_reducible rfl) ?_; try simp only [Act.put, qA, qZ, qS]
  refine wKt 3 (v := ?_) rfl (by intro W hSw; go_simp; with_reducible rfl) ?_; try simp only [Act.put, qA, qZ, qS]
  refine wKt 4 (v := ?_) rfl (by intro W hSw; go_simp; with_reducible rfl) ?_; try simp only [Act.put, qA, qZ, qS]
  refine wKt 5 (v := ?_) rfl (by intro W hSw; go_simp; with_reducible rfl) ?_; try simp only [Act.put, qA, qZ, qS]
  refine wKt 6 (v := ?_) rfl (by intro W hSw; go_simp; with_reducible rfl) ?_; try simp only [Act.put, qA, qZ, qS]
  refine wKt 7 (v := ?_) rfl (by intro W hSw; go_simp; with_reducible rfl) ?_; try simp only [Act.put, qA, qZ, qS]
  refine wKt 8 (v := ?_) rfl (by intro W hSw; go_simp; with_reducible rfl) ?_; try simp only [Act.put, qA, qZ, qS]
  refine wKt 9 (v := ?_) rfl (by intro W hSw; go_simp; with_reducible rfl) ?_; try simp only [Act.put, qA, qZ, qS]
  refine wKt 10 (v := ?_) rfl (by intro W hSw; go_simp; with_reducible rfl) ?_; try simp only [Act.put, qA, qZ, qS]
  refine wKt 11 (v := ?_) rfl (by intro W hSw; go_simp; with_reducible rfl) ?_; try simp only [Act.put, qA, qZ, qS]
  refine wKt 12 (v := ?_) rfl (by intro W hSw; go_simp; with_reducible rfl) ?_; try simp only [Act.put, qA, qZ, qS]
  refine wKt 13 (v := ?_) rfl (by intro W hSw; go_simp; with_reducible rfl) ?_; try simp only [Act.put, qA, qZ, qS]
  refine wKt 14 (v := ?_) rfl (by intro W hSw; go_simp; with_reducible rfl) ?_; try simp only [Act.put, qA, qZ, qS]
  refine wKt 15 (v := ?_) rfl (by intro W hSw; go_simp; with_reducible rfl) ?_; try simp only [Act.put, qA, qZ, qS]
  refine wKt 16 (v := ?_) rfl (by intro W hSw; go_simp; with_reducible rfl) ?_; try simp only [Act.put, qA, qZ, qS]
  refine wKt 17 (v := ?_) rfl (by intro W hSw; go_simp; with_reducible rfl) ?_; try simp only [Act.put, qA, qZ, qS]
  refine wKt 18 (v := ?_) rfl (by intro W hSw; go_simp; with_reducible rfl) ?_; try simp only [Act.put, qA, qZ, qS]
  refine wKt 19 (v := ?_) rfl (by intro W hSw; go_simp; with_reducible rfl) ?_; try simp only [Act.put, qA, qZ, qS]
  refine wpAnyK_done (by kernel_rfl) ?_ _
  clear k0 k2 g10 glt blt
  obtain ⟨W1, hV⟩ : ∃ V, V = W0.drew := ⟨_, rfl⟩
  have hld := (Later.refl W0).dr
  rw [← hV] at hld ⊢
  have HB := hide_ (later_row hld HB.out)
  have HK := hide_ (later_row hld HK.out)
  have HL := hide_ (HL.out.trans hld)
  have z7 : W1.cell? ⟨w.heap.size, 7, none⟩ = some (.slice Ab n cb) := cell_of_row _ _ 7 _ _ (0, 0) HB.out
  have HGB := hide_ (lgetB_any (w := W1) (A := Ab) (c := cb) (prev := 50) (ver := 1050) (known := 50) HL0.out (by omega) (by omega) (by omega) (HBD.out.later HL.out))
  rw [HN.out] at HGB
  have HW1S := hide_ (show w.heap.size + 2 ≤ W1.heap.size by have := theap_lt HK.out; omega)
  have blt := theap_lt HB.out
  clear hV hld
  go_wp2_with fail
  refine HGB.out.mono ?_
  rintro e w5 ⟨b0, rfl, hb0s, hb0, hl5⟩
  obtain ⟨V5, hV5⟩ : ∃ V, V = w5.alloc (.cells #[.int .i64 50, .int .i64 1050, .int .i64 50, .slice (some ⟨b0, 0, none⟩) 0 0] 91) := ⟨_, rfl⟩
  have hlv : Later w5 V5 := by rw [hV5]; exact later_alloc _ _
  have hvr : V5.heap[w5.heap.size]? = some (.cells #[.int .i64 50, .int .i64 1050, .int .i64 50, .slice (some ⟨b0, 0, none⟩) 0 0] 91 (0, 0)) := by rw [hV5]; exact heap_alloc_new _ _
  have HLV := hide_ (HL.out.trans (hl5.trans hlv))
  have hb5 := later_row (hl5.trans hlv) HB.out
  have hk5 := later_row (hl5.trans hlv) HK.out
  have z2 : V5.cell? ⟨w.heap.size, 2, none⟩ = some (.int .i64 20) := cell_of_row _ _ 2 _ _ (0, 0) hb5
  have v0 : V5.cell? ⟨w5.heap.size, 0, none⟩ = some (.int .i64 50) := cell_of_row _ _ 0 _ _ (0, 0) hvr
  have v1 : V5.cell? ⟨w5.heap.size, 1, none⟩ = some (.int .i64 1050) := cell_of_row _ _ 1 _ _ (0, 0) hvr
  have v2 : V5.cell? ⟨w5.heap.size, 2, none⟩ = some (.int .i64 50) := cell_of_row _ _ 2 _ _ (0, 0) hvr
  have v3 : V5.cell? ⟨w5.heap.size, 3, none⟩ = some (.slice (some ⟨b0, 0, none⟩) 0 0) := cell_of_row _ _ 3 _ _ (0, 0) hvr
  have HV5 := hide_ hV5
  have HPC := hide_ (show Calls Tryz.prog 46 #[.pointer (some ⟨g, 0, none⟩), .int .i64 0, .agg #[.int .i64 50, .int .i64 1050, .int .i64 50, .slice (some ⟨b0, 0, none⟩) 0 0]] V5 (PushedPost V5 g X { d with tops := [1050, 50], bats := [b1050] } b0) from by
    have h1 := gpush_new (HH.out.later HLV.out) (i := 0) (by rw [HT.out]; rfl) HBS.out (later_row hlv hb0) (fun hm => by have := HXLT.out _ hm; have := HW1S.out; omega) (fun hm => by have := (HH.out.zlt _ hm).2; have := HW1S.out; omega)
    rw [HT.out] at h1
    exact h1)
  have HB5 := hide_ hb5; have HK5 := hide_ hk5
  have HB0 := hide_ (show W1.heap.size ≤ b0 from hb0s)
  have HV5S := hide_ (show W1.heap.size ≤ V5.heap.size from Nat.le_trans hl5.size hlv.size)
  have blt := theap_lt hb5
  have vlt := theap_lt hvr
  have hw0 : IntKind.i64.wrap 0 = 0 := rfl
  clear hV5 hlv hvr hb5 hk5 hb0s hb0 hl5 z7 HGB HB HK HGR
  go_wp2_with (rw [← HV5.out])
  refine HPC.out.mono ?_
  rintro e w6 ⟨rfl, X5, hg6, hh6, hf6⟩
  have hb6 := hh6.row HB5.out (fun hx => by have h1 := HXLT.out _ hx; omega)
  have hk6 := hh6.row HK5.out (fun hx => by have h1 := HXLT.out _ hx; omega)
  have HK6 := hide_ hk6; have HG6 := hide_ hg6
  have HH6 := hide_ (show Hits (· ∈ X) w w6 from (Hits.later HLV.out).trans hh6 fun _ _ h => h)
  have HF5 := hide_ (show ∀ k ∈ X5, k ∈ X ∨ W1.heap.size ≤ k from fun k hk => by
    rcases hf6 k hk with h1 | h1 | h1
    · exact .inl h1
    · right; rw [h1]; exact HB0.out
    · right; exact Nat.le_trans HV5S.out h1)
  obtain ⟨c5, hat6, hX5⟩ := id hg6
  obtain ⟨gt, ct', hut, hlt⟩ : ∃ gt ct', c5.ut = .slice (some ⟨gt, 0, none⟩) 2 ct' ∧ w6.cell? ⟨gt, 0, none⟩ = some (.int .i64 1050) := by
    obtain ⟨At', ct', e2⟩ := slice_len (GmAt.p hat6).tops
    injection e2 with e2
    have h3 := (GmAt.p hat6).tops
    rw [e2] at h3
    obtain ⟨_, gt, cells, _, eA, hcl, hin⟩ := slice_cells h3 (i := 0) (el := (1050 : Int)) rfl (by decide)
    subst eA
    rw [hin.1] at hcl
    exact ⟨gt, ct', e2, hcl 0 _ rfl⟩
  have hgr6 := GmAt.cells hat6
  unfold gmRow at hgr6
  rw [hut] at hgr6
  have g10 := Stands.cell (X := fun q => q = g ∨ q = gt ∨ q = w.heap.size) (show w6.cell? ⟨g, 10, none⟩ = some (.slice (some ⟨gt, 0, none⟩) 2 ct') from cell_of_row _ _ 10 _ _ (0, 0) hgr6) (.inl rfl)
  have t0 := Stands.cell (X := fun q => q = g ∨ q = gt ∨ q = w.heap.size) hlt (.inr (.inl rfl))
  have k2 := Stands.cell (X := fun q => q = g ∨ q = gt ∨ q = w.heap.size) (show w6.cell? ⟨w.heap.size, 2, none⟩ = some (.int .i64 20) from cell_of_row _ _ 2 _ _ (0, 0) hb6) (.inr (.inr rfl))
  have HNX := hide_ (show w.heap.size + 1 ∉ X5 from fun hm => by
    rcases HF5.out _ hm with h1 | h1
    · have := HXLT.out _ h1; omega
    · have := HW1S.out; omega)
  have HNZ := hide_ (show w.heap.size + 1 ∉ d.wz from fun hm => by have := (HH.out.zlt _ hm).2; omega)
  have hne : ¬ (w.heap.size + 1 = g ∨ w.heap.size + 1 = gt ∨ w.heap.size + 1 = w.heap.size) := by
    rintro (e | e | e)
    · exact HNX.out (by rw [hX5, e]; exact List.mem_cons_self ..)
    · obtain ⟨v, e3, ho, hx⟩ := ints_holds.1 (GmAt.p hat6).tops
      injection e3 with e3
      rw [← e3, hut] at hx
      exact HNX.out (by rw [hX5, e]; exact (GmAt.part hat6 (i := 8) (x := c5.Xt) rfl).2.1 gt (by rw [hx]; simp [obL, Value.ownBlock]))
    · omega
  have y0 : w6.cell? ⟨w.heap.size + 1, 0, none⟩ = some (.int .i64 0) := cell_of_row _ _ 0 _ _ (0, 0) hk6
  have y4 : w6.cell? ⟨w.heap.size + 1, 4, none⟩ = some (.int .i64 0) := cell_of_row _ _ 4 _ _ (0, 0) hk6
  have f0 := frozen_of_row _ _ 0 _ _ hk6
  have f4 := frozen_of_row _ _ 4 _ _ hk6
  have f0' : w6.drew.frozen? ⟨w.heap.size + 1, 0, none⟩ = false := f0
  have f4' : w6.drew.frozen? ⟨w.heap.size + 1, 4, none⟩ = false := f4
  have klt := theap_lt hk6
  have blt6 := theap_lt hb6
  have glt := theap_lt hgr6
  have tlt := cell_lt hlt
  have HA6 := hide_ hat6; have HX5 := hide_ hX5
  clear hb6 hk6 hg6 hh6 hf6 hat6 hX5 hut hlt hgr6 HPC v0 v1 v2 v3 z2 blt vlt HB5 HK5
  go_wp2_with fail
  refine wp_region_z (R := Stands (fun q => q = g ∨ q = gt ∨ q = w.heap.size)) [] (by kernel_rfl) ?_
  refine wpAnyZ_take0 (Stands.steady (fun q => q = g ∨ q = gt ∨ q = w.heap.size)) 0 (v := ?_) rfl (by kernel_rfl) (by kernel_rfl) (by kernel_rfl) (fun _ _ _ h => h) (by rfl) (by intro W hSw; go_simp; with_reducible rfl) ?_; try simp only [Act.put, qA, qZ, qS]
  refine wpAnyZ_take0 (Stands.steady (fun q => q = g ∨ q = gt ∨ q = w.heap.size)) 1 (v := ?_) rfl (by kernel_rfl) (by kernel_rfl) (by kernel_rfl) (fun _ _ _ h => h) (by rfl) (by intro W hSw; go_simp; with_reducible rfl) ?_; try simp only [Act.put, qA, qZ, qS]
  refine wpAnyZ_take0 (Stands.steady (fun q => q = g ∨ q = gt ∨ q = w.heap.size)) 2 (v := ?_) rfl (by kernel_rfl) (by kernel_rfl) (by kernel_rfl) (fun _ _ _ h => h) (by rfl) (by intro W hSw; go_simp; with_reducible rfl) ?_; try simp only [Act.put, qA, qZ, qS]
  refine wpAnyZ_take0 (Stands.steady (fun q => q = g ∨ q = gt ∨ q = w.heap.size)) 3 (v := ?_) rfl (by kernel_rfl) (by kernel_rfl) (by kernel_rfl) (fun _ _ _ h => h) (by rfl) (by intro W hSw; have hS0 := Stands.trans (show Stands (fun q => q = g ∨ q = gt ∨ q = w.heap.size) w6 _ from by repeat first | with_reducible assumption | with_reducible exact Stands.refl _ _ | with_reducible refine Stands.alloc ?_ _ | with_reducible refine Stands.drew ?_ | with_reducible refine Stands.drewL ?_ | with_reducible refine Stands.setCell ?_ (by assumption) _ _ | assumption | refine Stands.trans ?_ (by assumption)) hSw; go_simp; with_reducible rfl) ?_; try simp only [Act.put, qA, qZ, qS]
  refine wpAnyZ_take0 (Stands.steady (fun q => q = g ∨ q = gt ∨ q = w.heap.size)) 4 (v := ?_) rfl (by kernel_rfl) (by kernel_rfl) (by kernel_rfl) (fun _ _ _ h => h) (by rfl) (by intro W hSw; go_simp; with_reducible rfl) ?_; try simp only [Act.put, qA, qZ, qS]
  refine wpAnyZ_take0 (Stands.steady (fun q => q = g ∨ q = gt ∨ q = w.heap.size)) 5 (v := ?_) rfl (by kernel_rfl) (by kernel_rfl) (by kernel_rfl) (fun _ _ _ h => h) (by rfl) (by intro W hSw; have hS0 := Stands.trans (show Stands (fun q => q = g ∨ q = gt ∨ q = w.heap.size) w6 _ from by repeat first | with_reducible assumption | with_reducible exact Stands.refl _ _ | with_reducible refine Stands.alloc ?_ _ | with_reducible refine Stands.drew ?_ | with_reducible refine Stands.drewL ?_ | with_reducible refine Stands.setCell ?_ (by assumption) _ _ | assumption | refine Stands.trans ?_ (by assumption)) hSw; go_simp; with_reducible rfl) ?_; try simp only [Act.put, qA, qZ, qS]
  refine wpAnyZ_take0 (Stands.steady (fun q => q = g ∨ q = gt ∨ q = w.heap.size)) 6 (v := ?_) rfl (by kernel_rfl) (by kernel_rfl) (by kernel_rfl) (fun _ _ _ h => h) (by rfl) (by intro W hSw; have hS0 := Stands.trans (show Stands (fun q => q = g ∨ q = gt ∨ q = w.heap.size) w6 _ from by repeat first | with_reducible assumption | with_reducible exact Stands.refl _ _ | with_reducible refine Stands.alloc ?_ _ | with_reducible refine Stands.drew ?_ | with_reducible refine Stands.drewL ?_ | with_reducible refine Stands.setCell ?_ (by assumption) _ _ | assumption | refine Stands.trans ?_ (by assumption)) hSw; go_simp; with_reducible rfl) ?_; try simp only [Act.put, qA, qZ, qS]
  refine wpAnyZ_take0 (Stands.steady (fun q => q = g ∨ q = gt ∨ q = w.heap.size)) 7 (v := ?_) rfl (by kernel_rfl) (by kernel_rfl) (by kernel_rfl) (fun _ _ _ h => h) (by rfl) (by intro W hSw; go_simp; with_reducible rfl) ?_; try simp only [Act.put, qA, qZ, qS]
  refine wpAnyZ_take0 (Stands.steady (fun q => q = g ∨ q = gt ∨ q = w.heap.size)) 8 (v := ?_) rfl (by kernel_rfl) (by kernel_rfl) (by kernel_rfl) (fun _ _ _ h => h) (by rfl) (by intro W hSw; have hS0 := Stands.trans (show Stands (fun q => q = g ∨ q = gt ∨ q = w.heap.size) w6 _ from by repeat first | with_reducible assumption | with_reducible exact Stands.refl _ _ | with_reducible refine Stands.alloc ?_ _ | with_reducible refine Stands.drew ?_ | with_reducible refine Stands.drewL ?_ | with_reducible refine Stands.setCell ?_ (by assumption) _ _ | assumption | refine Stands.trans ?_ (by assumption)) hSw; go_simp; with_reducible rfl) ?_; try simp only [Act.put, qA, qZ, qS]
  refine wpAnyZ_take0 (Stands.steady (fun q => q = g ∨ q = gt ∨ q = w.heap.size)) 9 (v := ?_) rfl (by kernel_rfl) (by kernel_rfl) (by kernel_rfl) (fun _ _ _ h => h) (by rfl) (by intro W hSw; go_simp; with_reducible rfl) ?_; try simp only [Act.put, qA, qZ, qS]
  refine wpAnyZ_one 10 (by kernel_rfl) rfl (fun K hK => ?_)
  go_simp
  refine hK.out _ _ (by repeat first | with_reducible assumption | with_reducible exact Stands.refl _ _ | with_reducible refine Stands.alloc ?_ _ | with_reducible refine Stands.drew ?_ | with_reducible refine Stands.drewL ?_ | with_reducible refine Stands.setCell ?_ (by assumption) _ _ | assumption | refine Stands.of_later ?_) ?_
  clear hK K; try simp only [Act.put, qA, qZ, qS]
  refine wpAnyZ_take0 (Stands.steady (fun q => q = g ∨ q = gt ∨ q = w.heap.size)) 11 (v := ?_) rfl (by kernel_rfl) (by kernel_rfl) (by kernel_rfl) (fun _ _ _ h => h) (by rfl) (by intro W hSw; go_simp; with_reducible rfl) ?_; try simp only [Act.put, qA, qZ, qS]
  refine wpAnyZ_one 12 (by kernel_rfl) rfl (fun K hK => ?_)
  go_simp
  refine hK.out _ _ (by repeat first | with_reducible assumption | with_reducible exact Stands.refl _ _ | with_reducible refine Stands.alloc ?_ _ | with_reducible refine Stands.drew ?_ | with_reducible refine Stands.drewL ?_ | with_reducible refine Stands.setCell ?_ (by assumption) _ _ | assumption | refine Stands.of_later ?_) ?_
  clear hK K; try simp only [Act.put, qA, qZ, qS]
  refine wpAnyZ_done (by kernel_rfl) ?_ _
  obtain ⟨W2, hW2⟩ : ∃ V, V = ((w6.setCell ⟨w.heap.size + 1, 0, none⟩ (.int .i64 6)).setCell ⟨w.heap.size + 1, 4, none⟩ (.int .i64 1050)).drew := ⟨_, rfl⟩
  have hhb : Hits (· = w.heap.size + 1) w6 W2 := by rw [hW2]; exact (((Hits.refl (· = w.heap.size + 1) w6).setCell (g := w.heap.size + 1) (fun _ => rfl) 0 _).setCell (g := w.heap.size + 1) (fun _ => rfl) 4 _).thenLater (Later.refl _).dr
  have hX5 := HX5.out
  have hA2 : GmAt W2 g { d with tops := [1050, 50], bats := [b1050] } c5 := HA6.out.frame hhb (fun k hk e => HNX.out (by rw [HX5.out, ← e]; exact hk)) fun f hf k hk e => gm_ro (d := { d with tops := [1050, 50], bats := [b1050] }) HNZ.out f hf (e ▸ hk)
  have HK2 := hide_ (show W2.heap[w.heap.size + 1]? = some (.cells #[.int .i64 6, .int .i64 20, .int .i64 60, .int .i64 300, .int .i64 1050, .int .i64 0, .int .i64 0, .slice none 0 0] 53 (0, 0)) by rw [hW2]; exact later_row (Later.refl _).dr (heap_setCell_same _ _ 4 _ _ (.int .i64 1050) (heap_setCell_same w6 _ 0 _ _ (.int .i64 6) HK6.out)))
  have HH2 := hide_ (show Hits (· ∈ X) w W2 from HH6.out.trans (hhb.mono (G := fun k => w.heap.size ≤ k) fun k _ h => by omega) (fun i hi h => by omega))
  rw [← hW2]
  have hgr2 := GmAt.cells hA2
  unfold gmRow at hgr2
  have HX5 := hide_ hX5
  have k0 := Stands.cell (X := fun q => q = g ∨ q = w.heap.size + 1) (show W2.cell? ⟨g, 0, none⟩ = some (.pointer (some ⟨d.fb, 0, none⟩)) from cell_of_row _ _ 0 _ _ (0, 0) hgr2) (.inl rfl)
  have b0 := Stands.cell (X := fun q => q = g ∨ q = w.heap.size + 1) (show W2.cell? ⟨w.heap.size + 1, 0, none⟩ = some (.int .i64 6) from cell_of_row _ _ 0 _ _ (0, 0) HK2.out) (.inr rfl)
  have b1 := Stands.cell (X := fun q => q = g ∨ q = w.heap.size + 1) (show W2.cell? ⟨w.heap.size + 1, 1, none⟩ = some (.int .i64 20) from cell_of_row _ _ 1 _ _ (0, 0) HK2.out) (.inr rfl)
  have b2 := Stands.cell (X := fun q => q = g ∨ q = w.heap.size + 1) (show W2.cell? ⟨w.heap.size + 1, 2, none⟩ = some (.int .i64 60) from cell_of_row _ _ 2 _ _ (0, 0) HK2.out) (.inr rfl)
  have b3 := Stands.cell (X := fun q => q = g ∨ q = w.heap.size + 1) (show W2.cell? ⟨w.heap.size + 1, 3, none⟩ = some (.int .i64 300) from cell_of_row _ _ 3 _ _ (0, 0) HK2.out) (.inr rfl)
  have b4 := Stands.cell (X := fun q => q = g ∨ q = w.heap.size + 1) (show W2.cell? ⟨w.heap.size + 1, 4, none⟩ = some (.int .i64 1050) from cell_of_row _ _ 4 _ _ (0, 0) HK2.out) (.inr rfl)
  have b5 := Stands.cell (X := fun q => q = g ∨ q = w.heap.size + 1) (show W2.cell? ⟨w.heap.size + 1, 5, none⟩ = some (.int .i64 0) from cell_of_row _ _ 5 _ _ (0, 0) HK2.out) (.inr rfl)
  have b6 := Stands.cell (X := fun q => q = g ∨ q = w.heap.size + 1) (show W2.cell? ⟨w.heap.size + 1, 6, none⟩ = some (.int .i64 0) from cell_of_row _ _ 6 _ _ (0, 0) HK2.out) (.inr rfl)
  have b7 := Stands.cell (X := fun q => q = g ∨ q = w.heap.size + 1) (show W2.cell? ⟨w.heap.size + 1, 7, none⟩ = some (.slice none 0 0) from cell_of_row _ _ 7 _ _ (0, 0) HK2.out) (.inr rfl)
  have HAD := hide_ (ObjAt.later hA2 (Later.refl W2).dr)
  have HGF := hide_ (show g ∉ c5.Xf from (GmAt.part hA2 (i := 0) (x := c5.Xf) rfl).2.2)
  have HFL := hide_ (show w.heap.size + 1 ∉ c5.Xf from fun hm => HNX.out (by rw [HX5.out]; exact (GmAt.part hA2 (i := 0) (x := c5.Xf) rfl).2.1 _ hm))
  have HTK := hide_ (take_pushed (GmAt.p HAD.out).fr HOK.out (frm := 20) (a := 1050) HGO.out HLEN.out HND.out HEP.out 0 0 none 0 0)
  have glt2 := theap_lt hgr2
  have klt2 := theap_lt HK2.out
  clear hgr2 hA2 hX5 hhb hW2 klt blt6 glt tlt g10 t0 k2 y0 y4 f0 f4 f0' f4'
  go_wp2_with fail
  refine wp_region_z (R := Stands (fun q => q = g ∨ q = w.heap.size + 1)) [7] (by kernel_rfl) ?_
  refine wpAnyZ_pure (Stands.steady (fun q => q = g ∨ q = w.heap.size + 1)) 0 (v := ?_) rfl (by kernel_rfl) (by kernel_rfl) (by kernel_rfl) (fun _ _ _ h => h) (by rfl) (by intro W; go_simp; with_reducible rfl) ?_; try simp only [Act.put, qA, qZ, qS]
  refine wpAnyZ_pure (Stands.steady (fun q => q = g ∨ q = w.heap.size + 1)) 1 (v := ?_) rfl (by kernel_rfl) (by kernel_rfl) (by kernel_rfl) (fun _ _ _ h => h) (by rfl) (by intro W; go_simp; with_reducible rfl) ?_; try simp only [Act.put, qA, qZ, qS]
  refine wpAnyZ_pure (Stands.steady (fun q => q = g ∨ q = w.heap.size + 1)) 2 (v := ?_) rfl (by kernel_rfl) (by kernel_rfl) (by kernel_rfl) (fun _ _ _ h => h) (by rfl) (by intro W; go_simp; with_reducible rfl) ?_; try simp only [Act.put, qA, qZ, qS]
  refine wpAnyZ_pure (Stands.steady (fun q => q = g ∨ q = w.heap.size + 1)) 3 (v := ?_) rfl (by kernel_rfl) (by kernel_rfl) (by kernel_rfl) (fun _ _ _ h => h) (by rfl) (by intro W; go_simp; with_reducible rfl) ?_; try simp only [Act.put, qA, qZ, qS]
  refine wpAnyZ_take (Stands.steady (fun q => q = g ∨ q = w.heap.size + 1)) 4 (v := ?_) rfl (by kernel_rfl) (by kernel_rfl) (by kernel_rfl) (by kernel_rfl) (fun _ _ _ h => h) (by rfl) (by intro W hSw; have hS0 := Stands.trans (show Stands (fun q => q = g ∨ q = w.heap.size + 1) W2 _ from by repeat first | with_reducible assumption | with_reducible exact Stands.refl _ _ | with_reducible refine Stands.alloc ?_ _ | with_reducible refine Stands.drew ?_ | with_reducible refine Stands.drewL ?_ | with_reducible refine Stands.setCell ?_ (by assumption) _ _ | assumption | refine Stands.trans ?_ (by assumption)) hSw; go_simp; with_reducible rfl) ?_; try simp only [Act.put, qA, qZ, qS]
  refine wpAnyZ_take (Stands.steady (fun q => q = g ∨ q = w.heap.size + 1)) 5 (v := ?_) rfl (by kernel_rfl) (by kernel_rfl) (by kernel_rfl) (by kernel_rfl) (fun _ _ _ h => h) (by rfl) (by intro W hSw; have hS0 := Stands.trans (show Stands (fun q => q = g ∨ q = w.heap.size + 1) W2 _ from by repeat first | with_reducible assumption | with_reducible exact Stands.refl _ _ | with_reducible refine Stands.alloc ?_ _ | with_reducible refine Stands.drew ?_ | with_reducible refine Stands.drewL ?_ | with_reducible refine Stands.setCell ?_ (by assumption) _ _ | assumption | refine Stands.trans ?_ (by assumption)) hSw; go_simp; with_reducible rfl) ?_; try simp only [Act.put, qA, qZ, qS]
  refine wpAnyZ_one 6 (by kernel_rfl) rfl (fun K hK => ?_)
  go_simp
  refine HTK.out.mono ?_; rintro e w15 h15; obtain ⟨A5, n5, cc5, Y5, X15, rfl, hn5, hg15, hp5, hv5, hy5, hh15, hf15, hhx⟩ := GmAt.take HAD.out h15; have hs15 : Stands (fun q => q = g ∨ q = w.heap.size + 1) _ w15 := hhx.stands (fun k hk hF hX => by rcases hX with e | e; (exact HGF.out (e ▸ hF)); (exact HFL.out (e ▸ hF))); have HSN := hide_ (gsend_any hg15 hp5 hn5 hv5 hy5 HSD.out.all (by rw [← hn5]; exact HSD.out.n)); have HH15 := hide_ hh15; have HF15 := hide_ hf15; clear hhx hp5 hv5 hy5 h15 hg15
  refine hK.out _ _ (by repeat first | with_reducible assumption | with_reducible exact Stands.refl _ _ | with_reducible refine Stands.alloc ?_ _ | with_reducible refine Stands.drew ?_ | with_reducible refine Stands.drewL ?_ | with_reducible refine Stands.setCell ?_ (by assumption) _ _ | assumption | refine Stands.of_later ?_) ?_
  clear hK K; try simp only [Act.put, qA, qZ, qS]
  refine wpAnyZ_loud 7 (by kernel_rfl) (by rfl) rfl (fun K hK => ?_)
  go_simp
  refine HSN.out.mono ?_; rintro e w6 h6; obtain ⟨rfl, h6⟩ := h6
  refine hK.out _ _ ?_
  clear hK K; try simp only [Act.put, qA, qZ, qS]
  refine wpAnyZ_done (by kernel_rfl) ?_ _
  go_wp2_with fail
  go_returns
  rw [← HX5.out] at HH15 HF15
  exact TSPost.of (d := { d with tops := [1050, 50], bats := [b1050] }) (w2 := w15) (X2 := X15) (Y := Y5) (turn_step (HH2.out.thenLater (Later.refl W2).dr) (fun k hk => (HF5.out k hk).imp id fun h => by have := HW1S.out; omega) HH15.out) (fun k hk => (HF15.out k hk).elim (fun h => (HF5.out k h).imp id fun h => by have := HW1S.out; omega) fun h => .inr (Nat.le_trans HH2.out.size h)) ⟨rfl, h6⟩

end Go.Proofs.YtcmollfhlillfaaGreatDoor
/-
  The law's game: the other chest answers.
-/
namespace Go.Proofs.YtcmollfhlillfaaGreatDoor
open Go.RowKit
set_option linter.unusedVariables false
set_option linter.unusedSimpArgs false
set_option maxHeartbeats 8000000 in
set_option maxRecDepth 100000 in
theorem deliver_push21 {w : World} {g : Nat} {d : Gm} {X : List Nat} (h : GmH w g d X) (ht : d.tops = [1050, 50]) (hbs : d.bats = [b1050]) {Ab : Option Addr} {n cb : Nat} {l : List UInt8} (hl0 : l = putN 50 ++ (putN 1050 ++ (putN 50 ++ (putN 0 ++ [])))) (hn : l.length = n) (hbd : BodyAt w Ab cb l)
    (hok : PsdOk d.fr) (hgo : GoOk (pushedF d.fr 21 1050).1) (hlen : (pushedF d.fr 21 1050).2.length + (goOnF (pushedF d.fr 21 1050).1).2.length ≤ 1000000) (hnd : d.fr.node = 60) (hep : d.fr.epoch = 300) (hsd : SendOk d (joinL (pushedF d.fr 21 1050)).2) :
    Calls Tryz.prog 23 #[.pointer (some ⟨g, 0, none⟩), .agg #[.int .i64 5, .int .i64 60, .int .i64 21, .int .i64 300, .int .i64 0, .int .i64 0, .int .i64 0, .slice Ab n cb]] w (TSPost w g X { d with tops := [1050, 1050] } (joinL (pushedF d.fr 21 1050)).1 (joinL (pushedF d.fr 21 1050)).2) := by
  have HXLT := hide_ h.lt
  have HH := hide_ h
  obtain ⟨c, hat, hX⟩ := h
  obtain ⟨Wm, hW⟩ : ∃ Wm, Wm = (w.alloc (.cells #[.int .i64 5, .int .i64 60, .int .i64 21, .int .i64 300, .int .i64 0, .int .i64 0, .int .i64 0, .slice Ab n cb] 53)).alloc (.cells #[.int .i64 0, .int .i64 21, .int .i64 60, .int .i64 300, .int .i64 0, .int .i64 0, .int .i64 0, .slice none 0 0] 53) := ⟨_, rfl⟩
  have hl : Later w Wm := by rw [hW]; exact (later_alloc _ _).al _
  have hbr : Wm.heap[w.heap.size]? = some (.cells #[.int .i64 5, .int .i64 60, .int .i64 21, .int .i64 300, .int .i64 0, .int .i64 0, .int .i64 0, .slice Ab n cb] 53 (0, 0)) := by rw [hW]; exact row_al (heap_alloc_new _ _) _
  have hbk : Wm.heap[w.heap.size + 1]? = some (.cells #[.int .i64 0, .int .i64 21, .int .i64 60, .int .i64 300, .int .i64 0, .int .i64 0, .int .i64 0, .slice none 0 0] 53 (0, 0)) := by rw [hW]; exact row_new2 _ _ _
  have hat1 := hat.later hl
  have hgr := GmAt.cells hat1
  obtain ⟨At, ct, hut⟩ : ∃ At ct, c.ut = .slice At 2 ct := by
    obtain ⟨At, ct, e2⟩ := slice_len (GmAt.p hat1).tops
    injection e2 with e2
    rw [ht] at e2
    exact ⟨At, ct, e2⟩
  unfold gmRow at hgr
  rw [hut] at hgr
  have glt := theap_lt hgr
  have blt := theap_lt hbr
  have klt := theap_lt hbk
  have HB := hide_ hbr; have HK := hide_ hbk; have HW := hide_ hW; have HL := hide_ hl; have HX := hide_ hX; have HOK := hide_ hok; have HGO := hide_ hgo; have HLEN := hide_ hlen; have HND := hide_ hnd; have HEP := hide_ hep; have HSD := hide_ hsd; have HT := hide_ ht; have HBS := hide_ hbs; have HL0 := hide_ hl0; have HBD := hide_ hbd; have HN := hide_ hn; have HGR := hide_ hgr
  have z0 : Wm.cell? ⟨w.heap.size, 0, none⟩ = some (.int .i64 5) := cell_of_row _ _ 0 _ _ (0, 0) hbr
  have z2 : Wm.cell? ⟨w.heap.size, 2, none⟩ = some (.int .i64 21) := cell_of_row _ _ 2 _ _ (0, 0) hbr
  have k0 := later_drew_cell z0
  clear hat hat1 hX hW hl hbr hbk hgr hok hgo hlen hnd hep hsd ht hbs hl0 hbd hn hut
  go_enter Tryz.func23, Tryz.ntmps23
  go_wp2_with (rw [← HW.out])
  refine wp_region_k (by kernel_rfl) ?_
  refine wKt 0 (v := ?_) rfl (by intro W hSw; go_simp; with_reducible rfl) ?_; try simp only [Act.put, qA, qZ, qS]
  refine wKt 1 (v := ?_) rfl (by intro W hSw; go_simp; with_reducible rfl) ?_; try simp only [Act.put, qA, qZ, qS]
  refine wKt 2 (v := ?_) rfl (by intro W hSw; go_simp; with_reducible rfl) ?_; try simp only [Act.put, qA, qZ, qS]
  refine wKt 3 (v := ?_) rfl (by intro W hSw; go_simp; with_reducible rfl) ?_; try simp only [Act.put, qA, qZ, qS]
  refine wKs 4 rfl ?_; try simp only [Act.put, qA, qZ, qS]
  refine wKs 5 rfl ?_; try simp only [Act.put, qA, qZ, qS]
  refine wKs 6 rfl ?_; try simp only [Act.put, qA, qZ, qS]
  refine wKt 7 (v := ?_) rfl (by intro W hSw; go_simp; with_reducible rfl) ?_; try simp only [Act.put, qA, qZ, qS]
  refine wKt 8 (v := ?_) rfl (by intro W hSw; go_simp; with_reducible rfl) ?_; try simp only [Act.put, qA, qZ, qS]
  refine wKs 9 rfl ?_; try simp only [Act.put, qA, qZ, qS]
  refine wKs 10 rfl ?_; try simp only [Act.put, qA, qZ, qS]
  refine wKs 11 rfl ?_; try simp only [Act.put, qA, qZ, qS]
  refine wKs 12 rfl ?_; try simp only [Act.put, qA, qZ, qS]
  refine wKs 13 rfl ?_; try simp only [Act.put, qA, qZ, qS]
  refine wKs 14 rfl ?_; try simp only [Act.put, qA, qZ, qS]
  refine wKs 15 rfl ?_; try simp only [Act.put, qA, qZ, qS]
  refine wKs 16 rfl ?_; try simp only [Act.put, qA, qZ, qS]
  refine wKs 17 rfl ?_; try simp only [Act.put, qA, qZ, qS]
  refine wKt 18 (v := ?_) rfl (by intro W hSw; go_simp; with_reducible rfl) ?_; try simp only [Act.put, qA, qZ, qS]
  refine wKt 19 (v := ?_) rfl (by intro W hSw; go_simp; with_reducible rfl) ?_; try simp only [Act.put, qA, qZ, qS]
  refine wpAnyK_done (by kernel_rfl) ?_ _
  clear z0 z2 k0 glt blt klt
  obtain ⟨W0, hV⟩ : ∃ V, V = Wm.drew := ⟨_, rfl⟩
  have hld := (Later.refl Wm).dr
  rw [← hV] at hld ⊢
  have HB := hide_ (later_row hld HB.out)
  have HK := hide_ (later_row hld HK.out)
  have HGR := hide_ (later_row hld HGR.out)
  have HL := hide_ (HL.out.trans hld)
  have k0 := later_drew_cell (show W0.cell? ⟨w.heap.size, 0, none⟩ = some (.int .i64 5) from cell_of_row _ _ 0 _ _ (0, 0) HB.out)
  have k2 := later_drew_cell (show W0.cell? ⟨w.heap.size, 2, none⟩ = some (.int .i64 21) from cell_of_row _ _ 2 _ _ (0, 0) HB.out)
  have g10 := later_drew_cell (show W0.cell? ⟨g, 10, none⟩ = some (.slice At 2 ct) from cell_of_row _ _ 10 _ _ (0, 0) HGR.out)
  have glt := theap_lt HGR.out
  have blt := theap_lt HB.out
  clear hV hld
  go_wp2_with fail
  refine wp_region_k (by kernel_rfl) ?_
  refine wKt 0 (v := ?_) rfl (by intro W hSw; go_simp; with_reducible rfl) ?_; try simp only [Act.put, qA, qZ, qS]
  refine wKt 1 (v := ?_) rfl (by intro W hSw; go_simp; with_reducible rfl) ?_; try simp only [Act.put, qA, qZ, qS]
  refine wKt 2 (v := ?_) rfl (by intro W hSw; go_simp; with_reducible rfl) ?_; try simp only [Act.put, qA, qZ, qS]
  refine wKt 3 (v := ?_) rfl (by intro W hSw; go_simp; with_reducible rfl) ?_; try simp only [Act.put, qA, qZ, qS]
  refine wKt 4 (v := ?_) rfl (by intro W hSw; go_simp; with_reducible rfl) ?_; try simp only [Act.put, qA, qZ, qS]
  refine wKt 5 (v := ?_) rfl (by intro W hSw; go_simp; with_reducible rfl) ?_; try simp only [Act.put, qA, qZ, qS]
  refine wKt 6 (v := ?_) rfl (by intro W hSw; go_simp; with_reducible rfl) ?_; try simp only [Act.put, qA, qZ, qS]
  refine wKt 7 (v := ?_) rfl (by intro W hSw; go_simp; with_reducible rfl) ?_; try simp only [Act.put, qA, qZ, qS]
  refine wKt 8 (v := ?_) rfl (by intro W hSw; go_simp; with_reducible rfl) ?_; try simp only [Act.put, qA, qZ, qS]
  refine wKt 9 (v := ?_) rfl (by intro W hSw; go_simp; with_reducible rfl) ?_; try simp only [Act.put, qA, qZ, qS]
  refine wKt 10 (v := ?_) rfl (by intro W hSw; go_simp; with_reducible rfl) ?_; try simp only [Act.put, qA, qZ, qS]
  refine wKt 11 (v := ?_) rfl (by intro W hSw; go_simp; with_reducible rfl) ?_; try simp only [Act.put, qA, qZ, qS]
  refine wKt 12 (v := ?_) rfl (by intro W hSw; go_simp; with_reducible rfl) ?_; try simp only [Act.put, qA, qZ, qS]
  refine wKt 13 (v := ?_) rfl (by intro W hSw; go_simp; with_reducible rfl) ?_; try simp only [Act.put, qA, qZ, qS]
  refine wKt 14 (v := ?_) rfl (by intro W hSw; go_simp; with_reducible rfl) ?_; try simp only [Act.put, qA, qZ, qS]
  refine wKt 15 (v := ?_) rfl (by intro W hSw; go_simp; with_reducible rfl) ?_; try simp only [Act.put, qA, qZ, qS]
  refine wKt 16 (v := ?_) rfl (by intro W hSw; go_simp; with_reducible rfl) ?_; try simp only [Act.put, qA, qZ, qS]
  refine wKt 17 (v := ?_) rfl (by intro W hSw; go_simp; with_reducible rfl) ?_; try simp only [Act.put, qA, qZ, qS]
  refine wKt 18 (v := ?_) rfl (by intro W hSw; go_simp; with_reducible rfl) ?_; try simp only [Act.put, qA, qZ, qS]
  refine wKt 19 (v := ?_) rfl (by intro W hSw; go_simp; with_reducible rfl) ?_; try simp only [Act.put, qA, qZ, qS]
  refine wpAnyK_done (by kernel_rfl) ?_ _
  clear k0 k2 g10 glt blt
  obtain ⟨W1, hV⟩ : ∃ V, V = W0.drew := ⟨_, rfl⟩
  have hld := (Later.refl W0).dr
  rw [← hV] at hld ⊢
  have HB := hide_ (later_row hld HB.out)
  have HK := hide_ (later_row hld HK.out)
  have HL := hide_ (HL.out.trans hld)
  have z7 : W1.cell? ⟨w.heap.size, 7, none⟩ = some (.slice Ab n cb) := cell_of_row _ _ 7 _ _ (0, 0) HB.out
  have HGB := hide_ (lgetB_any (w := W1) (A := Ab) (c := cb) (prev := 50) (ver := 1050) (known := 50) HL0.out (by omega) (by omega) (by omega) (HBD.out.later HL.out))
  rw [HN.out] at HGB
  have HW1S := hide_ (show w.heap.size + 2 ≤ W1.heap.size by have := theap_lt HK.out; omega)
  have blt := theap_lt HB.out
  clear hV hld
  go_wp2_with fail
  refine HGB.out.mono ?_
  rintro e w5 ⟨b0, rfl, hb0s, hb0, hl5⟩
  obtain ⟨V5, hV5⟩ : ∃ V, V = w5.alloc (.cells #[.int .i64 50, .int .i64 1050, .int .i64 50, .slice (some ⟨b0, 0, none⟩) 0 0] 91) := ⟨_, rfl⟩
  have hlv : Later w5 V5 := by rw [hV5]; exact later_alloc _ _
  have hvr : V5.heap[w5.heap.size]? = some (.cells #[.int .i64 50, .int .i64 1050, .int .i64 50, .slice (some ⟨b0, 0, none⟩) 0 0] 91 (0, 0)) := by rw [hV5]; exact heap_alloc_new _ _
  have HLV := hide_ (HL.out.trans (hl5.trans hlv))
  have hb5 := later_row (hl5.trans hlv) HB.out
  have hk5 := later_row (hl5.trans hlv) HK.out
  have z2 : V5.cell? ⟨w.heap.size, 2, none⟩ = some (.int .i64 21) := cell_of_row _ _ 2 _ _ (0, 0) hb5
  have v0 : V5.cell? ⟨w5.heap.size, 0, none⟩ = some (.int .i64 50) := cell_of_row _ _ 0 _ _ (0, 0) hvr
  have v1 : V5.cell? ⟨w5.heap.size, 1, none⟩ = some (.int .i64 1050) := cell_of_row _ _ 1 _ _ (0, 0) hvr
  have v2 : V5.cell? ⟨w5.heap.size, 2, none⟩ = some (.int .i64 50) := cell_of_row _ _ 2 _ _ (0, 0) hvr
  have v3 : V5.cell? ⟨w5.heap.size, 3, none⟩ = some (.slice (some ⟨b0, 0, none⟩) 0 0) := cell_of_row _ _ 3 _ _ (0, 0) hvr
  have HV5 := hide_ hV5
  have HPC := hide_ (show Calls Tryz.prog 46 #[.pointer (some ⟨g, 0, none⟩), .int .i64 1, .agg #[.int .i64 50, .int .i64 1050, .int .i64 50, .slice (some ⟨b0, 0, none⟩) 0 0]] V5 (PushedPost V5 g X { d with tops := [1050, 1050] } b0) from by
    have h1 := gpush_same (HH.out.later HLV.out) (i := 1) (by rw [HT.out]; rfl) HBS.out (later_row hlv hb0) (fun hm => by have := HXLT.out _ hm; have := HW1S.out; omega) (fun hm => by have := (HH.out.zlt _ hm).2; have := HW1S.out; omega)
    rw [HT.out] at h1
    exact h1)
  have HB5 := hide_ hb5; have HK5 := hide_ hk5
  have HB0 := hide_ (show W1.heap.size ≤ b0 from hb0s)
  have HV5S := hide_ (show W1.heap.size ≤ V5.heap.size from Nat.le_trans hl5.size hlv.size)
  have blt := theap_lt hb5
  have vlt := theap_lt hvr
  have hw0 : IntKind.i64.wrap 1 = 1 := rfl
  clear hV5 hlv hvr hb5 hk5 hb0s hb0 hl5 z7 HGB HB HK HGR
  go_wp2_with (rw [← HV5.out])
  refine HPC.out.mono ?_
  rintro e w6 ⟨rfl, X5, hg6, hh6, hf6⟩
  have hb6 := hh6.row HB5.out (fun hx => by have h1 := HXLT.out _ hx; omega)
  have hk6 := hh6.row HK5.out (fun hx => by have h1 := HXLT.out _ hx; omega)
  have HK6 := hide_ hk6; have HG6 := hide_ hg6
  have HH6 := hide_ (show Hits (· ∈ X) w w6 from (Hits.later HLV.out).trans hh6 fun _ _ h => h)
  have HF5 := hide_ (show ∀ k ∈ X5, k ∈ X ∨ W1.heap.size ≤ k from fun k hk => by
    rcases hf6 k hk with h1 | h1 | h1
    · exact .inl h1
    · right; rw [h1]; exact HB0.out
    · right; exact Nat.le_trans HV5S.out h1)
  obtain ⟨c5, hat6, hX5⟩ := id hg6
  obtain ⟨gt, ct', hut, hlt⟩ : ∃ gt ct', c5.ut = .slice (some ⟨gt, 0, none⟩) 2 ct' ∧ w6.cell? ⟨gt, 1, none⟩ = some (.int .i64 1050) := by
    obtain ⟨At', ct', e2⟩ := slice_len (GmAt.p hat6).tops
    injection e2 with e2
    have h3 := (GmAt.p hat6).tops
    rw [e2] at h3
    obtain ⟨_, gt, cells, _, eA, hcl, hin⟩ := slice_cells h3 (i := 1) (el := (1050 : Int)) rfl (by decide)
    subst eA
    rw [hin.1] at hcl
    exact ⟨gt, ct', e2, hcl 0 _ rfl⟩
  have hgr6 := GmAt.cells hat6
  unfold gmRow at hgr6
  rw [hut] at hgr6
  have g10 := Stands.cell (X := fun q => q = g ∨ q = gt ∨ q = w.heap.size) (show w6.cell? ⟨g, 10, none⟩ = some (.slice (some ⟨gt, 0, none⟩) 2 ct') from cell_of_row _ _ 10 _ _ (0, 0) hgr6) (.inl rfl)
  have t0 := Stands.cell (X := fun q => q = g ∨ q = gt ∨ q = w.heap.size) hlt (.inr (.inl rfl))
  have k2 := Stands.cell (X := fun q => q = g ∨ q = gt ∨ q = w.heap.size) (show w6.cell? ⟨w.heap.size, 2, none⟩ = some (.int .i64 21) from cell_of_row _ _ 2 _ _ (0, 0) hb6) (.inr (.inr rfl))
  have HNX := hide_ (show w.heap.size + 1 ∉ X5 from fun hm => by
    rcases HF5.out _ hm with h1 | h1
    · have := HXLT.out _ h1; omega
    · have := HW1S.out; omega)
  have HNZ := hide_ (show w.heap.size + 1 ∉ d.wz from fun hm => by have := (HH.out.zlt _ hm).2; omega)
  have hne : ¬ (w.heap.size + 1 = g ∨ w.heap.size + 1 = gt ∨ w.heap.size + 1 = w.heap.size) := by
    rintro (e | e | e)
    · exact HNX.out (by rw [hX5, e]; exact List.mem_cons_self ..)
    · obtain ⟨v, e3, ho, hx⟩ := ints_holds.1 (GmAt.p hat6).tops
      injection e3 with e3
      rw [← e3, hut] at hx
      exact HNX.out (by rw [hX5, e]; exact (GmAt.part hat6 (i := 8) (x := c5.Xt) rfl).2.1 gt (by rw [hx]; simp [obL, Value.ownBlock]))
    · omega
  have y0 : w6.cell? ⟨w.heap.size + 1, 0, none⟩ = some (.int .i64 0) := cell_of_row _ _ 0 _ _ (0, 0) hk6
  have y4 : w6.cell? ⟨w.heap.size + 1, 4, none⟩ = some (.int .i64 0) := cell_of_row _ _ 4 _ _ (0, 0) hk6
  have f0 := frozen_of_row _ _ 0 _ _ hk6
  have f4 := frozen_of_row _ _ 4 _ _ hk6
  have f0' : w6.drew.frozen? ⟨w.heap.size + 1, 0, none⟩ = false := f0
  have f4' : w6.drew.frozen? ⟨w.heap.size + 1, 4, none⟩ = false := f4
  have klt := theap_lt hk6
  have blt6 := theap_lt hb6
  have glt := theap_lt hgr6
  have tlt := cell_lt hlt
  have HA6 := hide_ hat6; have HX5 := hide_ hX5
  clear hb6 hk6 hg6 hh6 hf6 hat6 hX5 hut hlt hgr6 HPC v0 v1 v2 v3 z2 blt vlt HB5 HK5
  go_wp2_with fail
  refine wp_region_z (R := Stands (fun q => q = g ∨ q = gt ∨ q = w.heap.size)) [] (by kernel_rfl) ?_
  refine wpAnyZ_take0 (Stands.steady (fun q => q = g ∨ q = gt ∨ q = w.heap.size)) 0 (v := ?_) rfl (by kernel_rfl) (by kernel_rfl) (by kernel_rfl) (fun _ _ _ h => h) (by rfl) (by intro W hSw; go_simp; with_reducible rfl) ?_; try simp only [Act.put, qA, qZ, qS]
  refine wpAnyZ_take0 (Stands.steady (fun q => q = g ∨ q = gt ∨ q = w.heap.size)) 1 (v := ?_) rfl (by kernel_rfl) (by kernel_rfl) (by kernel_rfl) (fun _ _ _ h => h) (by rfl) (by intro W hSw; go_simp; with_reducible rfl) ?_; try simp only [Act.put, qA, qZ, qS]
  refine wpAnyZ_take0 (Stands.steady (fun q => q = g ∨ q = gt ∨ q = w.heap.size)) 2 (v := ?_) rfl (by kernel_rfl) (by kernel_rfl) (by kernel_rfl) (fun _ _ _ h => h) (by rfl) (by intro W hSw; go_simp; with_reducible rfl) ?_; try simp only [Act.put, qA, qZ, qS]
  refine wpAnyZ_take0 (Stands.steady (fun q => q = g ∨ q = gt ∨ q = w.heap.size)) 3 (v := ?_) rfl (by kernel_rfl) (by kernel_rfl) (by kernel_rfl) (fun _ _ _ h => h) (by rfl) (by intro W hSw; have hS0 := Stands.trans (show Stands (fun q => q = g ∨ q = gt ∨ q = w.heap.size) w6 _ from by repeat first | with_reducible assumption | with_reducible exact Stands.refl _ _ | with_reducible refine Stands.alloc ?_ _ | with_reducible refine Stands.drew ?_ | with_reducible refine Stands.drewL ?_ | with_reducible refine Stands.setCell ?_ (by assumption) _ _ | assumption | refine Stands.trans ?_ (by assumption)) hSw; go_simp; with_reducible rfl) ?_; try simp only [Act.put, qA, qZ, qS]
  refine wpAnyZ_take0 (Stands.steady (fun q => q = g ∨ q = gt ∨ q = w.heap.size)) 4 (v := ?_) rfl (by kernel_rfl) (by kernel_rfl) (by kernel_rfl) (fun _ _ _ h => h) (by rfl) (by intro W hSw; go_simp; with_reducible rfl) ?_; try simp only [Act.put, qA, qZ, qS]
  refine wpAnyZ_take0 (Stands.steady (fun q => q = g ∨ q = gt ∨ q = w.heap.size)) 5 (v := ?_) rfl (by kernel_rfl) (by kernel_rfl) (by kernel_rfl) (fun _ _ _ h => h) (by rfl) (by intro W hSw; have hS0 := Stands.trans (show Stands (fun q => q = g ∨ q = gt ∨ q = w.heap.size) w6 _ from by repeat first | with_reducible assumption | with_reducible exact Stands.refl _ _ | with_reducible refine Stands.alloc ?_ _ | with_reducible refine Stands.drew ?_ | with_reducible refine Stands.drewL ?_ | with_reducible refine Stands.setCell ?_ (by assumption) _ _ | assumption | refine Stands.trans ?_ (by assumption)) hSw; go_simp; with_reducible rfl) ?_; try simp only [Act.put, qA, qZ, qS]
  refine wpAnyZ_take0 (Stands.steady (fun q => q = g ∨ q = gt ∨ q = w.heap.size)) 6 (v := ?_) rfl (by kernel_rfl) (by kernel_rfl) (by kernel_rfl) (fun _ _ _ h => h) (by rfl) (by intro W hSw; have hS0 := Stands.trans (show Stands (fun q => q = g ∨ q = gt ∨ q = w.heap.size) w6 _ from by repeat first | with_reducible assumption | with_reducible exact Stands.refl _ _ | with_reducible refine Stands.alloc ?_ _ | with_reducible refine Stands.drew ?_ | with_reducible refine Stands.drewL ?_ | with_reducible refine Stands.setCell ?_ (by assumption) _ _ | assumption | refine Stands.trans ?_ (by assumption)) hSw; go_simp; with_reducible rfl) ?_; try simp only [Act.put, qA, qZ, qS]
  refine wpAnyZ_take0 (Stands.steady (fun q => q = g ∨ q = gt ∨ q = w.heap.size)) 7 (v := ?_) rfl (by kernel_rfl) (by kernel_rfl) (by kernel_rfl) (fun _ _ _ h => h) (by rfl) (by intro W hSw; go_simp; with_reducible rfl) ?_; try simp only [Act.put, qA, qZ, qS]
  refine wpAnyZ_take0 (Stands.steady (fun q => q = g ∨ q = gt ∨ q = w.heap.size)) 8 (v := ?_) rfl (by kernel_rfl) (by kernel_rfl) (by kernel_rfl) (fun _ _ _ h => h) (by rfl) (by intro W hSw; have hS0 := Stands.trans (show Stands (fun q => q = g ∨ q = gt ∨ q = w.heap.size) w6 _ from by repeat first | with_reducible assumption | with_reducible exact Stands.refl _ _ | with_reducible refine Stands.alloc ?_ _ | with_reducible refine Stands.drew ?_ | with_reducible refine Stands.drewL ?_ | with_reducible refine Stands.setCell ?_ (by assumption) _ _ | assumption | refine Stands.trans ?_ (by assumption)) hSw; go_simp; with_reducible rfl) ?_; try simp only [Act.put, qA, qZ, qS]
  refine wpAnyZ_take0 (Stands.steady (fun q => q = g ∨ q = gt ∨ q = w.heap.size)) 9 (v := ?_) rfl (by kernel_rfl) (by kernel_rfl) (by kernel_rfl) (fun _ _ _ h => h) (by rfl) (by intro W hSw; go_simp; with_reducible rfl) ?_; try simp only [Act.put, qA, qZ, qS]
  refine wpAnyZ_one 10 (by kernel_rfl) rfl (fun K hK => ?_)
  go_simp
  refine hK.out _ _ (by repeat first | with_reducible assumption | with_reducible exact Stands.refl _ _ | with_reducible refine Stands.alloc ?_ _ | with_reducible refine Stands.drew ?_ | with_reducible refine Stands.drewL ?_ | with_reducible refine Stands.setCell ?_ (by assumption) _ _ | assumption | refine Stands.of_later ?_) ?_
  clear hK K; try simp only [Act.put, qA, qZ, qS]
  refine wpAnyZ_take0 (Stands.steady (fun q => q = g ∨ q = gt ∨ q = w.heap.size)) 11 (v := ?_) rfl (by kernel_rfl) (by kernel_rfl) (by kernel_rfl) (fun _ _ _ h => h) (by rfl) (by intro W hSw; go_simp; with_reducible rfl) ?_; try simp only [Act.put, qA, qZ, qS]
  refine wpAnyZ_one 12 (by kernel_rfl) rfl (fun K hK => ?_)
  go_simp
  refine hK.out _ _ (by repeat first | with_reducible assumption | with_reducible exact Stands.refl _ _ | with_reducible refine Stands.alloc ?_ _ | with_reducible refine Stands.drew ?_ | with_reducible refine Stands.drewL ?_ | with_reducible refine Stands.setCell ?_ (by assumption) _ _ | assumption | refine Stands.of_later ?_) ?_
  clear hK K; try simp only [Act.put, qA, qZ, qS]
  refine wpAnyZ_done (by kernel_rfl) ?_ _
  obtain ⟨W2, hW2⟩ : ∃ V, V = ((w6.setCell ⟨w.heap.size + 1, 0, none⟩ (.int .i64 6)).setCell ⟨w.heap.size + 1, 4, none⟩ (.int .i64 1050)).drew := ⟨_, rfl⟩
  have hhb : Hits (· = w.heap.size + 1) w6 W2 := by rw [hW2]; exact (((Hits.refl (· = w.heap.size + 1) w6).setCell (g := w.heap.size + 1) (fun _ => rfl) 0 _).setCell (g := w.heap.size + 1) (fun _ => rfl) 4 _).thenLater (Later.refl _).dr
  have hX5 := HX5.out
  have hA2 : GmAt W2 g { d with tops := [1050, 1050] } c5 := HA6.out.frame hhb (fun k hk e => HNX.out (by rw [HX5.out, ← e]; exact hk)) fun f hf k hk e => gm_ro (d := { d with tops := [1050, 1050] }) HNZ.out f hf (e ▸ hk)
  have HK2 := hide_ (show W2.heap[w.heap.size + 1]? = some (.cells #[.int .i64 6, .int .i64 21, .int .i64 60, .int .i64 300, .int .i64 1050, .int .i64 0, .int .i64 0, .slice none 0 0] 53 (0, 0)) by rw [hW2]; exact later_row (Later.refl _).dr (heap_setCell_same _ _ 4 _ _ (.int .i64 1050) (heap_setCell_same w6 _ 0 _ _ (.int .i64 6) HK6.out)))
  have HH2 := hide_ (show Hits (· ∈ X) w W2 from HH6.out.trans (hhb.mono (G := fun k => w.heap.size ≤ k) fun k _ h => by omega) (fun i hi h => by omega))
  rw [← hW2]
  have hgr2 := GmAt.cells hA2
  unfold gmRow at hgr2
  have HX5 := hide_ hX5
  have k0 := Stands.cell (X := fun q => q = g ∨ q = w.heap.size + 1) (show W2.cell? ⟨g, 0, none⟩ = some (.pointer (some ⟨d.fb, 0, none⟩)) from cell_of_row _ _ 0 _ _ (0, 0) hgr2) (.inl rfl)
  have b0 := Stands.cell (X := fun q => q = g ∨ q = w.heap.size + 1) (show W2.cell? ⟨w.heap.size + 1, 0, none⟩ = some (.int .i64 6) from cell_of_row _ _ 0 _ _ (0, 0) HK2.out) (.inr rfl)
  have b1 := Stands.cell (X := fun q => q = g ∨ q = w.heap.size + 1) (show W2.cell? ⟨w.heap.size + 1, 1, none⟩ = some (.int .i64 21) from cell_of_row _ _ 1 _ _ (0, 0) HK2.out) (.inr rfl)
  have b2 := Stands.cell (X := fun q => q = g ∨ q = w.heap.size + 1) (show W2.cell? ⟨w.heap.size + 1, 2, none⟩ = some (.int .i64 60) from cell_of_row _ _ 2 _ _ (0, 0) HK2.out) (.inr rfl)
  have b3 := Stands.cell (X := fun q => q = g ∨ q = w.heap.size + 1) (show W2.cell? ⟨w.heap.size + 1, 3, none⟩ = some (.int .i64 300) from cell_of_row _ _ 3 _ _ (0, 0) HK2.out) (.inr rfl)
  have b4 := Stands.cell (X := fun q => q = g ∨ q = w.heap.size + 1) (show W2.cell? ⟨w.heap.size + 1, 4, none⟩ = some (.int .i64 1050) from cell_of_row _ _ 4 _ _ (0, 0) HK2.out) (.inr rfl)
  have b5 := Stands.cell (X := fun q => q = g ∨ q = w.heap.size + 1) (show W2.cell? ⟨w.heap.size + 1, 5, none⟩ = some (.int .i64 0) from cell_of_row _ _ 5 _ _ (0, 0) HK2.out) (.inr rfl)
  have b6 := Stands.cell (X := fun q => q = g ∨ q = w.heap.size + 1) (show W2.cell? ⟨w.heap.size + 1, 6, none⟩ = some (.int .i64 0) from cell_of_row _ _ 6 _ _ (0, 0) HK2.out) (.inr rfl)
  have b7 := Stands.cell (X := fun q => q = g ∨ q = w.heap.size + 1) (show W2.cell? ⟨w.heap.size + 1, 7, none⟩ = some (.slice none 0 0) from cell_of_row _ _ 7 _ _ (0, 0) HK2.out) (.inr rfl)
  have HAD := hide_ (ObjAt.later hA2 (Later.refl W2).dr)
  have HGF := hide_ (show g ∉ c5.Xf from (GmAt.part hA2 (i := 0) (x := c5.Xf) rfl).2.2)
  have HFL := hide_ (show w.heap.size + 1 ∉ c5.Xf from fun hm => HNX.out (by rw [HX5.out]; exact (GmAt.part hA2 (i := 0) (x := c5.Xf) rfl).2.1 _ hm))
  have HTK := hide_ (take_pushed (GmAt.p HAD.out).fr HOK.out (frm := 21) (a := 1050) HGO.out HLEN.out HND.out HEP.out 0 0 none 0 0)
  have glt2 := theap_lt hgr2
  have klt2 := theap_lt HK2.out
  clear hgr2 hA2 hX5 hhb hW2 klt blt6 glt tlt g10 t0 k2 y0 y4 f0 f4 f0' f4'
  go_wp2_with fail
  refine wp_region_z (R := Stands (fun q => q = g ∨ q = w.heap.size + 1)) [7] (by kernel_rfl) ?_
  refine wpAnyZ_pure (Stands.steady (fun q => q = g ∨ q = w.heap.size + 1)) 0 (v := ?_) rfl (by kernel_rfl) (by kernel_rfl) (by kernel_rfl) (fun _ _ _ h => h) (by rfl) (by intro W; go_simp; with_reducible rfl) ?_; try simp only [Act.put, qA, qZ, qS]
  refine wpAnyZ_pure (Stands.steady (fun q => q = g ∨ q = w.heap.size + 1)) 1 (v := ?_) rfl (by kernel_rfl) (by kernel_rfl) (by kernel_rfl) (fun _ _ _ h => h) (by rfl) (by intro W; go_simp; with_reducible rfl) ?_; try simp only [Act.put, qA, qZ, qS]
  refine wpAnyZ_pure (Stands.steady (fun q => q = g ∨ q = w.heap.size + 1)) 2 (v := ?_) rfl (by kernel_rfl) (by kernel_rfl) (by kernel_rfl) (fun _ _ _ h => h) (by rfl) (by intro W; go_simp; with_reducible rfl) ?_; try simp only [Act.put, qA, qZ, qS]
  refine wpAnyZ_pure (Stands.steady (fun q => q = g ∨ q = w.heap.size + 1)) 3 (v := ?_) rfl (by kernel_rfl) (by kernel_rfl) (by kernel_rfl) (fun _ _ _ h => h) (by rfl) (by intro W; go_simp; with_reducible rfl) ?_; try simp only [Act.put, qA, qZ, qS]
  refine wpAnyZ_take (Stands.steady (fun q => q = g ∨ q = w.heap.size + 1)) 4 (v := ?_) rfl (by kernel_rfl) (by kernel_rfl) (by kernel_rfl) (by kernel_rfl) (fun _ _ _ h => h) (by rfl) (by intro W hSw; have hS0 := Stands.trans (show Stands (fun q => q = g ∨ q = w.heap.size + 1) W2 _ from by repeat first | with_reducible assumption | with_reducible exact Stands.refl _ _ | with_reducible refine Stands.alloc ?_ _ | with_reducible refine Stands.drew ?_ | with_reducible refine Stands.drewL ?_ | with_reducible refine Stands.setCell ?_ (by assumption) _ _ | assumption | refine Stands.trans ?_ (by assumption)) hSw; go_simp; with_reducible rfl) ?_; try simp only [Act.put, qA, qZ, qS]
  refine wpAnyZ_take (Stands.steady (fun q => q = g ∨ q = w.heap.size + 1)) 5 (v := ?_) rfl (by kernel_rfl) (by kernel_rfl) (by kernel_rfl) (by kernel_rfl) (fun _ _ _ h => h) (by rfl) (by intro W hSw; have hS0 := Stands.trans (show Stands (fun q => q = g ∨ q = w.heap.size + 1) W2 _ from by repeat first | with_reducible assumption | with_reducible exact Stands.refl _ _ | with_reducible refine Stands.alloc ?_ _ | with_reducible refine Stands.drew ?_ | with_reducible refine Stands.drewL ?_ | with_reducible refine Stands.setCell ?_ (by assumption) _ _ | assumption | refine Stands.trans ?_ (by assumption)) hSw; go_simp; with_reducible rfl) ?_; try simp only [Act.put, qA, qZ, qS]
  refine wpAnyZ_one 6 (by kernel_rfl) rfl (fun K hK => ?_)
  go_simp
  refine HTK.out.mono ?_; rintro e w15 h15; obtain ⟨A5, n5, cc5, Y5, X15, rfl, hn5, hg15, hp5, hv5, hy5, hh15, hf15, hhx⟩ := GmAt.take HAD.out h15; have hs15 : Stands (fun q => q = g ∨ q = w.heap.size + 1) _ w15 := hhx.stands (fun k hk hF hX => by rcases hX with e | e; (exact HGF.out (e ▸ hF)); (exact HFL.out (e ▸ hF))); have HSN := hide_ (gsend_any hg15 hp5 hn5 hv5 hy5 HSD.out.all (by rw [← hn5]; exact HSD.out.n)); have HH15 := hide_ hh15; have HF15 := hide_ hf15; clear hhx hp5 hv5 hy5 h15 hg15
  refine hK.out _ _ (by repeat first | with_reducible assumption | with_reducible exact Stands.refl _ _ | with_reducible refine Stands.alloc ?_ _ | with_reducible refine Stands.drew ?_ | with_reducible refine Stands.drewL ?_ | with_reducible refine Stands.setCell ?_ (by assumption) _ _ | assumption | refine Stands.of_later ?_) ?_
  clear hK K; try simp only [Act.put, qA, qZ, qS]
  refine wpAnyZ_loud 7 (by kernel_rfl) (by rfl) rfl (fun K hK => ?_)
  go_simp
  refine HSN.out.mono ?_; rintro e w6 h6; obtain ⟨rfl, h6⟩ := h6
  refine hK.out _ _ ?_
  clear hK K; try simp only [Act.put, qA, qZ, qS]
  refine wpAnyZ_done (by kernel_rfl) ?_ _
  go_wp2_with fail
  go_returns
  rw [← HX5.out] at HH15 HF15
  exact TSPost.of (d := { d with tops := [1050, 1050] }) (w2 := w15) (X2 := X15) (Y := Y5) (turn_step (HH2.out.thenLater (Later.refl W2).dr) (fun k hk => (HF5.out k hk).imp id fun h => by have := HW1S.out; omega) HH15.out) (fun k hk => (HF15.out k hk).elim (fun h => (HF5.out k h).imp id fun h => by have := HW1S.out; omega) fun h => .inr (Nat.le_trans HH2.out.size h)) ⟨rfl, h6⟩

end Go.Proofs.YtcmollfhlillfaaGreatDoor
/-
  The law's game of FrontStuck in plain data.
-/

namespace Go.Proofs.YtcmollfhlillfaaGreatDoor
open Go.RowKit
set_option linter.unusedVariables false
set_option linter.unusedSimpArgs false
def fs0 : Fr := fr0 60 2 300 50 50 [20, 21] [80] []
/-- The front behind its first moment, that waited n moments in vain. -/
def fs1 (n : Int) : Fr := { openF { fs0 with begun := true } with stuck := n }
def resM : Msg := ⟨3, 60, 80, 300, 50, 1050, 0, []⟩
theorem first_list : resolveL (openF { fs0 with begun := true }) (openB { fs0 with begun := true }) = [resM] := by rfl
theorem tickA_fs1 (n : Int) : tickA (fs1 n) = fs1 (n + 1) := if_pos (.inl rfl)
theorem tickF_fs1 (n : Int) : (tickF (fs1 n)).1 = fs1 (n + 1) ∧ (tickF (fs1 n)).2 = [resM] := by
  constructor <;> (unfold tickF; rw [tickA_fs1]; rfl)
/-- Behind the verdict. -/
def fs2 : Fr := (joinL (verdictF (fs1 0) 80 1050 [], [])).1
theorem verd_fs1 (n : Int) : joinL (verdictF (fs1 n) 80 1050 [], []) = (fs2, [⟨5, 60, 20, 300, 0, 0, 0, encB ⟨50, 1050, 50, []⟩⟩, ⟨5, 60, 21, 300, 0, 0, 0, encB ⟨50, 1050, 50, []⟩⟩]) := by rfl
def fs3 : Fr := (joinL (pushedF fs2 20 1050)).1
def fs4 : Fr := (joinL (pushedF fs3 21 1050)).1
theorem push20 : (joinL (pushedF fs2 20 1050)).2 = [] := by rfl
theorem push21 : (joinL (pushedF fs3 21 1050)).2 = [] := by rfl
/-- Front behind it all, with k moments behind the batch. -/
def fs5 (k : Int) : Fr := { fs4 with number := k }
theorem fs5_zero : fs4 = fs5 0 := by rfl
def liveM (k to_ : Int) : Msg := ⟨18, 60, to_, 300, k, 1050, 0, []⟩
def fs6 (k : Int) (L : List Int) : Fr := { fs4 with number := k, wishes := [⟨-1, 0, k, L⟩] }
theorem tick_fs5 (k : Int) : (tickF (fs5 k)).1 = fs6 (k + 1) [] ∧ (tickF (fs5 k)).2 = [liveM (k + 1) 20, liveM (k + 1) 21, liveM (k + 1) 80] := by
  constructor <;> rfl
theorem refs_ok {s : Fr} (h : s.refs = [80]) : ∀ r ∈ s.refs, I64 r := fun r hr => by rw [h] at hr; rw [List.mem_singleton.1 hr]; unfold I64; decide
theorem all_ok {s : Fr} (h : s.refs = [80]) (hc : s.chests = [20, 21]) : AllOk s := ⟨by rw [hc]; decide, by rw [h]; decide⟩
theorem fr_ok {s : Fr} (hb : s.bounds = []) (hr : s.refs = [80]) (hq : s.queue = []) (h0 : 0 ≤ s.version) (h1 : s.version ≤ 1000000) : FrOk s :=
  ⟨by rw [hb]; decide, by rw [hb, hr]; rfl, fun j hj => (by rw [hq] at hj; cases hj), refs_ok hr, by rw [hq]; decide, h0, by omega⟩
/-- The batch, its verdicts not known yet, or known. -/
theorem adv_ok {s : Fr} {b : Bt} (hr : s.refs = [80]) (hc : s.chests = [20, 21]) (hj : b.jobs = []) (ht : b.told = [] ∨ b.told = [(80, [])]) (hp : b.prev = 50) (hv : b.ver = 1050) (hk : b.known = 50) (hd : b.pushed.length ≤ 2) : AdvOk s b := by
  refine ⟨fun hl r hm => ?_, fun r hm h => ?_, by rw [hr]; decide, by rw [hr]; decide, refs_ok hr, by rw [hj]; decide, fun j h => (by rw [hj] at h; cases h), ?_, by omega, by omega, by omega, by omega, by omega, by omega, by rw [hc]; decide, by omega⟩
  · rcases ht with h | h
    · rw [h, hr] at hl; exact absurd hl (by decide)
    · rw [hr] at hm; rw [List.mem_singleton.1 hm, h]; rfl
  · rcases ht with h2 | h2
    · rw [h2] at h; cases h
    · rw [hr] at hm; rw [List.mem_singleton.1 hm, h2, hj]; rfl
  · rcases ht with h | h <;> rw [h] <;> decide
def A3 (fb : Nat) : Gm := { d0 fb with fr := fs4, judged := [1050], said := [[]], tops := [1050, 1050], bats := [b1050] }
def bodyB : List UInt8 := encB ⟨50, 1050, 50, []⟩
def pshM (to_ : Int) : Msg := ⟨5, 60, to_, 300, 0, 0, 0, bodyB⟩
theorem bodyB_eq : bodyB = putN 50 ++ (putN 1050 ++ (putN 50 ++ (putN 0 ++ []))) := by unfold bodyB encB; simp
def lv (j : Int) : Nat → Fr
  | 0 => fs6 j []
  | 1 => fs6 j [20]
  | 2 => fs6 j [20, 21]
  | _ => fs5 j
def St (fb : Nat) (n : Int) : Nat → Nat → Gm
  | 0, 0 => { d0 fb with fr := fs1 n, way := [resM] }
  | 0, 1 => { d0 fb with fr := fs2, judged := [1050], said := [[]], way := [pshM 20, pshM 21] }
  | 0, 2 => { d0 fb with fr := fs3, judged := [1050], said := [[]], tops := [1050, 50], bats := [b1050], way := [pshM 21] }
  | 0, _ => A3 fb
  | i + 1, k => { A3 fb with fr := lv ((i + 1 : Nat) : Int) k, way := [liveM ((i + 1 : Nat) : Int) 20, liveM ((i + 1 : Nat) : Int) 21, liveM ((i + 1 : Nat) : Int) 80].drop k }
theorem tpost {w w' : World} {g : Nat} {X : List Nat} {d d' : Gm} {s : Fr} {L : List Msg} {e : Ending} (h : TSPost w g X d s L e w') (hd : ∀ Z, ({ d with fr := s, way := d.way ++ L, wz := Z } : Gm) = { d' with wz := Z }) : TPost w g X d' e w' := by
  obtain ⟨rfl, X', Z, h1, h2, h3⟩ := h
  exact ⟨rfl, X', ⟨Z, by rw [← hd]; exact h1⟩, h2, h3⟩
theorem go_cur {s : Fr} {b : Bt} (h : s.cur = some b) (hb : AdvOk s b) : GoOk s := ⟨fun b' e => (by rw [h] at e; injection e with e; subst e; exact hb), fun e => (by rw [h] at e; cases e)⟩
theorem go_none {s : Fr} (h : s.cur = none) (hb : FrOk s) : GoOk s := ⟨fun b' e => (by rw [h] at e; cases e), fun _ _ => hb⟩
theorem gmw {w : World} {g : Nat} {d : Gm} {X : List Nat} (h : GmE w g d X) : ∃ Z, GmH w g { d with wz := Z } X := h
theorem dlv_res (fb : Nat) (n : Int) : Dlv resM { St fb n 0 0 with way := [] } (St fb n 0 1) := by
  intro w g X Ab cb hE hG hGX hB
  obtain ⟨Z, h⟩ := hE
  have h' : GmH w g { d0 fb with fr := fs1 n, way := [], wz := Z } X := h
  have hv : VerOk (fs1 n) := ⟨Nat.le_of_ble_eq_true rfl, fun b e => by injection e with e; subst e; exact ⟨by decide, by decide⟩⟩
  have hgo : GoOk (verdictF (fs1 n) 80 1050 []) := go_cur (b := { openB { fs0 with begun := true } with told := [(80, [])] }) rfl (adv_ok rfl rfl rfl (.inr rfl) rfl rfl rfl (by decide))
  have hlen : (goOnF (verdictF (fs1 n) 80 1050 [])).2.length ≤ 1000000 := Nat.le_of_ble_eq_true rfl
  have hsd : SendOk ({ d0 fb with fr := fs1 n, way := [], wz := Z } : Gm) (joinL (verdictF (fs1 n) 80 1050 [], [])).2 := ⟨by
    rw [verd_fs1]
    intro m hm
    simp only [List.mem_cons, List.not_mem_nil, or_false] at hm
    rcases hm with rfl | rfl <;> exact ⟨rfl, rfl, by decide⟩, Nat.le_of_ble_eq_true rfl⟩
  exact (deliver_res h' rfl (s0 := []) rfl rfl Ab cb hv hgo hlen rfl rfl hsd).mono fun e w' h1 => tpost h1 fun Z => rfl
theorem dlv_p20 (fb : Nat) (n : Int) : Dlv (pshM 20) { St fb n 0 1 with way := [pshM 21] } (St fb n 0 2) := by
  intro w g X Ab cb hE hG hGX hB
  obtain ⟨Z, h⟩ := hE
  have h' : GmH w g { d0 fb with fr := fs2, judged := [1050], said := [[]], way := [pshM 21], wz := Z } X := h
  have hv : PsdOk fs2 := ⟨by decide, fun b e => by injection e with e; subst e; exact ⟨by decide, by decide, fun V hV => by injection hV with hV; subst hV; rfl⟩⟩
  have hgo : GoOk (pushedF fs2 20 1050).1 := go_cur (b := { advB (verdictF (fs1 0) 80 1050 []) { openB { fs0 with begun := true } with told := [(80, [])] } with pushed := [20] }) rfl (adv_ok rfl rfl rfl (.inr rfl) rfl rfl rfl (by decide))
  have hsd : SendOk ({ d0 fb with fr := fs2, judged := [1050], said := [[]], way := [pshM 21], wz := Z } : Gm) (joinL (pushedF fs2 20 1050)).2 := ⟨(by rw [push20]; intro m hm; cases hm), Nat.le_of_ble_eq_true rfl⟩
  exact (deliver_push20 h' rfl rfl bodyB_eq rfl hB hv hgo (Nat.le_of_ble_eq_true rfl) rfl rfl hsd).mono fun e w' h1 => tpost h1 fun Z => rfl
theorem dlv_p21 (fb : Nat) (n : Int) : Dlv (pshM 21) { St fb n 0 2 with way := [] } (St fb n 0 3) := by
  intro w g X Ab cb hE hG hGX hB
  obtain ⟨Z, h⟩ := hE
  have h' : GmH w g { d0 fb with fr := fs3, judged := [1050], said := [[]], tops := [1050, 50], bats := [b1050], way := [], wz := Z } X := h
  have hv : PsdOk fs3 := ⟨by decide, fun b e => by injection e with e; subst e; exact ⟨by decide, by decide, fun V hV => by injection hV with hV; subst hV; rfl⟩⟩
  have hgo : GoOk (pushedF fs3 21 1050).1 := go_none rfl (fr_ok rfl rfl rfl (by decide) (by decide))
  have hsd : SendOk ({ d0 fb with fr := fs3, judged := [1050], said := [[]], tops := [1050, 50], bats := [b1050], way := [], wz := Z } : Gm) (joinL (pushedF fs3 21 1050)).2 := ⟨(by rw [push21]; intro m hm; cases hm), Nat.le_of_ble_eq_true rfl⟩
  exact (deliver_push21 h' rfl rfl bodyB_eq rfl hB hv hgo (Nat.le_of_ble_eq_true rfl) rfl rfl hsd).mono fun e w' h1 => tpost h1 fun Z => rfl
theorem wish_ok (k : Int) (L : List Int) (hL : L.length ≤ 3) : WishOk (fs6 k L) := ⟨all_ok rfl rfl, Nat.le_of_ble_eq_true rfl, fun u hu => by rw [List.mem_singleton.1 hu]; show L.length ≤ _; omega⟩
theorem fr_ok6 (k : Int) (L : List Int) : FrOk (fs6 k L) := fr_ok rfl rfl rfl (by show (0 : Int) ≤ 1050; decide) (by show (1050 : Int) ≤ 1000000; decide)
theorem fr_ok5 (k : Int) : FrOk (fs5 k) := fr_ok rfl rfl rfl (by show (0 : Int) ≤ 1050; decide) (by show (1050 : Int) ≤ 1000000; decide)
theorem go6 (k : Int) (L : List Int) : GoOk (fs6 k L) := go_none rfl (fr_ok6 k L)
theorem go5 (k : Int) : GoOk (fs5 k) := go_none rfl (fr_ok5 k)
theorem al1 (j : Int) : aliveF (fs6 j []) 20 j = (fs6 j [20], []) := by simp [aliveF, fs6, allF]; rfl
theorem al2 (j : Int) : aliveF (fs6 j [20]) 21 j = (fs6 j [20, 21], []) := by simp [aliveF, fs6, allF]; rfl
theorem al3 (j : Int) : aliveF (fs6 j [20, 21]) 80 j = (fs5 j, []) := by simp [aliveF, fs6, allF]; rfl
theorem jo6 (k : Int) (L : List Int) : joinL (fs6 k L, []) = (fs6 k L, []) := by rfl
theorem jo5 (k : Int) : joinL (fs5 k, []) = (fs5 k, []) := by rfl
theorem sd_nil (d : Gm) (h : d.way.length ≤ 200) : SendOk d [] := ⟨fun m hm => (by cases hm), by simpa using h⟩
theorem dlv_l20 (fb : Nat) (n : Int) (i : Nat) : Dlv (liveM ((i + 1 : Nat) : Int) 20) { St fb n (i + 1) 0 with way := [liveM ((i + 1 : Nat) : Int) 21, liveM ((i + 1 : Nat) : Int) 80] } (St fb n (i + 1) 1) := by
  intro w g X Ab cb hE hG hGX hB
  obtain ⟨Z, h⟩ := hE
  obtain ⟨j, hj⟩ : ∃ j, j = ((i + 1 : Nat) : Int) := ⟨_, rfl⟩
  have h' : GmH w g { A3 fb with fr := fs6 j [], way := [liveM j 21, liveM j 80], wz := Z } X := by rw [hj]; exact h
  have hsd : SendOk ({ A3 fb with fr := fs6 j [], way := [liveM j 21, liveM j 80], wz := Z } : Gm) (joinL (aliveF (fs6 j []) 20 j)).2 := by rw [al1, jo6]; exact sd_nil _ (Nat.le_of_ble_eq_true rfl)
  have h1 := deliver_live20 h' hG hGX (a := j) 60 300 1050 0 Ab 0 cb (wish_ok j [] (by decide)) (by rw [show ({ A3 fb with fr := fs6 j [], way := [liveM j 21, liveM j 80], wz := Z } : Gm).fr = fs6 j [] from rfl, al1]; exact go6 _ _) (by rw [show ({ A3 fb with fr := fs6 j [], way := [liveM j 21, liveM j 80], wz := Z } : Gm).fr = fs6 j [] from rfl, al1]; exact Nat.le_of_ble_eq_true rfl) rfl rfl hsd
  rw [show ({ A3 fb with fr := fs6 j [], way := [liveM j 21, liveM j 80], wz := Z } : Gm).fr = fs6 j [] from rfl, al1, jo6] at h1
  rw [← hj]
  refine h1.mono fun e w' h2 => tpost h2 fun Z => ?_
  rw [hj]; rfl
theorem dlv_l21 (fb : Nat) (n : Int) (i : Nat) : Dlv (liveM ((i + 1 : Nat) : Int) 21) { St fb n (i + 1) 1 with way := [liveM ((i + 1 : Nat) : Int) 80] } (St fb n (i + 1) 2) := by
  intro w g X Ab cb hE hG hGX hB
  obtain ⟨Z, h⟩ := hE
  obtain ⟨j, hj⟩ : ∃ j, j = ((i + 1 : Nat) : Int) := ⟨_, rfl⟩
  have h' : GmH w g { A3 fb with fr := fs6 j [20], way := [liveM j 80], wz := Z } X := by rw [hj]; exact h
  have hsd : SendOk ({ A3 fb with fr := fs6 j [20], way := [liveM j 80], wz := Z } : Gm) (joinL (aliveF (fs6 j [20]) 21 j)).2 := by rw [al2, jo6]; exact sd_nil _ (Nat.le_of_ble_eq_true rfl)
  have h1 := deliver_live21 h' hG hGX (a := j) 60 300 1050 0 Ab 0 cb (wish_ok j [20] (by decide)) (by rw [show ({ A3 fb with fr := fs6 j [20], way := [liveM j 80], wz := Z } : Gm).fr = fs6 j [20] from rfl, al2]; exact go6 _ _) (by rw [show ({ A3 fb with fr := fs6 j [20], way := [liveM j 80], wz := Z } : Gm).fr = fs6 j [20] from rfl, al2]; exact Nat.le_of_ble_eq_true rfl) rfl rfl hsd
  rw [show ({ A3 fb with fr := fs6 j [20], way := [liveM j 80], wz := Z } : Gm).fr = fs6 j [20] from rfl, al2, jo6] at h1
  rw [← hj]
  refine h1.mono fun e w' h2 => tpost h2 fun Z => ?_
  rw [hj]; rfl
theorem dlv_l80 (fb : Nat) (n : Int) (i : Nat) : Dlv (liveM ((i + 1 : Nat) : Int) 80) { St fb n (i + 1) 2 with way := [] } (St fb n (i + 1) 3) := by
  intro w g X Ab cb hE hG hGX hB
  obtain ⟨Z, h⟩ := hE
  obtain ⟨j, hj⟩ : ∃ j, j = ((i + 1 : Nat) : Int) := ⟨_, rfl⟩
  have h' : GmH w g { A3 fb with fr := fs6 j [20, 21], way := [], wz := Z } X := by rw [hj]; exact h
  have hsd : SendOk ({ A3 fb with fr := fs6 j [20, 21], way := [], wz := Z } : Gm) (joinL (aliveF (fs6 j [20, 21]) 80 j)).2 := by rw [al3, jo5]; exact sd_nil _ (Nat.le_of_ble_eq_true rfl)
  have h1 := deliver_live80 h' hG hGX (a := j) rfl 60 300 0 Ab 0 cb (wish_ok j [20, 21] (by decide)) (by rw [show ({ A3 fb with fr := fs6 j [20, 21], way := [], wz := Z } : Gm).fr = fs6 j [20, 21] from rfl, al3]; exact go5 _) (by rw [show ({ A3 fb with fr := fs6 j [20, 21], way := [], wz := Z } : Gm).fr = fs6 j [20, 21] from rfl, al3]; exact Nat.le_of_ble_eq_true rfl) rfl rfl hsd
  rw [show ({ A3 fb with fr := fs6 j [20, 21], way := [], wz := Z } : Gm).fr = fs6 j [20, 21] from rfl, al3, jo5] at h1
  rw [← hj]
  refine h1.mono fun e w' h2 => tpost h2 fun Z => ?_
  rw [hj]; rfl
theorem tk_ok (k : Int) (h0 : 0 ≤ k) (h1 : k ≤ 1000) : TkOk (fs5 k) where
  begun := rfl
  go := go6 (k + 1) []
  all := all_ok rfl rfl
  n := Nat.le_of_ble_eq_true rfl
  al := fun u hu => by cases hu
  len := Nat.le_of_ble_eq_true rfl
  stuck := ⟨by show (0 : Int) ≤ 0; decide, by show (0 : Int) ≤ 1000000000000; decide⟩
  num := ⟨h0, by show k ≤ 1000000000000; omega⟩
  res := fun b e => by cases e
  psh := fun b V e => by cases e
theorem tck5 (d : Gm) (k : Int) (hd : d.fr = fs5 k) (hw : d.way = []) (h0 : 0 ≤ k) (h1 : k ≤ 1000) : Tck d (fs6 (k + 1) []) [liveM (k + 1) 20, liveM (k + 1) 21, liveM (k + 1) 80] := by
  refine ⟨⟨fun m hm => ?_, by rw [hw]; exact Nat.le_of_ble_eq_true rfl⟩, fun w X h hG hGX => ?_⟩
  · simp only [List.mem_cons, List.not_mem_nil, or_false] at hm
    rcases hm with rfl | rfl | rfl <;> exact ⟨rfl, rfl, by show ¬ (18 : Int) = 2; decide⟩
  · rw [hd] at h
    have h2 := tick_own h (tk_ok k h0 h1) rfl rfl hG hGX
    rw [(tick_fs5 k).1, (tick_fs5 k).2] at h2
    exact h2
theorem calm_ok (fb : Nat) (n : Int) : CalmOk 3 (St fb n) (fun _ => 3) where
  k := fun i hi => by decide
  dlv := fun i k hi hk => by
    match i, k, hk with
    | 0, 0, _ => exact ⟨resM, [], rfl, by decide, dlv_res fb n⟩
    | 0, 1, _ => exact ⟨pshM 20, [pshM 21], rfl, by rw [show (pshM 20).body = bodyB from rfl, bodyB_eq]; have h := putN_len9 (n := 50) (by decide); have h2 := putN_len9 (n := 1050) (by decide); have h3 := putN_len9 (n := 0) (by decide); simp only [List.length_append, List.length_nil]; omega, dlv_p20 fb n⟩
    | 0, 2, _ => exact ⟨pshM 21, [], rfl, by rw [show (pshM 21).body = bodyB from rfl, bodyB_eq]; have h := putN_len9 (n := 50) (by decide); have h2 := putN_len9 (n := 1050) (by decide); have h3 := putN_len9 (n := 0) (by decide); simp only [List.length_append, List.length_nil]; omega, dlv_p21 fb n⟩
    | i + 1, 0, _ => exact ⟨_, _, rfl, Nat.zero_le _, dlv_l20 fb n i⟩
    | i + 1, 1, _ => exact ⟨_, _, rfl, Nat.zero_le _, dlv_l21 fb n i⟩
    | i + 1, 2, _ => exact ⟨_, _, rfl, Nat.zero_le _, dlv_l80 fb n i⟩
  fin := fun i hi => by
    match i with
    | 0 => rfl
    | i + 1 => rfl
  tck := fun i hi => by
    match i, hi with
    | 0, _ => exact ⟨_, _, tck5 (St fb n 0 3) 0 rfl rfl (by decide) (by decide), rfl⟩
    | i + 1, hi => exact ⟨_, _, tck5 (St fb n (i + 1) 3) ((i + 1 : Nat) : Int) rfl rfl (by omega) (by omega), by
        rw [show ((i + 1 : Nat) : Int) + 1 = ((i + 1 + 1 : Nat) : Int) by omega]; rfl⟩
  len := fun i k hi hk => by
    match i, k with
    | 0, 0 => exact Nat.le_of_ble_eq_true rfl
    | 0, 1 => exact Nat.le_of_ble_eq_true rfl
    | 0, 2 => exact Nat.le_of_ble_eq_true rfl
    | 0, k + 3 => exact Nat.le_of_ble_eq_true rfl
    | i + 1, k =>
      show (List.drop k [liveM ((i + 1 : Nat) : Int) 20, liveM ((i + 1 : Nat) : Int) 21, liveM ((i + 1 : Nat) : Int) 80]).length ≤ 200
      rw [List.length_drop]
      show 3 - k ≤ 200
      omega

end Go.Proofs.YtcmollfhlillfaaGreatDoor
