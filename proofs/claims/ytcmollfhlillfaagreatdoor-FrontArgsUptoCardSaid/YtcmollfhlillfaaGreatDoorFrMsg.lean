/-
  front: message, tell, all.
-/
import Derived.Test.YtcmollfhlillfaaGreatDoorFrNew
namespace Go.Proofs.YtcmollfhlillfaaGreatDoor
open Go.RowKit
set_option linter.unusedVariables false
set_option linter.unusedSimpArgs false
def put8 (w : World) (b : Nat) (u0 u1 u2 u3 u4 u5 u6 u7 : Value) : World := (((((((w.setCell ⟨b, 0, none⟩ u0).setCell ⟨b, 1, none⟩ u1).setCell ⟨b, 2, none⟩ u2).setCell ⟨b, 3, none⟩ u3).setCell ⟨b, 4, none⟩ u4).setCell ⟨b, 5, none⟩ u5).setCell ⟨b, 6, none⟩ u6).setCell ⟨b, 7, none⟩ u7
theorem put8_row {w : World} {b : Nat} {x0 x1 x2 x3 x4 x5 x6 x7 : Value} {t : TypeId} (h : w.heap[b]? = some (.cells #[x0, x1, x2, x3, x4, x5, x6, x7] t (0, 0))) (u0 u1 u2 u3 u4 u5 u6 u7 : Value) : (put8 w b u0 u1 u2 u3 u4 u5 u6 u7).heap[b]? = some (.cells #[u0, u1, u2, u3, u4, u5, u6, u7] t (0, 0)) := by
  unfold put8
  have h0 : (w.setCell ⟨b, 0, none⟩ u0).heap[b]? = some (.cells #[u0, x1, x2, x3, x4, x5, x6, x7] t (0, 0)) := heap_setCell_same _ b 0 _ _ u0 h
  have h1 : ((w.setCell ⟨b, 0, none⟩ u0).setCell ⟨b, 1, none⟩ u1).heap[b]? = some (.cells #[u0, u1, x2, x3, x4, x5, x6, x7] t (0, 0)) := heap_setCell_same _ b 1 _ _ u1 h0
  have h2 : (((w.setCell ⟨b, 0, none⟩ u0).setCell ⟨b, 1, none⟩ u1).setCell ⟨b, 2, none⟩ u2).heap[b]? = some (.cells #[u0, u1, u2, x3, x4, x5, x6, x7] t (0, 0)) := heap_setCell_same _ b 2 _ _ u2 h1
  have h3 : ((((w.setCell ⟨b, 0, none⟩ u0).setCell ⟨b, 1, none⟩ u1).setCell ⟨b, 2, none⟩ u2).setCell ⟨b, 3, none⟩ u3).heap[b]? = some (.cells #[u0, u1, u2, u3, x4, x5, x6, x7] t (0, 0)) := heap_setCell_same _ b 3 _ _ u3 h2
  have h4 : (((((w.setCell ⟨b, 0, none⟩ u0).setCell ⟨b, 1, none⟩ u1).setCell ⟨b, 2, none⟩ u2).setCell ⟨b, 3, none⟩ u3).setCell ⟨b, 4, none⟩ u4).heap[b]? = some (.cells #[u0, u1, u2, u3, u4, x5, x6, x7] t (0, 0)) := heap_setCell_same _ b 4 _ _ u4 h3
  have h5 : ((((((w.setCell ⟨b, 0, none⟩ u0).setCell ⟨b, 1, none⟩ u1).setCell ⟨b, 2, none⟩ u2).setCell ⟨b, 3, none⟩ u3).setCell ⟨b, 4, none⟩ u4).setCell ⟨b, 5, none⟩ u5).heap[b]? = some (.cells #[u0, u1, u2, u3, u4, u5, x6, x7] t (0, 0)) := heap_setCell_same _ b 5 _ _ u5 h4
  have h6 : (((((((w.setCell ⟨b, 0, none⟩ u0).setCell ⟨b, 1, none⟩ u1).setCell ⟨b, 2, none⟩ u2).setCell ⟨b, 3, none⟩ u3).setCell ⟨b, 4, none⟩ u4).setCell ⟨b, 5, none⟩ u5).setCell ⟨b, 6, none⟩ u6).heap[b]? = some (.cells #[u0, u1, u2, u3, u4, u5, u6, x7] t (0, 0)) := heap_setCell_same _ b 6 _ _ u6 h5
  have h7 : ((((((((w.setCell ⟨b, 0, none⟩ u0).setCell ⟨b, 1, none⟩ u1).setCell ⟨b, 2, none⟩ u2).setCell ⟨b, 3, none⟩ u3).setCell ⟨b, 4, none⟩ u4).setCell ⟨b, 5, none⟩ u5).setCell ⟨b, 6, none⟩ u6).setCell ⟨b, 7, none⟩ u7).heap[b]? = some (.cells #[u0, u1, u2, u3, u4, u5, u6, u7] t (0, 0)) := heap_setCell_same _ b 7 _ _ u7 h6
  exact h7
theorem put8_hits (w : World) (b : Nat) (u0 u1 u2 u3 u4 u5 u6 u7 : Value) : Hits (· = b) w (put8 w b u0 u1 u2 u3 u4 u5 u6 u7) := by
  have h0 := (Hits.refl (· = b) w).setCell (g := b) (fun _ => rfl) 0 u0
  have h1 := (h0).setCell (g := b) (fun _ => rfl) 1 u1
  have h2 := (h1).setCell (g := b) (fun _ => rfl) 2 u2
  have h3 := (h2).setCell (g := b) (fun _ => rfl) 3 u3
  have h4 := (h3).setCell (g := b) (fun _ => rfl) 4 u4
  have h5 := (h4).setCell (g := b) (fun _ => rfl) 5 u5
  have h6 := (h5).setCell (g := b) (fun _ => rfl) 6 u6
  have h7 := (h6).setCell (g := b) (fun _ => rfl) 7 u7
  exact h7
theorem results_cell1 {fn : Func} {p : Tmp} {ty : TypeId} (h : fn.results = #[.cell p ty]) (tmps : Array Value) (P : Program) (w : World) :
    (results fn tmps).run P w = ((asAddr (tmps.getD p undef)).run P w).andThen fun a w1 => (loadVar ty a).run P w1 := by
  simp only [results, h]
  simp [Sem.run_bind, Result.andThen]
theorem message_ret {R : Ending → World → Prop} {W : World} {b : Nat} {u0 u1 u2 u3 u4 u5 u6 u7 : Value} (hp : W.heap[b]? = some (.cells #[u0, u1, u2, u3, u4, u5, u6, u7] 53 (0, 0))) {a : Act} (hd : a.tmps.getD 8 undef = .pointer (some ⟨b, 0, none⟩)) (hD : a.defers = [])
    (hR : R (.returned (.agg #[u0, u1, u2, u3, u4, u5, u6, u7])) W) : bodyPost Tryz.prog Tryz.f70 R .ret a W := by
  have hl : (loadVar 53 ⟨b, 0, none⟩).run Tryz.prog W = .ok (.agg #[u0, u1, u2, u3, u4, u5, u6, u7]) W := run_loadVar_row W b _ _ #[u0, u1, u2, u3, u4, u5, u6, u7] _ (.struct (Tryz.prog.fieldsOf 53)) hp (by kernel_rfl) rfl (by kernel_rfl)
  refine bodyPost_ret (v := .agg #[u0, u1, u2, u3, u4, u5, u6, u7]) ?_ hD hR
  rw [results_cell1 (fn := Tryz.f70) (p := 8) (ty := 53) rfl, hd]
  simp only [asAddr, Sem.run_pure, Result.andThen_ok, hl]
set_option maxHeartbeats 4000000 in
set_option maxRecDepth 100000 in
theorem message_any {w : World} {f : Nat} {s : Fr} {X : List Nat} (h : FrH w f s X) (kind to_ m0 m1 m2 m3 a b c : Int) (Av : Option Addr) (nv cv : Nat) :
    Calls Tryz.prog 70 #[.pointer (some ⟨f, 0, none⟩), .int .i64 kind, .int .i64 to_, .agg #[.int .i64 m0, .int .i64 m1, .int .i64 m2, .int .i64 m3, .int .i64 a, .int .i64 b, .int .i64 c, .slice Av nv cv]] w fun e w' => e = .returned (.agg #[.int .i64 kind, .int .i64 s.node, .int .i64 to_, .int .i64 s.epoch, .int .i64 a, .int .i64 b, .int .i64 c, .slice Av nv cv]) ∧ Later w w' := by
  obtain ⟨cc, h1, _⟩ := h
  obtain ⟨Wm, hW⟩ : ∃ Wm, Wm = (w.alloc (.cells #[.int .i64 m0, .int .i64 m1, .int .i64 m2, .int .i64 m3, .int .i64 a, .int .i64 b, .int .i64 c, .slice Av nv cv] 53)).alloc (.cells #[.int .i64 0, .int .i64 0, .int .i64 0, .int .i64 0, .int .i64 0, .int .i64 0, .int .i64 0, .slice none 0 0] 53) := ⟨_, rfl⟩
  have hl : Later w Wm := by rw [hW]; exact (later_alloc _ _).al _
  have hr := later_row hl h1.row
  have hb : Wm.heap[w.heap.size]? = some (.cells #[.int .i64 m0, .int .i64 m1, .int .i64 m2, .int .i64 m3, .int .i64 a, .int .i64 b, .int .i64 c, .slice Av nv cv] 53 (0, 0)) := by rw [hW]; exact row_al (heap_alloc_new _ _) _
  have hd : Wm.heap[w.heap.size + 1]? = some (.cells #[.int .i64 0, .int .i64 0, .int .i64 0, .int .i64 0, .int .i64 0, .int .i64 0, .int .i64 0, .slice none 0 0] 53 (0, 0)) := by rw [hW]; exact row_new2 _ _ _
  have c0 := Stands.cell (X := fun k => k = f) (show Wm.cell? ⟨f, 0, none⟩ = some (.int .i64 s.node) from cell_of_row _ _ 0 _ _ (0, 0) hr) rfl
  have c2 := Stands.cell (X := fun k => k = f) (show Wm.cell? ⟨f, 2, none⟩ = some (.int .i64 s.epoch) from cell_of_row _ _ 2 _ _ (0, 0) hr) rfl
  have y0 : Wm.cell? ⟨w.heap.size, 0, none⟩ = some (.int .i64 m0) := cell_of_row _ _ 0 _ _ (0, 0) hb
  have y1 : Wm.cell? ⟨w.heap.size, 1, none⟩ = some (.int .i64 m1) := cell_of_row _ _ 1 _ _ (0, 0) hb
  have y2 : Wm.cell? ⟨w.heap.size, 2, none⟩ = some (.int .i64 m2) := cell_of_row _ _ 2 _ _ (0, 0) hb
  have y3 : Wm.cell? ⟨w.heap.size, 3, none⟩ = some (.int .i64 m3) := cell_of_row _ _ 3 _ _ (0, 0) hb
  have f0 := frozen_of_row _ _ 0 _ _ hb
  have f1 := frozen_of_row _ _ 1 _ _ hb
  have f2 := frozen_of_row _ _ 2 _ _ hb
  have f3 := frozen_of_row _ _ 3 _ _ hb
  have HW := hide_ hW
  have HB := hide_ hb; have HD := hide_ hd; have HL := hide_ hl
  have hne : ¬ w.heap.size = f := by have := theap_lt h1.row; omega
  clear h1 hW hl hr hb hd
  go_enter Tryz.func70, Tryz.ntmps70
  go_wp2_with fail
  rw [← HW.out]
  refine wp_region_z (R := Stands (fun k => k = f)) [] (by kernel_rfl) ?_
  refine wpAnyZ_take0 (Stands.steady (fun k => k = f)) 0 (v := ?_) rfl (by kernel_rfl) (by kernel_rfl) (by kernel_rfl) (fun _ _ _ h => h) (by rfl) (by intro W hSw; go_simp; with_reducible rfl) ?_; try simp only [Act.put, List.setIfInBounds_toArray, List.set_cons_zero, List.set_cons_succ]
  refine wpAnyZ_take0 (Stands.steady (fun k => k = f)) 1 (v := ?_) rfl (by kernel_rfl) (by kernel_rfl) (by kernel_rfl) (fun _ _ _ h => h) (by rfl) (by intro W hSw; go_simp; with_reducible rfl) ?_; try simp only [Act.put, List.setIfInBounds_toArray, List.set_cons_zero, List.set_cons_succ]
  refine wpAnyZ_take0 (Stands.steady (fun k => k = f)) 2 (v := ?_) rfl (by kernel_rfl) (by kernel_rfl) (by kernel_rfl) (fun _ _ _ h => h) (by rfl) (by intro W hSw; go_simp; with_reducible rfl) ?_; try simp only [Act.put, List.setIfInBounds_toArray, List.set_cons_zero, List.set_cons_succ]
  refine wpAnyZ_take0 (Stands.steady (fun k => k = f)) 3 (v := ?_) rfl (by kernel_rfl) (by kernel_rfl) (by kernel_rfl) (fun _ _ _ h => h) (by rfl) (by intro W hSw; go_simp; with_reducible rfl) ?_; try simp only [Act.put, List.setIfInBounds_toArray, List.set_cons_zero, List.set_cons_succ]
  refine wpAnyZ_take0 (Stands.steady (fun k => k = f)) 4 (v := ?_) rfl (by kernel_rfl) (by kernel_rfl) (by kernel_rfl) (fun _ _ _ h => h) (by rfl) (by intro W hSw; have hS0 := Stands.trans (show Stands (fun k => k = f) Wm _ from by repeat first | with_reducible assumption | with_reducible exact Stands.refl _ _ | with_reducible refine Stands.alloc ?_ _ | with_reducible refine Stands.drew ?_ | with_reducible refine Stands.drewL ?_ | with_reducible refine Stands.setCell ?_ (by assumption) _ _ | assumption | refine Stands.trans ?_ (by assumption)) hSw; go_simp; with_reducible rfl) ?_; try simp only [Act.put, List.setIfInBounds_toArray, List.set_cons_zero, List.set_cons_succ]
  refine wpAnyZ_take0 (Stands.steady (fun k => k = f)) 5 (v := ?_) rfl (by kernel_rfl) (by kernel_rfl) (by kernel_rfl) (fun _ _ _ h => h) (by rfl) (by intro W hSw; go_simp; with_reducible rfl) ?_; try simp only [Act.put, List.setIfInBounds_toArray, List.set_cons_zero, List.set_cons_succ]
  refine wpAnyZ_take0 (Stands.steady (fun k => k = f)) 6 (v := ?_) rfl (by kernel_rfl) (by kernel_rfl) (by kernel_rfl) (fun _ _ _ h => h) (by rfl) (by intro W hSw; go_simp; with_reducible rfl) ?_; try simp only [Act.put, List.setIfInBounds_toArray, List.set_cons_zero, List.set_cons_succ]
  refine wpAnyZ_take0 (Stands.steady (fun k => k = f)) 7 (v := ?_) rfl (by kernel_rfl) (by kernel_rfl) (by kernel_rfl) (fun _ _ _ h => h) (by rfl) (by intro W hSw; go_simp; with_reducible rfl) ?_; try simp only [Act.put, List.setIfInBounds_toArray, List.set_cons_zero, List.set_cons_succ]
  refine wpAnyZ_take0 (Stands.steady (fun k => k = f)) 8 (v := ?_) rfl (by kernel_rfl) (by kernel_rfl) (by kernel_rfl) (fun _ _ _ h => h) (by rfl) (by intro W hSw; go_simp; with_reducible rfl) ?_; try simp only [Act.put, List.setIfInBounds_toArray, List.set_cons_zero, List.set_cons_succ]
  refine wpAnyZ_take0 (Stands.steady (fun k => k = f)) 9 (v := ?_) rfl (by kernel_rfl) (by kernel_rfl) (by kernel_rfl) (fun _ _ _ h => h) (by rfl) (by intro W hSw; go_simp; with_reducible rfl) ?_; try simp only [Act.put, List.setIfInBounds_toArray, List.set_cons_zero, List.set_cons_succ]
  refine wpAnyZ_take0 (Stands.steady (fun k => k = f)) 10 (v := ?_) rfl (by kernel_rfl) (by kernel_rfl) (by kernel_rfl) (fun _ _ _ h => h) (by rfl) (by intro W hSw; have hS0 := Stands.trans (show Stands (fun k => k = f) Wm _ from by repeat first | with_reducible assumption | with_reducible exact Stands.refl _ _ | with_reducible refine Stands.alloc ?_ _ | with_reducible refine Stands.drew ?_ | with_reducible refine Stands.drewL ?_ | with_reducible refine Stands.setCell ?_ (by assumption) _ _ | assumption | refine Stands.trans ?_ (by assumption)) hSw; go_simp; with_reducible rfl) ?_; try simp only [Act.put, List.setIfInBounds_toArray, List.set_cons_zero, List.set_cons_succ]
  refine wpAnyZ_take0 (Stands.steady (fun k => k = f)) 11 (v := ?_) rfl (by kernel_rfl) (by kernel_rfl) (by kernel_rfl) (fun _ _ _ h => h) (by rfl) (by intro W hSw; go_simp; with_reducible rfl) ?_; try simp only [Act.put, List.setIfInBounds_toArray, List.set_cons_zero, List.set_cons_succ]
  refine wpAnyZ_one 12 (by kernel_rfl) rfl (fun K hK => ?_)
  go_simp
  refine hK.out _ _ (by repeat first | with_reducible assumption | with_reducible exact Stands.refl _ _ | with_reducible refine Stands.alloc ?_ _ | with_reducible refine Stands.drew ?_ | with_reducible refine Stands.drewL ?_ | with_reducible refine Stands.setCell ?_ (by assumption) _ _ | assumption | refine Stands.of_later ?_) ?_
  clear hK K; try simp only [Act.put, List.setIfInBounds_toArray, List.set_cons_zero, List.set_cons_succ]
  refine wpAnyZ_take0 (Stands.steady (fun k => k = f)) 13 (v := ?_) rfl (by kernel_rfl) (by kernel_rfl) (by kernel_rfl) (fun _ _ _ h => h) (by rfl) (by intro W hSw; go_simp; with_reducible rfl) ?_; try simp only [Act.put, List.setIfInBounds_toArray, List.set_cons_zero, List.set_cons_succ]
  refine wpAnyZ_one 14 (by kernel_rfl) rfl (fun K hK => ?_)
  go_simp
  refine hK.out _ _ (by repeat first | with_reducible assumption | with_reducible exact Stands.refl _ _ | with_reducible refine Stands.alloc ?_ _ | with_reducible refine Stands.drew ?_ | with_reducible refine Stands.drewL ?_ | with_reducible refine Stands.setCell ?_ (by assumption) _ _ | assumption | refine Stands.of_later ?_) ?_
  clear hK K; try simp only [Act.put, List.setIfInBounds_toArray, List.set_cons_zero, List.set_cons_succ]
  refine wpAnyZ_take0 (Stands.steady (fun k => k = f)) 15 (v := ?_) rfl (by kernel_rfl) (by kernel_rfl) (by kernel_rfl) (fun _ _ _ h => h) (by rfl) (by intro W hSw; go_simp; with_reducible rfl) ?_; try simp only [Act.put, List.setIfInBounds_toArray, List.set_cons_zero, List.set_cons_succ]
  refine wpAnyZ_one 16 (by kernel_rfl) rfl (fun K hK => ?_)
  go_simp
  refine hK.out _ _ (by repeat first | with_reducible assumption | with_reducible exact Stands.refl _ _ | with_reducible refine Stands.alloc ?_ _ | with_reducible refine Stands.drew ?_ | with_reducible refine Stands.drewL ?_ | with_reducible refine Stands.setCell ?_ (by assumption) _ _ | assumption | refine Stands.of_later ?_) ?_
  clear hK K; try simp only [Act.put, List.setIfInBounds_toArray, List.set_cons_zero, List.set_cons_succ]
  refine wpAnyZ_take0 (Stands.steady (fun k => k = f)) 17 (v := ?_) rfl (by kernel_rfl) (by kernel_rfl) (by kernel_rfl) (fun _ _ _ h => h) (by rfl) (by intro W hSw; go_simp; with_reducible rfl) ?_; try simp only [Act.put, List.setIfInBounds_toArray, List.set_cons_zero, List.set_cons_succ]
  refine wpAnyZ_one 18 (by kernel_rfl) rfl (fun K hK => ?_)
  go_simp
  refine hK.out _ _ (by repeat first | with_reducible assumption | with_reducible exact Stands.refl _ _ | with_reducible refine Stands.alloc ?_ _ | with_reducible refine Stands.drew ?_ | with_reducible refine Stands.drewL ?_ | with_reducible refine Stands.setCell ?_ (by assumption) _ _ | assumption | refine Stands.of_later ?_) ?_
  clear hK K; try simp only [Act.put, List.setIfInBounds_toArray, List.set_cons_zero, List.set_cons_succ]
  refine wpAnyZ_done (by kernel_rfl) ?_ _
  obtain ⟨W2, hW2⟩ : ∃ V, V = (((Wm.setCell ⟨w.heap.size, 0, none⟩ (.int .i64 kind)).setCell ⟨w.heap.size, 1, none⟩ (.int .i64 s.node)).setCell ⟨w.heap.size, 2, none⟩ (.int .i64 to_)).setCell ⟨w.heap.size, 3, none⟩ (.int .i64 s.epoch) := ⟨_, rfl⟩
  rw [← hW2]
  have hb2 : W2.heap[w.heap.size]? = some (.cells #[.int .i64 kind, .int .i64 s.node, .int .i64 to_, .int .i64 s.epoch, .int .i64 a, .int .i64 b, .int .i64 c, .slice Av nv cv] 53 (0, 0)) := by
    rw [hW2]
    have h0 := heap_setCell_same Wm _ 0 _ _ (.int .i64 kind) HB.out
    have h1 := heap_setCell_same _ _ 1 _ _ (.int .i64 s.node) h0
    have h2 := heap_setCell_same _ _ 2 _ _ (.int .i64 to_) h1
    exact heap_setCell_same _ _ 3 _ _ (.int .i64 s.epoch) h2
  have hh2 : Hits (· = w.heap.size) Wm W2 := by rw [hW2]; exact ((((Hits.refl (· = w.heap.size) Wm).setCell (g := w.heap.size) (fun _ => rfl) 0 _).setCell (g := w.heap.size) (fun _ => rfl) 1 _).setCell (g := w.heap.size) (fun _ => rfl) 2 _).setCell (g := w.heap.size) (fun _ => rfl) 3 _
  have hd2 := hh2.row HD.out (by omega)
  have HL2 := hide_ (show Later w W2 from Below.trans HL.out (hh2.below (B := w.heap.size) HL.out.size fun k hk => by omega))
  have HD2 := hide_ hd2
  have z0 : W2.cell? ⟨w.heap.size, 0, none⟩ = some (.int .i64 kind) := cell_of_row _ _ 0 _ _ (0, 0) hb2
  have z1 : W2.cell? ⟨w.heap.size, 1, none⟩ = some (.int .i64 s.node) := cell_of_row _ _ 1 _ _ (0, 0) hb2
  have z2 : W2.cell? ⟨w.heap.size, 2, none⟩ = some (.int .i64 to_) := cell_of_row _ _ 2 _ _ (0, 0) hb2
  have z3 : W2.cell? ⟨w.heap.size, 3, none⟩ = some (.int .i64 s.epoch) := cell_of_row _ _ 3 _ _ (0, 0) hb2
  have z4 : W2.cell? ⟨w.heap.size, 4, none⟩ = some (.int .i64 a) := cell_of_row _ _ 4 _ _ (0, 0) hb2
  have z5 : W2.cell? ⟨w.heap.size, 5, none⟩ = some (.int .i64 b) := cell_of_row _ _ 5 _ _ (0, 0) hb2
  have z6 : W2.cell? ⟨w.heap.size, 6, none⟩ = some (.int .i64 c) := cell_of_row _ _ 6 _ _ (0, 0) hb2
  have z7 : W2.cell? ⟨w.heap.size, 7, none⟩ = some (.slice Av nv cv) := cell_of_row _ _ 7 _ _ (0, 0) hb2
  have v0 : W2.cell? ⟨w.heap.size + 1, 0, none⟩ = some (.int .i64 0) := cell_of_row _ _ 0 _ _ (0, 0) hd2
  have v1 : W2.cell? ⟨w.heap.size + 1, 1, none⟩ = some (.int .i64 0) := cell_of_row _ _ 1 _ _ (0, 0) hd2
  have v2 : W2.cell? ⟨w.heap.size + 1, 2, none⟩ = some (.int .i64 0) := cell_of_row _ _ 2 _ _ (0, 0) hd2
  have v3 : W2.cell? ⟨w.heap.size + 1, 3, none⟩ = some (.int .i64 0) := cell_of_row _ _ 3 _ _ (0, 0) hd2
  have v4 : W2.cell? ⟨w.heap.size + 1, 4, none⟩ = some (.int .i64 0) := cell_of_row _ _ 4 _ _ (0, 0) hd2
  have v5 : W2.cell? ⟨w.heap.size + 1, 5, none⟩ = some (.int .i64 0) := cell_of_row _ _ 5 _ _ (0, 0) hd2
  have v6 : W2.cell? ⟨w.heap.size + 1, 6, none⟩ = some (.int .i64 0) := cell_of_row _ _ 6 _ _ (0, 0) hd2
  have v7 : W2.cell? ⟨w.heap.size + 1, 7, none⟩ = some (.slice none 0 0) := cell_of_row _ _ 7 _ _ (0, 0) hd2
  have g0 := frozen_of_row _ _ 0 _ _ hd2
  have g1 := frozen_of_row _ _ 1 _ _ hd2
  have g2 := frozen_of_row _ _ 2 _ _ hd2
  have g3 := frozen_of_row _ _ 3 _ _ hd2
  have g4 := frozen_of_row _ _ 4 _ _ hd2
  have g5 := frozen_of_row _ _ 5 _ _ hd2
  have g6 := frozen_of_row _ _ 6 _ _ hd2
  have g7 := frozen_of_row _ _ 7 _ _ hd2
  clear hW2 hb2 hh2 hd2 c0 c2 y0 y1 y2 y3 f0 f1 f2 f3
  go_wp2_with fail
  obtain ⟨W3, hW3⟩ : ∃ V, V = put8 W2 (w.heap.size + 1) (.int .i64 kind) (.int .i64 s.node) (.int .i64 to_) (.int .i64 s.epoch) (.int .i64 a) (.int .i64 b) (.int .i64 c) (.slice Av nv cv) := ⟨_, rfl⟩
  have hr3 := put8_row HD2.out (.int .i64 kind) (.int .i64 s.node) (.int .i64 to_) (.int .i64 s.epoch) (.int .i64 a) (.int .i64 b) (.int .i64 c) (.slice Av nv cv)
  have hl3 := Below.trans HL2.out ((put8_hits W2 (w.heap.size + 1) (.int .i64 kind) (.int .i64 s.node) (.int .i64 to_) (.int .i64 s.epoch) (.int .i64 a) (.int .i64 b) (.int .i64 c) (.slice Av nv cv)).below (B := w.heap.size) HL2.out.size fun k hk => by omega)
  rw [← hW3] at hr3 hl3
  unfold put8 at hW3
  rw [← hW3]
  exact message_ret (W := W3.drew) hr3 rfl rfl ⟨rfl, hl3.drew⟩

end Go.Proofs.YtcmollfhlillfaaGreatDoor
