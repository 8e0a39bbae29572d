/-
  front: open: a batch begins.
-/
import Derived.Test.YtcmollfhlillfaaGreatDoorFrOpA
namespace Go.Proofs.YtcmollfhlillfaaGreatDoor
open Go.RowKit
set_option linter.unusedVariables false
set_option linter.unusedSimpArgs false
theorem open_cells {w : World} {f : Nat} {s : Fr} {cc : FrC} {u q : Value} (h : w.heap[f]? = some (.cells #[.int .i64 s.node, .int .i64 s.gen, .int .i64 s.epoch, .int .i64 s.rec_, cc.uc, cc.ur, cc.ub, .int .i64 s.version, .int .i64 s.known, .bool s.owed, .map (some cc.m), q, cc.uw, .int .i64 s.number, u, .int .i64 s.stuck, .bool s.begun] 75 (0, 0))) (x y : Value) :
    (w.setCell ⟨f, 11, none⟩ x).cell? ⟨f, 7, none⟩ = some (.int .i64 s.version) ∧ (w.setCell ⟨f, 11, none⟩ x).frozen? ⟨f, 7, none⟩ = false ∧
    ((w.setCell ⟨f, 11, none⟩ x).setCell ⟨f, 7, none⟩ y).cell? ⟨f, 9, none⟩ = some (.bool s.owed) ∧ ((w.setCell ⟨f, 11, none⟩ x).setCell ⟨f, 7, none⟩ y).frozen? ⟨f, 9, none⟩ = false := by
  have h1 := heap_setCell_same w f 11 _ _ x h
  have h2 := heap_setCell_same _ f 7 _ _ y h1
  exact ⟨cell_of_row _ _ 7 _ _ (0, 0) h1, frozen_of_row _ _ 7 _ _ h1, cell_of_row _ _ 9 _ _ (0, 0) h2, frozen_of_row _ _ 9 _ _ h2⟩
theorem open_end2 {w W w7 : World} {f bb mb : Nat} {s : Fr} {cc : FrC} {X : List Nat} {Aq : Option Addr} {cq : Nat} {A6 A7 : Option Addr} {n c6 c7 base7 nq d : Nat} {st : Int} {rows : List (List Value)} {xs : List (List Nat)}
    (hp : FrP w f s cc) (hX : X = cc.blocks f) (hnd : X.Nodup) (hxp : cc.Xp = []) (hxq : cc.Xq = obL (.slice Aq s.queue.length cq) ++ xs.flatten) (hrq : Rows jobR w rows s.queue xs) (hnq : nq = s.queue.length) (hst : st = stepF s) (hd : d = nq - n)
    (hn : n = min nq 4) (hM : OpM w W f bb mb s cc st Aq nq cq A6 n c6 (rows.take n).flatten) (hl7 : Later W w7) (ho7 : w7.ownsRow base7 120 5 (.slice A7 d c7) d (rows.drop n).flatten) (hb7 : W.heap.size ≤ base7) :
    ∃ X', FrH (((w7.setCell ⟨f, 11, none⟩ (.slice A7 d c7)).setCell ⟨f, 7, none⟩ (.int .i64 (s.version + st))).setCell ⟨f, 9, none⟩ (.bool false)) f (openF s) X' ∧ Hits (· ∈ X) w (((w7.setCell ⟨f, 11, none⟩ (.slice A7 d c7)).setCell ⟨f, 7, none⟩ (.int .i64 (s.version + st))).setCell ⟨f, 9, none⟩ (.bool false)) ∧ Fresh w X X' := by
  subst hd hnq hst
  exact open_end hp hX hnd hxp hxq hrq hn hM hl7 ho7 hb7 rfl
set_option maxHeartbeats 16000000 in
set_option maxRecDepth 100000 in
theorem open_any {w : World} {f : Nat} {s : Fr} {X : List Nat} (h : FrH w f s X) (hcur : s.cur = none) (hok : FrOk s) :
    Calls Tryz.prog 34 #[.pointer (some ⟨f, 0, none⟩)] w (TurnPost w f X (openF s) (resolveL (openF s) (openB s))) := by
  obtain ⟨cc, hp, hX, hnd⟩ := id h
  have hcu := hp.cur
  rw [hcur] at hcu
  obtain ⟨hup, hxp⟩ := hcu
  obtain ⟨Aq, cq, eq⟩ := slice_len hp.queue
  injection eq with eq
  have hq := hp.queue
  rw [eq] at hq
  obtain ⟨vq, rows, xs, evq, oq, rq, exq⟩ := hq
  injection evq with evq
  subst evq
  have hrow : w.heap[f]? = some (.cells #[.int .i64 s.node, .int .i64 s.gen, .int .i64 s.epoch, .int .i64 s.rec_, cc.uc, cc.ur, cc.ub, .int .i64 s.version, .int .i64 s.known, .bool s.owed, .map (some cc.m), .slice Aq s.queue.length cq, cc.uw, .int .i64 s.number, .pointer none, .int .i64 s.stuck, .bool s.begun] 75 (0, 0)) := by
    have := hp.row; unfold frCells at this; rw [eq, hup] at this; exact this
  obtain ⟨nq, hnq⟩ : ∃ n, n = s.queue.length := ⟨_, rfl⟩
  rw [← hnq] at hrow oq
  obtain ⟨st, hst⟩ : ∃ st, st = stepF s := ⟨_, rfl⟩
  have hst2 : st = 10 ∨ st = 1000 := by rw [hst]; unfold stepF; split <;> simp
  have b1 : nq ≤ 4096 := by rw [hnq]; exact hok.many
  have v0 := hok.v0
  have v1 := hok.v1
  have b2 : nq ≤ cq := (own_cap2 oq).2
  have HH := hide_ h; have HP := hide_ hp; have HRW := hide_ hrow; have HOQ := hide_ oq; have HRQ := hide_ rq; have HNQ := hide_ hnq; have HST := hide_ hst; have HOK := hide_ hok; have HX := hide_ hX; have HND := hide_ hnd; have HXQ := hide_ exq; have HXP := hide_ hxp
  have k3 := later_drew_cell (show w.cell? ⟨f, 3, none⟩ = some (.int .i64 s.rec_) from cell_of_row _ _ 3 _ _ (0, 0) hrow)
  have k7 := later_drew_cell (show w.cell? ⟨f, 7, none⟩ = some (.int .i64 s.version) from cell_of_row _ _ 7 _ _ (0, 0) hrow)
  clear h hcur hok hp hX hnd hup hxp eq oq rq exq hrow hnq
  have HSV := hide_ (show st = if s.version = s.rec_ then 1000 else 10 from hst)
  clear hst hst2
  go_enter Tryz.func34, Tryz.ntmps34
  go_wp2_with fail
  refine wp_region_k (by kernel_rfl) ?_
  refine wpAnyK_take 0 (v := ?_) rfl (by kernel_rfl) (by kernel_rfl) (by kernel_rfl) (fun _ _ _ h => h) (by rfl) (by intro W hSw; go_simp; with_reducible rfl) ?_; try simp only [Act.put, List.setIfInBounds_toArray, List.set_cons_zero, List.set_cons_succ]
  refine wpAnyK_take 1 (v := ?_) rfl (by kernel_rfl) (by kernel_rfl) (by kernel_rfl) (fun _ _ _ h => h) (by rfl) (by intro W hSw; go_simp; with_reducible rfl) ?_; try simp only [Act.put, List.setIfInBounds_toArray, List.set_cons_zero, List.set_cons_succ]
  refine wpAnyK_take 2 (v := ?_) rfl (by kernel_rfl) (by kernel_rfl) (by kernel_rfl) (fun _ _ _ h => h) (by rfl) (by intro W hSw; go_simp; with_reducible rfl) ?_; try simp only [Act.put, List.setIfInBounds_toArray, List.set_cons_zero, List.set_cons_succ]
  refine wpAnyK_take 3 (v := ?_) rfl (by kernel_rfl) (by kernel_rfl) (by kernel_rfl) (fun _ _ _ h => h) (by rfl) (by intro W hSw; go_simp; with_reducible rfl) ?_; try simp only [Act.put, List.setIfInBounds_toArray, List.set_cons_zero, List.set_cons_succ]
  refine wpAnyK_take 4 (v := ?_) rfl (by kernel_rfl) (by kernel_rfl) (by kernel_rfl) (fun _ _ _ h => h) (by rfl) (by intro W hSw; go_simp; with_reducible rfl) ?_; try simp only [Act.put, List.setIfInBounds_toArray, List.set_cons_zero, List.set_cons_succ]
  refine wpAnyK_take 5 (v := ?_) rfl (by kernel_rfl) (by kernel_rfl) (by kernel_rfl) (fun _ _ _ h => h) (by rfl) (by intro W hSw; go_simp; with_reducible rfl) ?_; try simp only [Act.put, List.setIfInBounds_toArray, List.set_cons_zero, List.set_cons_succ]
  refine wpAnyK_take 6 (v := ?_) rfl (by kernel_rfl) (by kernel_rfl) (by kernel_rfl) (fun _ _ _ h => h) (by rfl) (by intro W hSw; go_simp; with_reducible rfl) ?_; try simp only [Act.put, List.setIfInBounds_toArray, List.set_cons_zero, List.set_cons_succ]
  refine wpAnyK_take 7 (v := ?_) rfl (by kernel_rfl) (by kernel_rfl) (by kernel_rfl) (fun _ _ _ h => h) (by rfl) (by intro W hSw; go_simp; with_reducible rfl) ?_; try simp only [Act.put, List.setIfInBounds_toArray, List.set_cons_zero, List.set_cons_succ]
  refine wpAnyK_take 8 (v := ?_) rfl (by kernel_rfl) (by kernel_rfl) (by kernel_rfl) (fun _ _ _ h => h) (by rfl) (by intro W hSw; go_simp; with_reducible rfl) ?_; try simp only [Act.put, List.setIfInBounds_toArray, List.set_cons_zero, List.set_cons_succ]
  refine wpAnyK_take 9 (v := ?_) rfl (by kernel_rfl) (by kernel_rfl) (by kernel_rfl) (fun _ _ _ h => h) (by rfl) (by intro W hSw; go_simp; with_reducible rfl) ?_; try simp only [Act.put, List.setIfInBounds_toArray, List.set_cons_zero, List.set_cons_succ]
  refine wpAnyK_done (by kernel_rfl) ?_ _
  go_upto_if 14 with (fail)
  go_cut [3] (fun s3 wx => wx = w.drew ∧ s3 = .int .i64 st)
  case first =>
    by_cases hvr : s.version = s.rec_
    · have HE := hide_ (show st = 1000 by rw [HSV.out, if_pos hvr])
      have hb : (s.version == s.rec_) = true := by simpa using hvr
      clear hvr
      go_wp2_with fail
      go_meet
      exact ⟨rfl, by rw [HE.out]⟩
    · have HE := hide_ (show st = 10 by rw [HSV.out, if_neg hvr])
      have hb : (s.version == s.rec_) = false := by simpa using hvr
      clear hvr
      go_wp2_with fail
      go_meet
      exact ⟨rfl, by rw [HE.out]⟩
  case rest =>
    obtain ⟨hwx, rfl⟩ := hcut
    have st2 : st = 10 ∨ st = 1000 := by have := HSV.out; split at this <;> simp [this]
    have st3 : 0 ≤ st := by omega
    have st4 : st ≤ 1000 := by omega
    subst hwx
    clear st2 k3 k7
    have c11 : w.drew.cell? ⟨f, 11, none⟩ = some (.slice Aq nq cq) := cell_of_row _ _ 11 _ _ (0, 0) (show w.drew.heap[f]? = _ from HRW.out)
    obtain ⟨n, hn, hn4, hnq⟩ : ∃ n : Nat, min (nq : Int) 4 = (n : Int) ∧ n = min nq 4 ∧ n ≤ nq := ⟨min nq 4, by omega, rfl, by omega⟩
    have HN4 := hide_ hn4
    have n4 : n ≤ 4 := by omega
    have n5 : (n : Int) ≤ (cq : Int) := by omega
    have n6 : (n : Int) ≤ (nq : Int) := by omega
    have hcl := hide_ (fun W' (hl : Later w W') => clone_job (w := W') (c := cq) (A := Aq) (n := n) (xs := (rows.take n).flatten) (by have h1 := (Rd.of_own HOQ.out).take hnq; rw [rflat_take HRQ.out.each] at h1; exact h1.below hl) (Rows.one (HRQ.out.take n)) (by omega) (fun e => by have h1 := (own_cap2 HOQ.out).1 e; omega))
    have k7 := Stands.cell (X := fun g => g = f) (show w.drew.cell? ⟨f, 7, none⟩ = some (.int .i64 s.version) from cell_of_row _ _ 7 _ _ (0, 0) HRW.out) rfl
    have k8 := Stands.cell (X := fun g => g = f) (show w.drew.cell? ⟨f, 8, none⟩ = some (.int .i64 s.known) from cell_of_row _ _ 8 _ _ (0, 0) HRW.out) rfl
    have k11 := Stands.cell (X := fun g => g = f) (show w.drew.cell? ⟨f, 11, none⟩ = some (.slice Aq nq cq) from cell_of_row _ _ 11 _ _ (0, 0) HRW.out) rfl
    have hmm := @run_makeMap Tryz.prog
    have hsum : IntKind.i64.wrap (s.version + st) = s.version + st := IntWalk.i64_in _ (by omega)
    obtain ⟨w0, hw0⟩ : ∃ w0, w0 = w.drew := ⟨_, rfl⟩
    rw [← hw0] at c11 k7 k8 k11 ⊢
    have HW0 := hide_ (show Later w w0 by rw [hw0]; exact (Later.refl w).dr)
    have hw00 : w0.heap.size = w.heap.size := by rw [hw0]; rfl
    clear hn4 hw0
    go_wp2_with fail
    clear c11
    refine wp_region_z (R := Stands (fun g => g = f)) [28] (by kernel_rfl) ?_
    refine wpAnyZ_pure (Stands.steady (fun g => g = f)) 0 (v := ?_) rfl (by kernel_rfl) (by kernel_rfl) (by kernel_rfl) (fun _ _ _ h => h) (by rfl) (by intro W; go_simp; with_reducible rfl) ?_; try simp only [Act.put, List.setIfInBounds_toArray, List.set_cons_zero, List.set_cons_succ]
    refine wpAnyZ_pure (Stands.steady (fun g => g = f)) 1 (v := ?_) rfl (by kernel_rfl) (by kernel_rfl) (by kernel_rfl) (fun _ _ _ h => h) (by rfl) (by intro W; go_simp; with_reducible rfl) ?_; try simp only [Act.put, List.setIfInBounds_toArray, List.set_cons_zero, List.set_cons_succ]
    refine wpAnyZ_pure (Stands.steady (fun g => g = f)) 2 (v := ?_) rfl (by kernel_rfl) (by kernel_rfl) (by kernel_rfl) (fun _ _ _ h => h) (by rfl) (by intro W; go_simp; with_reducible rfl) ?_; try simp only [Act.put, List.setIfInBounds_toArray, List.set_cons_zero, List.set_cons_succ]
    refine wpAnyZ_pure (Stands.steady (fun g => g = f)) 3 (v := ?_) rfl (by kernel_rfl) (by kernel_rfl) (by kernel_rfl) (fun _ _ _ h => h) (by rfl) (by intro W; go_simp; with_reducible rfl) ?_; try simp only [Act.put, List.setIfInBounds_toArray, List.set_cons_zero, List.set_cons_succ]
    refine wpAnyZ_take (Stands.steady (fun g => g = f)) 4 (v := ?_) rfl (by kernel_rfl) (by kernel_rfl) (by kernel_rfl) (by kernel_rfl) (fun _ _ _ h => h) (by rfl) (by intro W hSw; have hS0 := Stands.trans (show Stands (fun g => g = f) w0 _ from by repeat first | with_reducible assumption | with_reducible exact Stands.refl _ _ | with_reducible refine Stands.alloc ?_ _ | with_reducible refine Stands.drew ?_ | with_reducible refine Stands.drewL ?_ | with_reducible refine Stands.setCell ?_ (by assumption) _ _ | assumption | refine Stands.trans ?_ (by assumption)) hSw; go_simp; with_reducible rfl) ?_; try simp only [Act.put, List.setIfInBounds_toArray, List.set_cons_zero, List.set_cons_succ]
    refine wpAnyZ_pure (Stands.steady (fun g => g = f)) 5 (v := ?_) rfl (by kernel_rfl) (by kernel_rfl) (by kernel_rfl) (fun _ _ _ h => h) (by rfl) (by intro W; go_simp; with_reducible rfl) ?_; try simp only [Act.put, List.setIfInBounds_toArray, List.set_cons_zero, List.set_cons_succ]
    refine wpAnyZ_pure (Stands.steady (fun g => g = f)) 6 (v := ?_) rfl (by kernel_rfl) (by kernel_rfl) (by kernel_rfl) (fun _ _ _ h => h) (by rfl) (by intro W; go_simp; with_reducible rfl) ?_; try simp only [Act.put, List.setIfInBounds_toArray, List.set_cons_zero, List.set_cons_succ]
    refine wpAnyZ_pure (Stands.steady (fun g => g = f)) 7 (v := ?_) rfl (by kernel_rfl) (by kernel_rfl) (by kernel_rfl) (fun _ _ _ h => h) (by rfl) (by intro W; go_simp; with_reducible rfl) ?_; try simp only [Act.put, List.setIfInBounds_toArray, List.set_cons_zero, List.set_cons_succ]
    refine wpAnyZ_take (Stands.steady (fun g => g = f)) 8 (v := ?_) rfl (by kernel_rfl) (by kernel_rfl) (by kernel_rfl) (by kernel_rfl) (fun _ _ _ h => h) (by rfl) (by intro W hSw; have hS0 := Stands.trans (show Stands (fun g => g = f) w0 _ from by repeat first | with_reducible assumption | with_reducible exact Stands.refl _ _ | with_reducible refine Stands.alloc ?_ _ | with_reducible refine Stands.drew ?_ | with_reducible refine Stands.drewL ?_ | with_reducible refine Stands.setCell ?_ (by assumption) _ _ | assumption | refine Stands.trans ?_ (by assumption)) hSw; go_simp; with_reducible rfl) ?_; try simp only [Act.put, List.setIfInBounds_toArray, List.set_cons_zero, List.set_cons_succ]
    refine wpAnyZ_pure (Stands.steady (fun g => g = f)) 9 (v := ?_) rfl (by kernel_rfl) (by kernel_rfl) (by kernel_rfl) (fun _ _ _ h => h) (by rfl) (by intro W; go_simp; with_reducible rfl) ?_; try simp only [Act.put, List.setIfInBounds_toArray, List.set_cons_zero, List.set_cons_succ]
    refine wpAnyZ_take (Stands.steady (fun g => g = f)) 10 (v := ?_) rfl (by kernel_rfl) (by kernel_rfl) (by kernel_rfl) (by kernel_rfl) (fun _ _ _ h => h) (by rfl) (by intro W hSw; have hS0 := Stands.trans (show Stands (fun g => g = f) w0 _ from by repeat first | with_reducible assumption | with_reducible exact Stands.refl _ _ | with_reducible refine Stands.alloc ?_ _ | with_reducible refine Stands.drew ?_ | with_reducible refine Stands.drewL ?_ | with_reducible refine Stands.setCell ?_ (by assumption) _ _ | assumption | refine Stands.trans ?_ (by assumption)) hSw; go_simp; with_reducible rfl) ?_; try simp only [Act.put, List.setIfInBounds_toArray, List.set_cons_zero, List.set_cons_succ]
    refine wpAnyZ_pure (Stands.steady (fun g => g = f)) 11 (v := ?_) rfl (by kernel_rfl) (by kernel_rfl) (by kernel_rfl) (fun _ _ _ h => h) (by rfl) (by intro W; go_simp; with_reducible rfl) ?_; try simp only [Act.put, List.setIfInBounds_toArray, List.set_cons_zero, List.set_cons_succ]
    refine wpAnyZ_pure (Stands.steady (fun g => g = f)) 12 (v := ?_) rfl (by kernel_rfl) (by kernel_rfl) (by kernel_rfl) (fun _ _ _ h => h) (by rfl) (by intro W; go_simp; with_reducible rfl) ?_; try simp only [Act.put, List.setIfInBounds_toArray, List.set_cons_zero, List.set_cons_succ]
    refine wpAnyZ_pure (Stands.steady (fun g => g = f)) 13 (v := ?_) rfl (by kernel_rfl) (by kernel_rfl) (by kernel_rfl) (fun _ _ _ h => h) (by rfl) (by intro W; go_simp; with_reducible rfl) ?_; try simp only [Act.put, List.setIfInBounds_toArray, List.set_cons_zero, List.set_cons_succ]
    refine wpAnyZ_take (Stands.steady (fun g => g = f)) 14 (v := ?_) rfl (by kernel_rfl) (by kernel_rfl) (by kernel_rfl) (by kernel_rfl) (fun _ _ _ h => h) (by rfl) (by intro W hSw; have hS0 := Stands.trans (show Stands (fun g => g = f) w0 _ from by repeat first | with_reducible assumption | with_reducible exact Stands.refl _ _ | with_reducible refine Stands.alloc ?_ _ | with_reducible refine Stands.drew ?_ | with_reducible refine Stands.drewL ?_ | with_reducible refine Stands.setCell ?_ (by assumption) _ _ | assumption | refine Stands.trans ?_ (by assumption)) hSw; go_simp; with_reducible rfl) ?_; try simp only [Act.put, List.setIfInBounds_toArray, List.set_cons_zero, List.set_cons_succ]
    refine wpAnyZ_pure (Stands.steady (fun g => g = f)) 15 (v := ?_) rfl (by kernel_rfl) (by kernel_rfl) (by kernel_rfl) (fun _ _ _ h => h) (by rfl) (by intro W; go_simp; with_reducible rfl) ?_; try simp only [Act.put, List.setIfInBounds_toArray, List.set_cons_zero, List.set_cons_succ]
    refine wpAnyZ_pure (Stands.steady (fun g => g = f)) 16 (v := ?_) rfl (by kernel_rfl) (by kernel_rfl) (by kernel_rfl) (fun _ _ _ h => h) (by rfl) (by intro W; go_simp; with_reducible rfl) ?_; try simp only [Act.put, List.setIfInBounds_toArray, List.set_cons_zero, List.set_cons_succ]
    refine wpAnyZ_pure (Stands.steady (fun g => g = f)) 17 (v := ?_) rfl (by kernel_rfl) (by kernel_rfl) (by kernel_rfl) (fun _ _ _ h => h) (by rfl) (by intro W; go_simp; with_reducible rfl) ?_; try simp only [Act.put, List.setIfInBounds_toArray, List.set_cons_zero, List.set_cons_succ]
    refine wpAnyZ_pure (Stands.steady (fun g => g = f)) 18 (v := ?_) rfl (by kernel_rfl) (by kernel_rfl) (by kernel_rfl) (fun _ _ _ h => h) (by rfl) (by intro W; go_simp; with_reducible rfl) ?_; try simp only [Act.put, List.setIfInBounds_toArray, List.set_cons_zero, List.set_cons_succ]
    refine wpAnyZ_take (Stands.steady (fun g => g = f)) 19 (v := ?_) rfl (by kernel_rfl) (by kernel_rfl) (by kernel_rfl) (by kernel_rfl) (fun _ _ _ h => h) (by rfl) (by intro W hSw; have hS0 := Stands.trans (show Stands (fun g => g = f) w0 _ from by repeat first | with_reducible assumption | with_reducible exact Stands.refl _ _ | with_reducible refine Stands.alloc ?_ _ | with_reducible refine Stands.drew ?_ | with_reducible refine Stands.drewL ?_ | with_reducible refine Stands.setCell ?_ (by assumption) _ _ | assumption | refine Stands.trans ?_ (by assumption)) hSw; go_simp; with_reducible rfl) ?_; try simp only [Act.put, List.setIfInBounds_toArray, List.set_cons_zero, List.set_cons_succ]
    refine wpAnyZ_pure (Stands.steady (fun g => g = f)) 20 (v := ?_) rfl (by kernel_rfl) (by kernel_rfl) (by kernel_rfl) (fun _ _ _ h => h) (by rfl) (by intro W; go_simp; with_reducible rfl) ?_; try simp only [Act.put, List.setIfInBounds_toArray, List.set_cons_zero, List.set_cons_succ]
    refine wpAnyZ_pure (Stands.steady (fun g => g = f)) 21 (v := ?_) rfl (by kernel_rfl) (by kernel_rfl) (by kernel_rfl) (fun _ _ _ h => h) (by rfl) (by intro W; go_simp; with_reducible rfl) ?_; try simp only [Act.put, List.setIfInBounds_toArray, List.set_cons_zero, List.set_cons_succ]
    refine wpAnyZ_two 22 23 (by kernel_rfl) rfl rfl (fun K hK => ?_) (fun K hK => ?_)
    rotate_right 1
    focus
      go_simp
      refine hK.out _ _ (.inr (by repeat first | with_reducible assumption | with_reducible exact Stands.refl _ _ | with_reducible refine Stands.alloc ?_ _ | with_reducible refine Stands.drew ?_ | with_reducible refine Stands.drewL ?_ | with_reducible refine Stands.setCell ?_ (by assumption) _ _ | assumption | refine Stands.of_later ?_)) ?_
      clear hK K; try simp only [Act.put, List.setIfInBounds_toArray, List.set_cons_zero, List.set_cons_succ]
      refine wpAnyZ_one 22 (by kernel_rfl) rfl (fun K hK => ?_)
      go_simp
      refine (hcl.out _ (by first | exact HW0.out.dr | exact (HW0.out.al _).dr)).mono ?_; rintro e w6 ⟨A6, c6, rfl, ho6, hl6, hn6⟩; have hs6 : Stands (fun g => g = f) _ w6 := Stands.of_later hl6; have hl06 : Later w w6 := (by first | exact HW0.out.dr.trans hl6 | exact (HW0.out.al _).dr.trans hl6); have hr6 := later_row hl06 HRW.out; have y14 : w6.cell? ⟨f, 14, none⟩ = some (.pointer none) := cell_of_row _ _ 14 _ _ (0, 0) hr6; have yf14 := frozen_of_row _ _ 14 _ _ hr6; have ylt := theap_lt hr6
      refine hK.out _ _ (by repeat first | with_reducible assumption | with_reducible exact Stands.refl _ _ | with_reducible refine Stands.alloc ?_ _ | with_reducible refine Stands.drew ?_ | with_reducible refine Stands.drewL ?_ | with_reducible refine Stands.setCell ?_ (by assumption) _ _ | assumption | refine Stands.of_later ?_) ?_
      clear hK K; try simp only [Act.put, List.setIfInBounds_toArray, List.set_cons_zero, List.set_cons_succ]
      refine wpAnyZ_pure (Stands.steady (fun g => g = f)) 24 (v := ?_) rfl (by kernel_rfl) (by kernel_rfl) (by kernel_rfl) (fun _ _ _ h => h) (by rfl) (by intro W; go_simp; with_reducible rfl) ?_; try simp only [Act.put, List.setIfInBounds_toArray, List.set_cons_zero, List.set_cons_succ]
      refine wpAnyZ_one 25 (by kernel_rfl) rfl (fun K hK => ?_)
      go_simp
      refine hK.out _ _ (by repeat first | with_reducible assumption | with_reducible exact Stands.refl _ _ | with_reducible refine Stands.alloc ?_ _ | with_reducible refine Stands.drew ?_ | with_reducible refine Stands.drewL ?_ | with_reducible refine Stands.setCell ?_ (by assumption) _ _ | assumption | refine Stands.of_later ?_) ?_
      clear hK K; try simp only [Act.put, List.setIfInBounds_toArray, List.set_cons_zero, List.set_cons_succ]
      refine wpAnyZ_pure (Stands.steady (fun g => g = f)) 26 (v := ?_) rfl (by kernel_rfl) (by kernel_rfl) (by kernel_rfl) (fun _ _ _ h => h) (by rfl) (by intro W; go_simp; with_reducible rfl) ?_; try simp only [Act.put, List.setIfInBounds_toArray, List.set_cons_zero, List.set_cons_succ]
      refine wpAnyZ_pure (Stands.steady (fun g => g = f)) 27 (v := ?_) rfl (by kernel_rfl) (by kernel_rfl) (by kernel_rfl) (fun _ _ _ h => h) (by rfl) (by intro W; go_simp; with_reducible rfl) ?_; try simp only [Act.put, List.setIfInBounds_toArray, List.set_cons_zero, List.set_cons_succ]
      refine wpAnyZ_loud 28 (by kernel_rfl) (by rfl) rfl (fun K hK => ?_)
      go_simp
      refine hK.out _ _ ?_
      clear hK K; try simp only [Act.put, List.setIfInBounds_toArray, List.set_cons_zero, List.set_cons_succ]
      refine wpAnyZ_done (by kernel_rfl) ?_ _
    rotate_right 1
    focus
      go_simp
      refine (hcl.out _ (by first | exact HW0.out.dr | exact (HW0.out.al _).dr)).mono ?_; rintro e w6 ⟨A6, c6, rfl, ho6, hl6, hn6⟩; have hs6 : Stands (fun g => g = f) _ w6 := Stands.of_later hl6; have hl06 : Later w w6 := (by first | exact HW0.out.dr.trans hl6 | exact (HW0.out.al _).dr.trans hl6); have hr6 := later_row hl06 HRW.out; have y14 : w6.cell? ⟨f, 14, none⟩ = some (.pointer none) := cell_of_row _ _ 14 _ _ (0, 0) hr6; have yf14 := frozen_of_row _ _ 14 _ _ hr6; have ylt := theap_lt hr6
      refine hK.out _ _ (.inr (by repeat first | with_reducible assumption | with_reducible exact Stands.refl _ _ | with_reducible refine Stands.alloc ?_ _ | with_reducible refine Stands.drew ?_ | with_reducible refine Stands.drewL ?_ | with_reducible refine Stands.setCell ?_ (by assumption) _ _ | assumption | refine Stands.of_later ?_)) ?_
      clear hK K; try simp only [Act.put, List.setIfInBounds_toArray, List.set_cons_zero, List.set_cons_succ]
      refine wpAnyZ_one 23 (by kernel_rfl) rfl (fun K hK => ?_)
      go_simp
      refine hK.out _ _ (by repeat first | with_reducible assumption | with_reducible exact Stands.refl _ _ | with_reducible refine Stands.alloc ?_ _ | with_reducible refine Stands.drew ?_ | with_reducible refine Stands.drewL ?_ | with_reducible refine Stands.setCell ?_ (by assumption) _ _ | assumption | refine Stands.of_later ?_) ?_
      clear hK K; try simp only [Act.put, List.setIfInBounds_toArray, List.set_cons_zero, List.set_cons_succ]
      refine wpAnyZ_pure (Stands.steady (fun g => g = f)) 24 (v := ?_) rfl (by kernel_rfl) (by kernel_rfl) (by kernel_rfl) (fun _ _ _ h => h) (by rfl) (by intro W; go_simp; with_reducible rfl) ?_; try simp only [Act.put, List.setIfInBounds_toArray, List.set_cons_zero, List.set_cons_succ]
      refine wpAnyZ_one 25 (by kernel_rfl) rfl (fun K hK => ?_)
      go_simp
      refine hK.out _ _ (by repeat first | with_reducible assumption | with_reducible exact Stands.refl _ _ | with_reducible refine Stands.alloc ?_ _ | with_reducible refine Stands.drew ?_ | with_reducible refine Stands.drewL ?_ | with_reducible refine Stands.setCell ?_ (by assumption) _ _ | assumption | refine Stands.of_later ?_) ?_
      clear hK K; try simp only [Act.put, List.setIfInBounds_toArray, List.set_cons_zero, List.set_cons_succ]
      refine wpAnyZ_pure (Stands.steady (fun g => g = f)) 26 (v := ?_) rfl (by kernel_rfl) (by kernel_rfl) (by kernel_rfl) (fun _ _ _ h => h) (by rfl) (by intro W; go_simp; with_reducible rfl) ?_; try simp only [Act.put, List.setIfInBounds_toArray, List.set_cons_zero, List.set_cons_succ]
      refine wpAnyZ_pure (Stands.steady (fun g => g = f)) 27 (v := ?_) rfl (by kernel_rfl) (by kernel_rfl) (by kernel_rfl) (fun _ _ _ h => h) (by rfl) (by intro W; go_simp; with_reducible rfl) ?_; try simp only [Act.put, List.setIfInBounds_toArray, List.set_cons_zero, List.set_cons_succ]
      refine wpAnyZ_loud 28 (by kernel_rfl) (by rfl) rfl (fun K hK => ?_)
      go_simp
      refine hK.out _ _ ?_
      clear hK K; try simp only [Act.put, List.setIfInBounds_toArray, List.set_cons_zero, List.set_cons_succ]
      refine wpAnyZ_done (by kernel_rfl) ?_ _
    all_goals (
      first
        | (have hM := opM_1 (s := s) (cc := cc) (st := st) (Aq := Aq) (nq := nq) (cq := cq) hl06 HRW.out ho6 (by have := HW0.out.size; simp; omega); refine OpM.go (P := Exit.then _ _ _ _) hM ?_; clear hM)
        | (have hM := opM_2 (s := s) (cc := cc) (st := st) (Aq := Aq) (nq := nq) (cq := cq) HW0.out hl6 HRW.out ho6 (by have := HW0.out.size; simp; omega) hw00.symm; refine OpM.go (P := Exit.then _ _ _ _) hM ?_; clear hM)
      clear k7 k8 k11 hmm
      intro Wm hM
      have c11 : Wm.cell? ⟨f, 11, none⟩ = some (.slice Aq nq cq) := cell_of_row _ _ 11 _ _ (0, 0) hM.rf
      have HM := hide_ hM
      clear hM
      have hcl2 : ∀ W', Later Wm W' → Calls Tryz.prog 65 #[.slice (if cq = n then Aq else Aq.map (·.add (n * 5))) (nq - n) (cq - n)] W' (ClonePost W' 120 5 (nq - n) (if cq = n then Aq else Aq.map (·.add (n * 5))) ((rows.drop n).flatten)) := fun W' hl => clone_job (by
        have hb := HM.out.hh.own HOQ.out fun g hg e => by
          have h1 := (own_block HOQ.out hg).2.2
          obtain ⟨cs, h1⟩ := h1
          exact bats_ne h1 HRW.out (by decide) e
        have h1 := (Rd.of_own hb).cut hnq b2
        rw [rflat_drop HRQ.out.each] at h1
        exact h1.below hl) (Rows.one (HRQ.out.drop n)) (by omega) (fun e => by
          have h1 := (own_cap2 HOQ.out).1
          split at e
          · have := h1 e; omega
          · rcases Aq with _ | a
            · have := h1 rfl; omega
            · cases e)
      have HCL2 := hide_ hcl2
      clear hcl2
      by_cases hcn : cq = n
      · subst hcn
        go_wp2_with fail
        go_at_call 65
        have h2 := HCL2.out Wm (Later.refl _)
        have hz : nq - cq = 0 := by omega
        have hz2 : cq - cq = 0 := by omega
        simp only [if_true, hz, hz2] at h2
        refine h2.mono ?_
        rintro e w7 ⟨A7, c7, rfl, ho7, hl7, hn7⟩
        have hr7 := later_row hl7 HM.out.rf
        have y11 : w7.cell? ⟨f, 11, none⟩ = some (.slice Aq nq _) := cell_of_row _ _ 11 _ _ (0, 0) hr7
        have yf11 := frozen_of_row _ _ 11 _ _ hr7
        have ylt := theap_lt hr7
        obtain ⟨hz7, hfz7, hz9, hfz9⟩ := open_cells hr7 (.slice A7 (0) c7) (.int .i64 (s.version + st))
        go_wp2_with fail
        obtain ⟨X', g1, g2, g3⟩ := open_end2 HP.out HX.out HND.out HXP.out HXQ.out HRQ.out HNQ.out HST.out hz.symm HN4.out HM.out hl7 ho7 (Nat.le_refl _)
        refine (resolve_any g1 rfl (openOk HOK.out)).mono ?_
        rintro e w9 ⟨A9, n9, c9, Y, rfl, hL, hS, hY, hl9⟩
        go_wp2_with fail
        go_ret
        exact ⟨A9, n9, c9, Y, X', _, rfl, hL, hS, hY, g2.size, g1.lt, g1.later hl9, g2.thenLater hl9, g3⟩
      · have hcl3 : ∀ W', Later Wm W' → Calls Tryz.prog 65 #[.slice (Aq.map (·.add (n * 5))) (nq - n) (cq - n)] W' (ClonePost W' 120 5 (nq - n) (Aq.map (·.add (n * 5))) ((rows.drop n).flatten)) := by
          intro W' hl; have h2 := HCL2.out W' hl; rw [if_neg hcn] at h2; exact h2
        go_wp2_with fail
        go_at_call 65
        refine (hcl3 Wm (Later.refl _)).mono ?_
        rintro e w7 ⟨A7, c7, rfl, ho7, hl7, hn7⟩
        have hr7 := later_row hl7 HM.out.rf
        have y11 : w7.cell? ⟨f, 11, none⟩ = some (.slice Aq nq _) := cell_of_row _ _ 11 _ _ (0, 0) hr7
        have yf11 := frozen_of_row _ _ 11 _ _ hr7
        have ylt := theap_lt hr7
        obtain ⟨hz7, hfz7, hz9, hfz9⟩ := open_cells hr7 (.slice A7 (nq - n) c7) (.int .i64 (s.version + st))
        go_wp2_with fail
        obtain ⟨X', g1, g2, g3⟩ := open_end2 HP.out HX.out HND.out HXP.out HXQ.out HRQ.out HNQ.out HST.out rfl HN4.out HM.out hl7 ho7 (Nat.le_refl _)
        refine (resolve_any g1 rfl (openOk HOK.out)).mono ?_
        rintro e w9 ⟨A9, n9, c9, Y, rfl, hL, hS, hY, hl9⟩
        go_wp2_with fail
        go_ret
        exact ⟨A9, n9, c9, Y, X', _, rfl, hL, hS, hY, g2.size, g1.lt, g1.later hl9, g2.thenLater hl9, g3⟩)

end Go.Proofs.YtcmollfhlillfaaGreatDoor
