/-
  Texts of this seat in one: FrPsd.
-/
import Derived.Test.YtcmollfhlillfaaGreatDoorM38
/-
  front: pushed.
-/
namespace Go.Proofs.YtcmollfhlillfaaGreatDoor
open Go.RowKit
set_option linter.unusedVariables false
set_option linter.unusedSimpArgs false
def doneOne (s : Fr) (b : Bt) (x : Jb × Int) : Msg := tellM s x.1.guest x.1.seq (if x.2 = 1 then 1 else if x.2 = 2 then 2 else 3) (if x.2 = 1 then b.ver else 0)
def doneL (s : Fr) (b : Bt) (V : List Int) : List Msg := (b.jobs.zip V).map (doneOne s b)
def pushedF (s : Fr) (frm a : Int) : Fr × List Msg := match s.cur with
  | none => (s, [])
  | some b => match b.verd with
    | none => (s, [])
    | some V => if a < b.ver ∨ s.chests.contains frm = false ∨ b.pushed.contains frm = true then (s, []) else
      if b.pushed.length + 1 < s.chests.length then ({ s with cur := some { b with pushed := b.pushed ++ [frm] }, stuck := 0 }, []) else
      ({ s with cur := none, stuck := 0, known := b.ver, owed := decide (0 < b.jobs.length) }, doneL s b V)
theorem CurAt.put15 {w : World} {f : Nat} {s : Fr} {X : List Nat} {cc : FrC} {bb : Nat} {b : Bt} {bc : BtC} {M : MP} {xs : List (List Nat)} (h : CurAt w f s X cc bb b bc M xs) :
    CurAt (w.setCell ⟨f, 15, none⟩ (.int .i64 0)) f { s with stuck := 0 } X cc bb b bc M xs ∧ Hits (· = f) w (w.setCell ⟨f, 15, none⟩ (.int .i64 0)) := by
  obtain ⟨hf, hbX, hmX, n1, n2, n3⟩ := h.mem
  have hcn : ∀ a, _ := h.cnt
  have hh : Hits (· = f) w (w.setCell ⟨f, 15, none⟩ (.int .i64 0)) := (Hits.refl (· = f) w).setCell (g := f) (fun _ => rfl) 15 _
  have nf : ∀ Y : List Nat, (∀ a, Y.count a + (if f = a then 1 else 0) ≤ 1) → ∀ k ∈ Y, ¬ k = f := fun Y hY k hk e => by
    have h1 := hY k
    have h2 := mem_count hk
    rw [if_pos e.symm] at h1; omega
  have hr := heap_setCell_same w f 15 _ _ (.int .i64 0) h.p.row
  have hbl : ∀ k ∈ bc.blocks, ¬ k = f := nf bc.blocks fun a => by have := hcn a; simp only [BtC.blocks, h.xm, cnt_cons, List.count_append]; omega
  have hnd : (cc.blocks f).Nodup := by rw [← h.hX]; exact h.nd
  exact ⟨⟨h.p.turn (s' := { s with stuck := 0 }) hnd ⟨rfl, rfl, rfl, rfl, rfl, rfl, rfl⟩ hh hr, h.hX, h.nd, h.up, h.bt.frame hh (fun e => n1 e.symm) hbl, h.xp, h.mm.hits hh (fun e => n2 e.symm), h.keys, h.rs.frame hh (nf xs.flatten fun a => by have := hcn a; omega), h.xm⟩, hh⟩
def doneTo (s : Fr) (b : Bt) (V : List Int) (k : Nat) : List Msg := ((b.jobs.zip V).take k).map (doneOne s b)
theorem doneTo_next {s : Fr} {b : Bt} {V : List Int} {k : Nat} {j : Jb} {v : Int} (hj : b.jobs[k]? = some j) (hv : V[k]? = some v) : doneTo s b V (k + 1) = doneTo s b V k ++ [doneOne s b (j, v)] := by
  have h : (b.jobs.zip V)[k]? = some (j, v) := List.getElem?_zip_eq_some.2 ⟨hj, hv⟩
  unfold doneTo; rw [take_snoc h, List.map_append]; rfl
theorem doneTo_len {s : Fr} {b : Bt} {V : List Int} {n k : Nat} (hn : n = b.jobs.length) (hv : V.length = n) (hk : k ≤ n) : (doneTo s b V k).length = k := by
  unfold doneTo; rw [List.length_map, List.length_take, List.length_zip]; omega
theorem doneTo_all {s : Fr} {b : Bt} {V : List Int} {n : Nat} (hn : n = b.jobs.length) : doneTo s b V n = doneL s b V := by
  unfold doneTo doneL; rw [List.take_of_length_le (by rw [List.length_zip]; omega)]
theorem tell_laid {w : World} {f : Nat} {s : Fr} {X : List Nat} {nd ep : Int} (h : FrH w f s X) (hn : s.node = nd) (he : s.epoch = ep) (guest seq outcome version : Int) :
    Calls Tryz.prog 56 #[.pointer (some ⟨f, 0, none⟩), .agg #[.int .i64 guest, .int .i64 seq], .int .i64 outcome, .int .i64 version] w fun e w' => e = .returned (.agg #[.int .i64 2, .int .i64 nd, .int .i64 guest, .int .i64 ep, .int .i64 seq, .int .i64 outcome, .int .i64 version, .slice none 0 0]) ∧ Later w w' := by
  subst hn he; exact tell_any h guest seq outcome version
theorem CurAt.btF {w w' : World} {f : Nat} {s : Fr} {X : List Nat} {cc : FrC} {bb : Nat} {b : Bt} {bc : BtC} {M : MP} {xs : List (List Nat)} (h : CurAt w f s X cc bb b bc M xs) (hh : Hits (· = f) w w') : BtH w' bb b bc := by
  obtain ⟨hf, hbX, hmX, n1, n2, n3⟩ := h.mem
  have hcn : ∀ a, _ := h.cnt
  have nf : ∀ Y : List Nat, (∀ a, Y.count a + (if f = a then 1 else 0) ≤ 1) → ∀ k ∈ Y, ¬ k = f := fun Y hY k hk e => by
    have h1 := hY k
    have h2 := mem_count hk
    rw [if_pos e.symm] at h1; omega
  have hbl : ∀ k ∈ bc.blocks, ¬ k = f := nf bc.blocks fun a => by have := hcn a; simp only [BtC.blocks, h.xm, cnt_cons, List.count_append]; omega
  exact h.bt.frame hh (fun e => n1 e.symm) hbl
structure PsdOk (s : Fr) : Prop where
  c : s.chests.length ≤ 1048576
  b : ∀ b, s.cur = some b → b.pushed.length ≤ 1048576 ∧ b.jobs.length ≤ 4096 ∧ ∀ V, b.verd = some V → V.length = b.jobs.length
set_option maxHeartbeats 8000000 in
set_option maxRecDepth 100000 in
theorem pushed_any {w : World} {f : Nat} {s : Fr} {X : List Nat} (h : FrH w f s X) (hok : PsdOk s) (k frm to_ e0 a b0 c0 : Int) (Av : Option Addr) (nv cv : Nat) :
    Calls Tryz.prog 32 #[.pointer (some ⟨f, 0, none⟩), .agg #[.int .i64 k, .int .i64 frm, .int .i64 to_, .int .i64 e0, .int .i64 a, .int .i64 b0, .int .i64 c0, .slice Av nv cv]] w (TurnPost w f X (pushedF s frm a).1 (pushedF s frm a).2) := by
  obtain ⟨Wm, hW⟩ : ∃ Wm, Wm = w.alloc (.cells #[.int .i64 k, .int .i64 frm, .int .i64 to_, .int .i64 e0, .int .i64 a, .int .i64 b0, .int .i64 c0, .slice Av nv cv] 53) := ⟨_, rfl⟩
  have hl : Later w Wm := by rw [hW]; exact later_alloc _ _
  have hb : Wm.heap[w.heap.size]? = some (.cells #[.int .i64 k, .int .i64 frm, .int .i64 to_, .int .i64 e0, .int .i64 a, .int .i64 b0, .int .i64 c0, .slice Av nv cv] 53 (0, 0)) := by rw [hW]; exact heap_alloc_new _ _
  have hf := h.later hl
  have HF := hide_ hf; have HH := hide_ h; have HOK := hide_ hok; have HB := hide_ hb; have HL := hide_ hl; have HW := hide_ hW
  have HLD := hide_ (hl.trans (Later.refl Wm).dr)
  have HNO := hide_ (fun (L : List Msg) (hE : pushedF s frm a = (s, [])) => (show TurnPost w f X (pushedF s frm a).1 (pushedF s frm a).2 (.returned (.slice none 0 0)) Wm.drew by rw [hE]; exact turn_none (h.later HLD.out) (Hits.later HLD.out) (Fresh.refl _ _)))
  have k1 := later_drew_cell (show Wm.cell? ⟨w.heap.size, 1, none⟩ = some (.int .i64 frm) from cell_of_row _ _ 1 _ _ (0, 0) hb)
  have k4 := later_drew_cell (show Wm.cell? ⟨w.heap.size, 4, none⟩ = some (.int .i64 a) from cell_of_row _ _ 4 _ _ (0, 0) hb)
  cases hcur : s.cur with
  | none =>
    obtain ⟨cc, hp, _⟩ := hf
    have hcu := hp.cur
    rw [hcur] at hcu
    have hrow := hp.row
    unfold frCells at hrow
    rw [hcu.1] at hrow
    have c14 : Wm.cell? ⟨f, 14, none⟩ = some (.pointer none) := cell_of_row _ _ 14 _ _ (0, 0) hrow
    have HE := hide_ (show pushedF s frm a = (s, []) by unfold pushedF; rw [hcur])
    clear h hok hl hb hW hp hcu hrow hcur
    go_enter Tryz.func32, Tryz.ntmps32
    go_wp2_with (rw [← HW.out])
    refine wp_region_k (by kernel_rfl) ?_
    refine wKt 0 (v := ?_) rfl (by intro W hSw; go_simp; with_reducible rfl) ?_; try simp only [Act.put, qA, qZ, qS]
    refine wKt 1 (v := ?_) rfl (by intro W hSw; go_simp; with_reducible rfl) ?_; try simp only [Act.put, qA, qZ, qS]
    refine wKt 2 (v := ?_) rfl (by intro W hSw; go_simp; with_reducible rfl) ?_; try simp only [Act.put, qA, qZ, qS]
    refine wKs 3 rfl ?_; try simp only [Act.put, qA, qZ, qS]
    refine wKs 4 rfl ?_; try simp only [Act.put, qA, qZ, qS]
    refine wKs 5 rfl ?_; try simp only [Act.put, qA, qZ, qS]
    refine wKs 6 rfl ?_; try simp only [Act.put, qA, qZ, qS]
    refine wKs 7 rfl ?_; try simp only [Act.put, qA, qZ, qS]
    refine wKt 8 (v := ?_) rfl (by intro W hSw; go_simp; with_reducible rfl) ?_; try simp only [Act.put, qA, qZ, qS]
    refine wKt 9 (v := ?_) rfl (by intro W hSw; go_simp; with_reducible rfl) ?_; try simp only [Act.put, qA, qZ, qS]
    refine wKs 10 rfl ?_; try simp only [Act.put, qA, qZ, qS]
    refine wKs 11 rfl ?_; try simp only [Act.put, qA, qZ, qS]
    refine wKs 12 rfl ?_; try simp only [Act.put, qA, qZ, qS]
    refine wKs 13 rfl ?_; try simp only [Act.put, qA, qZ, qS]
    refine wKs 14 rfl ?_; try simp only [Act.put, qA, qZ, qS]
    refine wKs 15 rfl ?_; try simp only [Act.put, qA, qZ, qS]
    refine wKs 16 rfl ?_; try simp only [Act.put, qA, qZ, qS]
    refine wKs 17 rfl ?_; try simp only [Act.put, qA, qZ, qS]
    refine wKt 18 (v := ?_) rfl (by intro W hSw; go_simp; with_reducible rfl) ?_; try simp only [Act.put, qA, qZ, qS]
    refine wKt 19 (v := ?_) rfl (by intro W hSw; go_simp; with_reducible rfl) ?_; try simp only [Act.put, qA, qZ, qS]
    refine wKs 20 rfl ?_; try simp only [Act.put, qA, qZ, qS]
    refine wKs 21 rfl ?_; try simp only [Act.put, qA, qZ, qS]
    refine wKs 22 rfl ?_; try simp only [Act.put, qA, qZ, qS]
    refine wKs 23 rfl ?_; try simp only [Act.put, qA, qZ, qS]
    refine wKs 24 rfl ?_; try simp only [Act.put, qA, qZ, qS]
    refine wKs 25 rfl ?_; try simp only [Act.put, qA, qZ, qS]
    refine wKs 26 rfl ?_; try simp only [Act.put, qA, qZ, qS]
    refine wKs 27 rfl ?_; try simp only [Act.put, qA, qZ, qS]
    refine wKs 28 rfl ?_; try simp only [Act.put, qA, qZ, qS]
    refine wKt 29 (v := ?_) rfl (by intro W hSw; go_simp; with_reducible rfl) ?_; try simp only [Act.put, qA, qZ, qS]
    refine wKt 30 (v := ?_) rfl (by intro W hSw; go_simp; with_reducible rfl) ?_; try simp only [Act.put, qA, qZ, qS]
    refine wKs 31 rfl ?_; try simp only [Act.put, qA, qZ, qS]
    refine wKs 32 rfl ?_; try simp only [Act.put, qA, qZ, qS]
    refine wKs 33 rfl ?_; try simp only [Act.put, qA, qZ, qS]
    refine wKs 34 rfl ?_; try simp only [Act.put, qA, qZ, qS]
    refine wKs 35 rfl ?_; try simp only [Act.put, qA, qZ, qS]
    refine wKs 36 rfl ?_; try simp only [Act.put, qA, qZ, qS]
    refine wKs 37 rfl ?_; try simp only [Act.put, qA, qZ, qS]
    refine wKt 38 (v := ?_) rfl (by intro W hSw; go_simp; with_reducible rfl) ?_; try simp only [Act.put, qA, qZ, qS]
    refine wpAnyK_done (by kernel_rfl) ?_ _
    go_wp2_with fail
    go_ret
    exact HNO.out [] HE.out
  | some b =>
    obtain ⟨cc, bb, bc, M, xs, hca⟩ := cur_open hf hcur
    obtain ⟨hpl, hjl, hvl⟩ := hok.b b hcur
    have hrow := hca.p.row
    unfold frCells at hrow
    rw [hca.up] at hrow
    obtain ⟨vc, ec, oc, _⟩ := ints_holds.1 hca.p.chests
    injection ec with ec
    obtain ⟨Ac, kc, rfl⟩ := own_form oc
    rw [ec] at hrow
    obtain ⟨nc, hnc⟩ : ∃ n, n = s.chests.length := ⟨_, rfl⟩
    rw [← hnc] at hrow
    obtain ⟨vp, ep, op, _⟩ := ints_holds.1 hca.bt.pushed
    injection ep with ep
    obtain ⟨Ap, kp, rfl⟩ := own_form op
    obtain ⟨np, hnp⟩ : ∃ n, n = b.pushed.length := ⟨_, rfl⟩
    have hbrow := hca.bt.row
    rw [ep, ← hnp] at hbrow
    have c14 : Wm.cell? ⟨f, 14, none⟩ = some (.pointer (some ⟨bb, 0, none⟩)) := cell_of_row _ _ 14 _ _ (0, 0) hrow
    have k4c := later_drew_cell (show Wm.cell? ⟨f, 4, none⟩ = some (.slice Ac nc kc) from cell_of_row _ _ 4 _ _ (0, 0) hrow)
    have d1 := later_drew_cell (show Wm.cell? ⟨bb, 1, none⟩ = some (.int .i64 b.ver) from cell_of_row _ _ 1 _ _ (0, 0) hbrow)
    have d6 := later_drew_cell (show Wm.cell? ⟨bb, 6, none⟩ = some bc.uv from cell_of_row _ _ 6 _ _ (0, 0) hbrow)
    have d7 := later_drew_cell (show Wm.cell? ⟨bb, 7, none⟩ = some (.slice Ap np kp) from cell_of_row _ _ 7 _ _ (0, 0) hbrow)
    have hver := hca.bt.verd
    have flt := theap_lt hrow
    have blt := theap_lt hbrow
    have nc2 : nc ≤ 1048576 := by rw [hnc]; exact hok.c
    have np2 : np ≤ 1048576 := by rw [hnp]; exact hpl
    have HC1 := hide_ (fun W' (hl' : Later Wm.drew W') => contains_int (w := W') (c := kc) (n := nc) (L := s.chests) (by rw [hnc]; exact (Rd.of_own oc).below ((Later.refl Wm).dr.trans hl')) hnc.symm (by omega) frm)
    have HC2 := hide_ (fun W' (hl' : Later Wm.drew W') => contains_int (w := W') (c := kp) (n := np) (L := b.pushed) (by rw [hnp]; exact (Rd.of_own op).below ((Later.refl Wm).dr.trans hl')) hnp.symm (by omega) frm)
    have HCA := hide_ hca; have HRW := hide_ hrow; have HBW := hide_ hbrow; have HNC := hide_ hnc; have HNP := hide_ hnp; have HUP := hide_ ep; have HOP := hide_ op
    cases hvd : b.verd with
    | none =>
      rw [hvd] at hver
      rw [hver.1] at d6
      have HE := hide_ (show pushedF s frm a = (s, []) by unfold pushedF; rw [hcur]; simp only [hvd])
      clear h hok hl hb hW hf hcur hca hrow oc ec hnc hnp op ep hbrow hver hvd
      have hnil := fun W => eql_slice_nil_any (P := Tryz.prog) Tryz.underlying35 W none 0 0 0 0
      go_enter Tryz.func32, Tryz.ntmps32
      go_wp2_with (rw [← HW.out])
      refine wp_region_k (by kernel_rfl) ?_
      refine wKt 0 (v := ?_) rfl (by intro W hSw; go_simp; with_reducible rfl) ?_; try simp only [Act.put, qA, qZ, qS]
      refine wKt 1 (v := ?_) rfl (by intro W hSw; go_simp; with_reducible rfl) ?_; try simp only [Act.put, qA, qZ, qS]
      refine wKt 2 (v := ?_) rfl (by intro W hSw; go_simp; with_reducible rfl) ?_; try simp only [Act.put, qA, qZ, qS]
      refine wKt 3 (v := ?_) rfl (by intro W hSw; go_simp; with_reducible rfl) ?_; try simp only [Act.put, qA, qZ, qS]
      refine wKt 4 (v := ?_) rfl (by intro W hSw; go_simp; with_reducible rfl) ?_; try simp only [Act.put, qA, qZ, qS]
      refine wKt 5 (v := ?_) rfl (by intro W hSw; go_simp; with_reducible rfl) ?_; try simp only [Act.put, qA, qZ, qS]
      refine wKt 6 (v := ?_) rfl (by intro W hSw; go_simp; with_reducible rfl) ?_; try simp only [Act.put, qA, qZ, qS]
      refine wKt 7 (v := ?_) rfl (by intro W hSw; go_simp; with_reducible rfl) ?_; try simp only [Act.put, qA, qZ, qS]
      refine wKt 8 (v := ?_) rfl (by intro W hSw; go_simp; with_reducible rfl) ?_; try simp only [Act.put, qA, qZ, qS]
      refine wKt 9 (v := ?_) rfl (by intro W hSw; go_simp; with_reducible rfl) ?_; try simp only [Act.put, qA, qZ, qS]
      refine wKs 10 rfl ?_; try simp only [Act.put, qA, qZ, qS]
      refine wKs 11 rfl ?_; try simp only [Act.put, qA, qZ, qS]
      refine wKs 12 rfl ?_; try simp only [Act.put, qA, qZ, qS]
      refine wKs 13 rfl ?_; try simp only [Act.put, qA, qZ, qS]
      refine wKs 14 rfl ?_; try simp only [Act.put, qA, qZ, qS]
      refine wKs 15 rfl ?_; try simp only [Act.put, qA, qZ, qS]
      refine wKs 16 rfl ?_; try simp only [Act.put, qA, qZ, qS]
      refine wKs 17 rfl ?_; try simp only [Act.put, qA, qZ, qS]
      refine wKt 18 (v := ?_) rfl (by intro W hSw; go_simp; with_reducible rfl) ?_; try simp only [Act.put, qA, qZ, qS]
      refine wKt 19 (v := ?_) rfl (by intro W hSw; go_simp; with_reducible rfl) ?_; try simp only [Act.put, qA, qZ, qS]
      refine wKs 20 rfl ?_; try simp only [Act.put, qA, qZ, qS]
      refine wKs 21 rfl ?_; try simp only [Act.put, qA, qZ, qS]
      refine wKs 22 rfl ?_; try simp only [Act.put, qA, qZ, qS]
      refine wKs 23 rfl ?_; try simp only [Act.put, qA, qZ, qS]
      refine wKs 24 rfl ?_; try simp only [Act.put, qA, qZ, qS]
      refine wKs 25 rfl ?_; try simp only [Act.put, qA, qZ, qS]
      refine wKs 26 rfl ?_; try simp only [Act.put, qA, qZ, qS]
      refine wKs 27 rfl ?_; try simp only [Act.put, qA, qZ, qS]
      refine wKs 28 rfl ?_; try simp only [Act.put, qA, qZ, qS]
      refine wKt 29 (v := ?_) rfl (by intro W hSw; go_simp; with_reducible rfl) ?_; try simp only [Act.put, qA, qZ, qS]
      refine wKt 30 (v := ?_) rfl (by intro W hSw; go_simp; with_reducible rfl) ?_; try simp only [Act.put, qA, qZ, qS]
      refine wKs 31 rfl ?_; try simp only [Act.put, qA, qZ, qS]
      refine wKs 32 rfl ?_; try simp only [Act.put, qA, qZ, qS]
      refine wKs 33 rfl ?_; try simp only [Act.put, qA, qZ, qS]
      refine wKs 34 rfl ?_; try simp only [Act.put, qA, qZ, qS]
      refine wKs 35 rfl ?_; try simp only [Act.put, qA, qZ, qS]
      refine wKs 36 rfl ?_; try simp only [Act.put, qA, qZ, qS]
      refine wKs 37 rfl ?_; try simp only [Act.put, qA, qZ, qS]
      refine wKt 38 (v := ?_) rfl (by intro W hSw; go_simp; with_reducible rfl) ?_; try simp only [Act.put, qA, qZ, qS]
      refine wpAnyK_done (by kernel_rfl) ?_ _
      go_wp2_with fail
      go_ret
      exact HNO.out [] HE.out
    | some V =>
      rw [hvd] at hver
      obtain ⟨hvi, va, vn, vc, euv⟩ := hver
      rw [euv] at d6 hvi
      have HE := hide_ (show pushedF s frm a = if a < b.ver ∨ s.chests.contains frm = false ∨ b.pushed.contains frm = true then (s, []) else
        if b.pushed.length + 1 < s.chests.length then ({ s with cur := some { b with pushed := b.pushed ++ [frm] }, stuck := 0 }, []) else
        ({ s with cur := none, stuck := 0, known := b.ver, owed := decide (0 < b.jobs.length) }, doneL s b V) by unfold pushedF; rw [hcur]; simp only [hvd])
      have HVL := hide_ (hvl V hvd); have HVI := hide_ hvi; have HUV := hide_ euv; have HVD := hide_ hvd; have HCUR := hide_ hcur; have HJL := hide_ hjl
      clear h hok hl hb hW hf hcur hca hrow oc ec hnc hnp op ep hbrow hvi euv hvd hvl hjl
      have hnil := fun W => eql_slice_nil_any (P := Tryz.prog) Tryz.underlying35 W (some va) vn vc 0 0
      go_enter Tryz.func32, Tryz.ntmps32
      go_wp2_with (rw [← HW.out])
      by_cases hav : a < b.ver
      · have HAV := hide_ hav
        refine wp_region_k (by kernel_rfl) ?_
        refine wKt 0 (v := ?_) rfl (by intro W hSw; go_simp; with_reducible rfl) ?_; try simp only [Act.put, qA, qZ, qS]
        refine wKt 1 (v := ?_) rfl (by intro W hSw; go_simp; with_reducible rfl) ?_; try simp only [Act.put, qA, qZ, qS]
        refine wKt 2 (v := ?_) rfl (by intro W hSw; go_simp; with_reducible rfl) ?_; try simp only [Act.put, qA, qZ, qS]
        refine wKt 3 (v := ?_) rfl (by intro W hSw; go_simp; with_reducible rfl) ?_; try simp only [Act.put, qA, qZ, qS]
        refine wKt 4 (v := ?_) rfl (by intro W hSw; go_simp; with_reducible rfl) ?_; try simp only [Act.put, qA, qZ, qS]
        refine wKt 5 (v := ?_) rfl (by intro W hSw; go_simp; with_reducible rfl) ?_; try simp only [Act.put, qA, qZ, qS]
        refine wKt 6 (v := ?_) rfl (by intro W hSw; go_simp; with_reducible rfl) ?_; try simp only [Act.put, qA, qZ, qS]
        refine wKt 7 (v := ?_) rfl (by intro W hSw; go_simp; with_reducible rfl) ?_; try simp only [Act.put, qA, qZ, qS]
        refine wKt 8 (v := ?_) rfl (by intro W hSw; go_simp; with_reducible rfl) ?_; try simp only [Act.put, qA, qZ, qS]
        refine wKt 9 (v := ?_) rfl (by intro W hSw; go_simp; with_reducible rfl) ?_; try simp only [Act.put, qA, qZ, qS]
        refine wKt 10 (v := ?_) rfl (by intro W hSw; go_simp; with_reducible rfl) ?_; try simp only [Act.put, qA, qZ, qS]
        refine wKt 11 (v := ?_) rfl (by intro W hSw; go_simp; with_reducible rfl) ?_; try simp only [Act.put, qA, qZ, qS]
        refine wKt 12 (v := ?_) rfl (by intro W hSw; go_simp; with_reducible rfl) ?_; try simp only [Act.put, qA, qZ, qS]
        refine wKt 13 (v := ?_) rfl (by intro W hSw; go_simp; with_reducible rfl) ?_; try simp only [Act.put, qA, qZ, qS]
        refine wKt 14 (v := ?_) rfl (by intro W hSw; go_simp; with_reducible rfl) ?_; try simp only [Act.put, qA, qZ, qS]
        refine wKt 15 (v := ?_) rfl (by intro W hSw; go_simp; with_reducible rfl) ?_; try simp only [Act.put, qA, qZ, qS]
        refine wKt 16 (v := ?_) rfl (by intro W hSw; go_simp; with_reducible rfl) ?_; try simp only [Act.put, qA, qZ, qS]
        refine wKt 17 (v := ?_) rfl (by intro W hSw; go_simp; with_reducible rfl) ?_; try simp only [Act.put, qA, qZ, qS]
        refine wKt 18 (v := ?_) rfl (by intro W hSw; go_simp; with_reducible rfl) ?_; try simp only [Act.put, qA, qZ, qS]
        refine wKt 19 (v := ?_) rfl (by intro W hSw; go_simp; with_reducible rfl) ?_; try simp only [Act.put, qA, qZ, qS]
        refine wKs 20 rfl ?_; try simp only [Act.put, qA, qZ, qS]
        refine wKs 21 rfl ?_; try simp only [Act.put, qA, qZ, qS]
        refine wKs 22 rfl ?_; try simp only [Act.put, qA, qZ, qS]
        refine wKs 23 rfl ?_; try simp only [Act.put, qA, qZ, qS]
        refine wKs 24 rfl ?_; try simp only [Act.put, qA, qZ, qS]
        refine wKs 25 rfl ?_; try simp only [Act.put, qA, qZ, qS]
        refine wKs 26 rfl ?_; try simp only [Act.put, qA, qZ, qS]
        refine wKs 27 rfl ?_; try simp only [Act.put, qA, qZ, qS]
        refine wKs 28 rfl ?_; try simp only [Act.put, qA, qZ, qS]
        refine wKt 29 (v := ?_) rfl (by intro W hSw; go_simp; with_reducible rfl) ?_; try simp only [Act.put, qA, qZ, qS]
        refine wKt 30 (v := ?_) rfl (by intro W hSw; go_simp; with_reducible rfl) ?_; try simp only [Act.put, qA, qZ, qS]
        refine wKs 31 rfl ?_; try simp only [Act.put, qA, qZ, qS]
        refine wKs 32 rfl ?_; try simp only [Act.put, qA, qZ, qS]
        refine wKs 33 rfl ?_; try simp only [Act.put, qA, qZ, qS]
        refine wKs 34 rfl ?_; try simp only [Act.put, qA, qZ, qS]
        refine wKs 35 rfl ?_; try simp only [Act.put, qA, qZ, qS]
        refine wKs 36 rfl ?_; try simp only [Act.put, qA, qZ, qS]
        refine wKs 37 rfl ?_; try simp only [Act.put, qA, qZ, qS]
        refine wKt 38 (v := ?_) rfl (by intro W hSw; go_simp; with_reducible rfl) ?_; try simp only [Act.put, qA, qZ, qS]
        refine wpAnyK_done (by kernel_rfl) ?_ _
        go_wp2_with fail
        go_ret
        exact HNO.out [] (HE.out.trans (if_pos (.inl HAV.out)))
      · have HAV := hide_ hav
        obtain ⟨b1, hb1⟩ : ∃ b, b = s.chests.contains frm := ⟨_, rfl⟩
        obtain ⟨b2, hb2⟩ : ∃ q, q = b.pushed.contains frm := ⟨_, rfl⟩
        rw [← hb1] at HC1; rw [← hb2] at HC2
        have HB1 := hide_ hb1; have HB2 := hide_ hb2
        clear hb1 hb2
        cases b1 with
        | false =>
          refine wp_region_k (by kernel_rfl) ?_
          refine wKt 0 (v := ?_) rfl (by intro W hSw; go_simp; with_reducible rfl) ?_; try simp only [Act.put, qA, qZ, qS]
          refine wKt 1 (v := ?_) rfl (by intro W hSw; go_simp; with_reducible rfl) ?_; try simp only [Act.put, qA, qZ, qS]
          refine wKt 2 (v := ?_) rfl (by intro W hSw; go_simp; with_reducible rfl) ?_; try simp only [Act.put, qA, qZ, qS]
          refine wKt 3 (v := ?_) rfl (by intro W hSw; go_simp; with_reducible rfl) ?_; try simp only [Act.put, qA, qZ, qS]
          refine wKt 4 (v := ?_) rfl (by intro W hSw; go_simp; with_reducible rfl) ?_; try simp only [Act.put, qA, qZ, qS]
          refine wKt 5 (v := ?_) rfl (by intro W hSw; go_simp; with_reducible rfl) ?_; try simp only [Act.put, qA, qZ, qS]
          refine wKt 6 (v := ?_) rfl (by intro W hSw; go_simp; with_reducible rfl) ?_; try simp only [Act.put, qA, qZ, qS]
          refine wKt 7 (v := ?_) rfl (by intro W hSw; go_simp; with_reducible rfl) ?_; try simp only [Act.put, qA, qZ, qS]
          refine wKt 8 (v := ?_) rfl (by intro W hSw; go_simp; with_reducible rfl) ?_; try simp only [Act.put, qA, qZ, qS]
          refine wKt 9 (v := ?_) rfl (by intro W hSw; go_simp; with_reducible rfl) ?_; try simp only [Act.put, qA, qZ, qS]
          refine wKt 10 (v := ?_) rfl (by intro W hSw; go_simp; with_reducible rfl) ?_; try simp only [Act.put, qA, qZ, qS]
          refine wKt 11 (v := ?_) rfl (by intro W hSw; go_simp; with_reducible rfl) ?_; try simp only [Act.put, qA, qZ, qS]
          refine wKt 12 (v := ?_) rfl (by intro W hSw; go_simp; with_reducible rfl) ?_; try simp only [Act.put, qA, qZ, qS]
          refine wKt 13 (v := ?_) rfl (by intro W hSw; go_simp; with_reducible rfl) ?_; try simp only [Act.put, qA, qZ, qS]
          refine wKt 14 (v := ?_) rfl (by intro W hSw; go_simp; with_reducible rfl) ?_; try simp only [Act.put, qA, qZ, qS]
          refine wKt 15 (v := ?_) rfl (by intro W hSw; go_simp; with_reducible rfl) ?_; try simp only [Act.put, qA, qZ, qS]
          refine wKt 16 (v := ?_) rfl (by intro W hSw; go_simp; with_reducible rfl) ?_; try simp only [Act.put, qA, qZ, qS]
          refine wKt 17 (v := ?_) rfl (by intro W hSw; go_simp; with_reducible rfl) ?_; try simp only [Act.put, qA, qZ, qS]
          refine wKt 18 (v := ?_) rfl (by intro W hSw; go_simp; with_reducible rfl) ?_; try simp only [Act.put, qA, qZ, qS]
          refine wKt 19 (v := ?_) rfl (by intro W hSw; go_simp; with_reducible rfl) ?_; try simp only [Act.put, qA, qZ, qS]
          refine wKt 20 (v := ?_) rfl (by intro W hSw; go_simp; with_reducible rfl) ?_; try simp only [Act.put, qA, qZ, qS]
          refine wKt 21 (v := ?_) rfl (by intro W hSw; go_simp; with_reducible rfl) ?_; try simp only [Act.put, qA, qZ, qS]
          refine wKt 22 (v := ?_) rfl (by intro W hSw; go_simp; with_reducible rfl) ?_; try simp only [Act.put, qA, qZ, qS]
          refine wKt 23 (v := ?_) rfl (by intro W hSw; go_simp; with_reducible rfl) ?_; try simp only [Act.put, qA, qZ, qS]
          refine wKt 24 (v := ?_) rfl (by intro W hSw; go_simp; with_reducible rfl) ?_; try simp only [Act.put, qA, qZ, qS]
          refine wKt 25 (v := ?_) rfl (by intro W hSw; go_simp; with_reducible rfl) ?_; try simp only [Act.put, qA, qZ, qS]
          refine wKt 26 (v := ?_) rfl (by intro W hSw; go_simp; with_reducible rfl) ?_; try simp only [Act.put, qA, qZ, qS]
          refine wpAnyK_one 27 (by kernel_rfl) rfl (fun K hK => ?_)
          go_simp
          refine (HC1.out _ (Later.refl _)).mono ?_; rintro e w5 ⟨rfl, rfl⟩; have hl5 := Later.refl Wm.drew
          refine hK.out _ _ (by assumption) ?_
          clear hK K; try simp only [Act.put, qA, qZ, qS]
          refine wKt 28 (v := ?_) rfl (by intro W hSw; go_simp; with_reducible rfl) ?_; try simp only [Act.put, qA, qZ, qS]
          refine wKt 29 (v := ?_) rfl (by intro W hSw; go_simp; with_reducible rfl) ?_; try simp only [Act.put, qA, qZ, qS]
          refine wKt 30 (v := ?_) rfl (by intro W hSw; go_simp; with_reducible rfl) ?_; try simp only [Act.put, qA, qZ, qS]
          refine wKs 31 rfl ?_; try simp only [Act.put, qA, qZ, qS]
          refine wKs 32 rfl ?_; try simp only [Act.put, qA, qZ, qS]
          refine wKs 33 rfl ?_; try simp only [Act.put, qA, qZ, qS]
          refine wKs 34 rfl ?_; try simp only [Act.put, qA, qZ, qS]
          refine wKs 35 rfl ?_; try simp only [Act.put, qA, qZ, qS]
          refine wKs 36 rfl ?_; try simp only [Act.put, qA, qZ, qS]
          refine wKs 37 rfl ?_; try simp only [Act.put, qA, qZ, qS]
          refine wKt 38 (v := ?_) rfl (by intro W hSw; go_simp; with_reducible rfl) ?_; try simp only [Act.put, qA, qZ, qS]
          refine wpAnyK_done (by kernel_rfl) ?_ _
          go_wp2_with fail
          go_ret
          exact HNO.out [] (HE.out.trans (if_pos (.inr (.inl HB1.out.symm))))
        | true =>
          refine wp_region_k (by kernel_rfl) ?_
          refine wKt 0 (v := ?_) rfl (by intro W hSw; go_simp; with_reducible rfl) ?_; try simp only [Act.put, qA, qZ, qS]
          refine wKt 1 (v := ?_) rfl (by intro W hSw; go_simp; with_reducible rfl) ?_; try simp only [Act.put, qA, qZ, qS]
          refine wKt 2 (v := ?_) rfl (by intro W hSw; go_simp; with_reducible rfl) ?_; try simp only [Act.put, qA, qZ, qS]
          refine wKt 3 (v := ?_) rfl (by intro W hSw; go_simp; with_reducible rfl) ?_; try simp only [Act.put, qA, qZ, qS]
          refine wKt 4 (v := ?_) rfl (by intro W hSw; go_simp; with_reducible rfl) ?_; try simp only [Act.put, qA, qZ, qS]
          refine wKt 5 (v := ?_) rfl (by intro W hSw; go_simp; with_reducible rfl) ?_; try simp only [Act.put, qA, qZ, qS]
          refine wKt 6 (v := ?_) rfl (by intro W hSw; go_simp; with_reducible rfl) ?_; try simp only [Act.put, qA, qZ, qS]
          refine wKt 7 (v := ?_) rfl (by intro W hSw; go_simp; with_reducible rfl) ?_; try simp only [Act.put, qA, qZ, qS]
          refine wKt 8 (v := ?_) rfl (by intro W hSw; go_simp; with_reducible rfl) ?_; try simp only [Act.put, qA, qZ, qS]
          refine wKt 9 (v := ?_) rfl (by intro W hSw; go_simp; with_reducible rfl) ?_; try simp only [Act.put, qA, qZ, qS]
          refine wKt 10 (v := ?_) rfl (by intro W hSw; go_simp; with_reducible rfl) ?_; try simp only [Act.put, qA, qZ, qS]
          refine wKt 11 (v := ?_) rfl (by intro W hSw; go_simp; with_reducible rfl) ?_; try simp only [Act.put, qA, qZ, qS]
          refine wKt 12 (v := ?_) rfl (by intro W hSw; go_simp; with_reducible rfl) ?_; try simp only [Act.put, qA, qZ, qS]
          refine wKt 13 (v := ?_) rfl (by intro W hSw; go_simp; with_reducible rfl) ?_; try simp only [Act.put, qA, qZ, qS]
          refine wKt 14 (v := ?_) rfl (by intro W hSw; go_simp; with_reducible rfl) ?_; try simp only [Act.put, qA, qZ, qS]
          refine wKt 15 (v := ?_) rfl (by intro W hSw; go_simp; with_reducible rfl) ?_; try simp only [Act.put, qA, qZ, qS]
          refine wKt 16 (v := ?_) rfl (by intro W hSw; go_simp; with_reducible rfl) ?_; try simp only [Act.put, qA, qZ, qS]
          refine wKt 17 (v := ?_) rfl (by intro W hSw; go_simp; with_reducible rfl) ?_; try simp only [Act.put, qA, qZ, qS]
          refine wKt 18 (v := ?_) rfl (by intro W hSw; go_simp; with_reducible rfl) ?_; try simp only [Act.put, qA, qZ, qS]
          refine wKt 19 (v := ?_) rfl (by intro W hSw; go_simp; with_reducible rfl) ?_; try simp only [Act.put, qA, qZ, qS]
          refine wKt 20 (v := ?_) rfl (by intro W hSw; go_simp; with_reducible rfl) ?_; try simp only [Act.put, qA, qZ, qS]
          refine wKt 21 (v := ?_) rfl (by intro W hSw; go_simp; with_reducible rfl) ?_; try simp only [Act.put, qA, qZ, qS]
          refine wKt 22 (v := ?_) rfl (by intro W hSw; go_simp; with_reducible rfl) ?_; try simp only [Act.put, qA, qZ, qS]
          refine wKt 23 (v := ?_) rfl (by intro W hSw; go_simp; with_reducible rfl) ?_; try simp only [Act.put, qA, qZ, qS]
          refine wKt 24 (v := ?_) rfl (by intro W hSw; go_simp; with_reducible rfl) ?_; try simp only [Act.put, qA, qZ, qS]
          refine wKt 25 (v := ?_) rfl (by intro W hSw; go_simp; with_reducible rfl) ?_; try simp only [Act.put, qA, qZ, qS]
          refine wKt 26 (v := ?_) rfl (by intro W hSw; go_simp; with_reducible rfl) ?_; try simp only [Act.put, qA, qZ, qS]
          refine wpAnyK_one 27 (by kernel_rfl) rfl (fun K hK => ?_)
          go_simp
          refine (HC1.out _ (Later.refl _)).mono ?_; rintro e w5 ⟨rfl, rfl⟩; have hl5 := Later.refl Wm.drew
          refine hK.out _ _ (by assumption) ?_
          clear hK K; try simp only [Act.put, qA, qZ, qS]
          refine wKt 28 (v := ?_) rfl (by intro W hSw; go_simp; with_reducible rfl) ?_; try simp only [Act.put, qA, qZ, qS]
          refine wKt 29 (v := ?_) rfl (by intro W hSw; go_simp; with_reducible rfl) ?_; try simp only [Act.put, qA, qZ, qS]
          refine wKt 30 (v := ?_) rfl (by intro W hSw; go_simp; with_reducible rfl) ?_; try simp only [Act.put, qA, qZ, qS]
          refine wKt 31 (v := ?_) rfl (by intro W hSw; go_simp; with_reducible rfl) ?_; try simp only [Act.put, qA, qZ, qS]
          refine wKt 32 (v := ?_) rfl (by intro W hSw; go_simp; with_reducible rfl) ?_; try simp only [Act.put, qA, qZ, qS]
          refine wKt 33 (v := ?_) rfl (by intro W hSw; go_simp; with_reducible rfl) ?_; try simp only [Act.put, qA, qZ, qS]
          refine wKt 34 (v := ?_) rfl (by intro W hSw; go_simp; with_reducible rfl) ?_; try simp only [Act.put, qA, qZ, qS]
          refine wKt 35 (v := ?_) rfl (by intro W hSw; go_simp; with_reducible rfl) ?_; try simp only [Act.put, qA, qZ, qS]
          refine wKt 36 (v := ?_) rfl (by intro W hSw; go_simp; with_reducible rfl) ?_; try simp only [Act.put, qA, qZ, qS]
          refine wpAnyK_one 37 (by kernel_rfl) rfl (fun K hK => ?_)
          go_simp
          refine (HC2.out _ (Later.refl _)).mono ?_; rintro e w6 ⟨rfl, rfl⟩; have hl6 := Later.refl Wm.drew
          refine hK.out _ _ (by assumption) ?_
          clear hK K; try simp only [Act.put, qA, qZ, qS]
          refine wKt 38 (v := ?_) rfl (by intro W hSw; go_simp; with_reducible rfl) ?_; try simp only [Act.put, qA, qZ, qS]
          refine wpAnyK_done (by kernel_rfl) ?_ _
          cases b2 with
          | true =>
            go_wp2_with fail
            go_ret
            exact HNO.out [] (HE.out.trans (if_pos (.inr (.inr HB2.out.symm))))
          | false =>
            clear k1 k4 k4c d1 d6 d7 hnil HC1 HC2
            have hca1 := HCA.out.later (Later.refl Wm).dr
            have hb1 := later_row (Later.refl Wm).dr HB.out
            have hrw1 := later_row (Later.refl Wm).dr HRW.out
            have hbw1 := later_row (Later.refl Wm).dr HBW.out
            have hop1 := own_later HOP.out (Later.refl Wm).dr
            obtain ⟨W1, hW1⟩ : ∃ W, W = Wm.drew := ⟨_, rfl⟩
            rw [← hW1] at hca1 hb1 hrw1 hbw1 hop1 ⊢
            have HL1 := hide_ (show Later w W1 by rw [hW1]; exact HLD.out)
            clear hW1
            have z1 : W1.cell? ⟨w.heap.size, 1, none⟩ = some (.int .i64 frm) := cell_of_row _ _ 1 _ _ (0, 0) hb1
            have z7 : W1.cell? ⟨bb, 7, none⟩ = some (.slice Ap np kp) := cell_of_row _ _ 7 _ _ (0, 0) hbw1
            have k1 := Stands.cell (X := fun q => q = w.heap.size ∨ q = bb) z1 (.inl rfl)
            have k7 := Stands.cell (X := fun q => q = w.heap.size ∨ q = bb) z7 (.inr rfl)
            have HC1 := hide_ hca1; have HBW1 := hide_ hbw1
            have HOA := hide_ (show W1.ownsRow 0 3 1 (.slice Ap np kp) np (ints b.pushed) by rw [HNP.out]; exact hop1)
            have HXL := hide_ HH.out.lt
            have HNG := hide_ (show ∀ q, (Value.slice Ap np kp).ownBlock = some q → q ∈ X ∧ q ≠ bb from fun q hq => by
              obtain ⟨v0, e0, _, hxp⟩ := ints_holds.1 hca1.bt.pushed
              injection e0 with e0
              rw [← e0, HUP.out, ← HNP.out] at hxp
              have h2 := mem_count (mem_obL.2 hq)
              rw [← hxp] at h2
              refine ⟨?_, fun e => ?_⟩
              · rw [hca1.hX]
                refine List.count_pos_iff.1 ?_
                simp only [FrC.blocks, hca1.xp, BtC.blocks, cnt_cons, List.count_append]; omega
              · have h3 := hca1.cnt q
                rw [if_pos (show bb = q from e.symm)] at h3; omega)
            clear hca1 hb1 hrw1 hbw1 hop1 z1 z7
            go_wp2_with fail
            refine wp_region_z (R := Stands (fun q => q = w.heap.size ∨ q = bb)) [11] (by kernel_rfl) ?_
            refine wpAnyZ_pure (Stands.steady (fun q => q = w.heap.size ∨ q = bb)) 0 (v := ?_) rfl (by kernel_rfl) (by kernel_rfl) (by kernel_rfl) (fun _ _ _ h => h) (by rfl) (by intro W; go_simp; with_reducible rfl) ?_; try simp only [Act.put, qA, qZ, qS]
            refine wpAnyZ_pure (Stands.steady (fun q => q = w.heap.size ∨ q = bb)) 1 (v := ?_) rfl (by kernel_rfl) (by kernel_rfl) (by kernel_rfl) (fun _ _ _ h => h) (by rfl) (by intro W; go_simp; with_reducible rfl) ?_; try simp only [Act.put, qA, qZ, qS]
            refine wpAnyZ_pure (Stands.steady (fun q => q = w.heap.size ∨ q = bb)) 2 (v := ?_) rfl (by kernel_rfl) (by kernel_rfl) (by kernel_rfl) (fun _ _ _ h => h) (by rfl) (by intro W; go_simp; with_reducible rfl) ?_; try simp only [Act.put, qA, qZ, qS]
            refine wpAnyZ_pure (Stands.steady (fun q => q = w.heap.size ∨ q = bb)) 3 (v := ?_) rfl (by kernel_rfl) (by kernel_rfl) (by kernel_rfl) (fun _ _ _ h => h) (by rfl) (by intro W; go_simp; with_reducible rfl) ?_; try simp only [Act.put, qA, qZ, qS]
            refine wpAnyZ_take (Stands.steady (fun q => q = w.heap.size ∨ q = bb)) 4 (v := ?_) rfl (by kernel_rfl) (by kernel_rfl) (by kernel_rfl) (by kernel_rfl) (fun _ _ _ h => h) (by rfl) (by intro W hSw; have hS0 := Stands.trans (show Stands (fun q => q = w.heap.size ∨ q = bb) W1 _ from by repeat first | with_reducible assumption | with_reducible exact Stands.refl _ _ | with_reducible refine Stands.alloc ?_ _ | with_reducible refine Stands.drew ?_ | with_reducible refine Stands.drewL ?_ | with_reducible refine Stands.setCell ?_ (by assumption) _ _ | assumption | refine Stands.trans ?_ (by assumption)) hSw; go_simp; with_reducible rfl) ?_; try simp only [Act.put, qA, qZ, qS]
            refine wpAnyZ_pure (Stands.steady (fun q => q = w.heap.size ∨ q = bb)) 5 (v := ?_) rfl (by kernel_rfl) (by kernel_rfl) (by kernel_rfl) (fun _ _ _ h => h) (by rfl) (by intro W; go_simp; with_reducible rfl) ?_; try simp only [Act.put, qA, qZ, qS]
            refine wpAnyZ_take (Stands.steady (fun q => q = w.heap.size ∨ q = bb)) 6 (v := ?_) rfl (by kernel_rfl) (by kernel_rfl) (by kernel_rfl) (by kernel_rfl) (fun _ _ _ h => h) (by rfl) (by intro W hSw; have hS0 := Stands.trans (show Stands (fun q => q = w.heap.size ∨ q = bb) W1 _ from by repeat first | with_reducible assumption | with_reducible exact Stands.refl _ _ | with_reducible refine Stands.alloc ?_ _ | with_reducible refine Stands.drew ?_ | with_reducible refine Stands.drewL ?_ | with_reducible refine Stands.setCell ?_ (by assumption) _ _ | assumption | refine Stands.trans ?_ (by assumption)) hSw; go_simp; with_reducible rfl) ?_; try simp only [Act.put, qA, qZ, qS]
            refine wpAnyZ_one 7 (by kernel_rfl) rfl (fun K hK => ?_)
            go_simp
            refine hK.out _ _ (by repeat first | with_reducible assumption | with_reducible exact Stands.refl _ _ | with_reducible refine Stands.alloc ?_ _ | with_reducible refine Stands.drew ?_ | with_reducible refine Stands.drewL ?_ | with_reducible refine Stands.setCell ?_ (by assumption) _ _ | assumption | refine Stands.of_later ?_) ?_
            clear hK K; try simp only [Act.put, qA, qZ, qS]
            refine wpAnyZ_one 8 (by kernel_rfl) rfl (fun K hK => ?_)
            refine step_append_rd (by rfl) (.tmp 56) (.tmp 59) 35 rfl 0 3 1 8 intT (.slice Ap np kp) np (ints b.pushed) rfl ((HOA.out.drew).alloc _) (some ⟨W1.heap.size, 0, none⟩) 1 1 [.int .i64 frm] rfl (Rd.newAt W1.drew #[.int .i64 frm] 3 1 1 _ (0, 0) rfl rfl) (fun u hu => by rw [List.mem_singleton.1 hu]; rfl) (by omega) (by unfold maxLen; omega) (Nat.zero_le _) (fun h => by cases h) ?_; intro v9 w9 hown9 hg9 hat9; obtain ⟨A9, c9, rfl⟩ := own_form hown9; have hs9 : Stands (fun q => q = w.heap.size ∨ q = bb) _ w9 := (Hits.grown (F := fun q => (Value.slice Ap np kp).ownBlock = some q) (Hits.refl _ _) hg9 (fun q hq _ => hq)).stands (fun q _ hq hx => by rcases hx with e | e; (have h1 := HXL.out q (HNG.out q hq).1; omega); exact (HNG.out q hq).2 e); have hs89 := ((Stands.refl (fun q => q = w.heap.size ∨ q = bb) W1).drew.alloc _).trans hs9; have gf9 : w9.frozen? ⟨bb, 7, none⟩ = false := frozen_of_row _ _ 7 _ _ (hs89.2 bb _ (.inr rfl) HBW1.out); have kc9 : w9.cell? ⟨bb, 7, none⟩ = some (.slice Ap np kp) := k7 _ hs89
            refine hK.out _ _ (by repeat first | with_reducible assumption | with_reducible exact Stands.refl _ _ | with_reducible refine Stands.alloc ?_ _ | with_reducible refine Stands.drew ?_ | with_reducible refine Stands.drewL ?_ | with_reducible refine Stands.setCell ?_ (by assumption) _ _ | assumption | refine Stands.of_later ?_) ?_
            clear hK K; try simp only [Act.put, qA, qZ, qS]
            refine wpAnyZ_pure (Stands.steady (fun q => q = w.heap.size ∨ q = bb)) 9 (v := ?_) rfl (by kernel_rfl) (by kernel_rfl) (by kernel_rfl) (fun _ _ _ h => h) (by rfl) (by intro W; go_simp; with_reducible rfl) ?_; try simp only [Act.put, qA, qZ, qS]
            refine wpAnyZ_pure (Stands.steady (fun q => q = w.heap.size ∨ q = bb)) 10 (v := ?_) rfl (by kernel_rfl) (by kernel_rfl) (by kernel_rfl) (fun _ _ _ h => h) (by rfl) (by intro W; go_simp; with_reducible rfl) ?_; try simp only [Act.put, qA, qZ, qS]
            refine wpAnyZ_loud 11 (by kernel_rfl) (by rfl) rfl (fun K hK => ?_)
            go_simp
            refine hK.out _ _ ?_
            clear hK K; try simp only [Act.put, qA, qZ, qS]
            refine wpAnyZ_done (by kernel_rfl) ?_ _
            have hput := pushed_grow (HC1.out.later (((Later.refl W1).dr).al (.cells #[.int .i64 frm] 3))) HUP.out frm (A' := A9) (c' := c9) (by rw [ints_snoc, ← HNP.out]; exact hown9) (by rw [← HNP.out]; exact hg9) (by rw [← HNP.out]; exact hat9)
            rw [← HNP.out] at hput
            obtain ⟨X1, cc3, bc3, hca10, hh10, hfr10⟩ := hput
            have HH10 := hide_ (show Hits (· ∈ X) w (w9.setCell ⟨bb, 7, none⟩ (.slice A9 (np + 1) c9)) from (Hits.later (HL1.out.trans (((Later.refl W1).dr).al _))).trans hh10 fun _ _ h => h)
            have HF10 := hide_ (show Fresh w X X1 from fun q hq => by
              rcases hfr10 q hq with h1 | h1
              · exact .inl h1
              · exact .inr (Nat.le_trans (HL1.out.trans (((Later.refl W1).dr).al (.cells #[.int .i64 frm] 3))).size h1))
            have hbw10 : (w9.setCell ⟨bb, 7, none⟩ (.slice A9 (np + 1) c9)).cell? ⟨bb, 7, none⟩ = some (.slice A9 (np + 1) c9) := cell_of_row _ _ 7 _ _ (0, 0) (heap_setCell_same w9 bb 7 _ _ (.slice A9 (np + 1) c9) (hs89.2 bb _ (.inr rfl) HBW1.out))
            obtain ⟨W10, hW10⟩ : ∃ W, W = w9.setCell ⟨bb, 7, none⟩ (.slice A9 (np + 1) c9) := ⟨_, rfl⟩
            rw [← hW10] at hca10 HH10 hbw10 ⊢
            have hc15 := hca10.put15
            have y15 : W10.cell? ⟨f, 15, none⟩ = some (.int .i64 s.stuck) := cell_of_row _ _ 15 _ _ (0, 0) hca10.p.row
            have yf15 := frozen_of_row _ _ 15 _ _ hca10.p.row
            have hnf : bb ≠ f := fun e => hca10.mem.2.2.2.1 e.symm
            have hbw11 : (W10.setCell ⟨f, 15, none⟩ (.int .i64 0)).cell? ⟨bb, 7, none⟩ = some (.slice A9 (np + 1) c9) := hc15.2.cell hbw10 hnf
            have HC15 := hide_ hc15; have HBW11 := hide_ hbw11
            clear hca10 hh10 hfr10 hown9 hg9 hat9 hs9 hs89 gf9 kc9 hW10 k1 k7 hc15 hbw10 hnf hbw11
            go_upto_region 6 with (fail)
            obtain ⟨W11, hW11⟩ : ∃ W, W = W10.setCell ⟨f, 15, none⟩ (.int .i64 0) := ⟨_, rfl⟩
            rw [← hW11] at HC15 HBW11 ⊢
            obtain ⟨Ac2, kc2, ec2⟩ := slice_len HC15.out.1.p.chests
            injection ec2 with ec2
            have hrow11 := HC15.out.1.p.row
            unfold frCells at hrow11
            rw [ec2] at hrow11
            have k7 := later_drew_cell HBW11.out
            have k4 := later_drew_cell (show W11.cell? ⟨f, 4, none⟩ = some (.slice Ac2 nc kc2) from by rw [HNC.out]; exact cell_of_row _ _ 4 _ _ (0, 0) hrow11)
            have HH11 := hide_ (turn_step HH10.out HF10.out (HC15.out.2.mono fun q _ hq => by rw [hq]; exact HC15.out.1.mem.1))
            have e1 : ((np + 1 : Nat) : Int) = (np : Int) + 1 := by omega
            clear hW11 hrow11 ec2 y15 yf15
            go_wp2_with fail
            refine wp_region_k (by kernel_rfl) ?_
            refine wKt 0 (v := ?_) rfl (by intro W hSw; go_simp; with_reducible rfl) ?_; try simp only [Act.put, qA, qZ, qS]
            refine wKt 1 (v := ?_) rfl (by intro W hSw; go_simp; with_reducible rfl) ?_; try simp only [Act.put, qA, qZ, qS]
            refine wKt 2 (v := ?_) rfl (by intro W hSw; go_simp; with_reducible rfl) ?_; try simp only [Act.put, qA, qZ, qS]
            refine wKt 3 (v := ?_) rfl (by intro W hSw; go_simp; with_reducible rfl) ?_; try simp only [Act.put, qA, qZ, qS]
            refine wKt 4 (v := ?_) rfl (by intro W hSw; go_simp; with_reducible rfl) ?_; try simp only [Act.put, qA, qZ, qS]
            refine wKt 5 (v := ?_) rfl (by intro W hSw; go_simp; with_reducible rfl) ?_; try simp only [Act.put, qA, qZ, qS]
            refine wKt 6 (v := ?_) rfl (by intro W hSw; go_simp; with_reducible rfl) ?_; try simp only [Act.put, qA, qZ, qS]
            refine wKt 7 (v := ?_) rfl (by intro W hSw; go_simp; with_reducible rfl) ?_; try simp only [Act.put, qA, qZ, qS]
            refine wKt 8 (v := ?_) rfl (by intro W hSw; go_simp; with_reducible rfl) ?_; try simp only [Act.put, qA, qZ, qS]
            refine wKt 9 (v := ?_) rfl (by intro W hSw; go_simp; with_reducible rfl) ?_; try simp only [Act.put, qA, qZ, qS]
            refine wKt 10 (v := ?_) rfl (by intro W hSw; go_simp; with_reducible rfl) ?_; try simp only [Act.put, qA, qZ, qS]
            refine wKt 11 (v := ?_) rfl (by intro W hSw; go_simp; with_reducible rfl) ?_; try simp only [Act.put, qA, qZ, qS]
            refine wpAnyK_done (by kernel_rfl) ?_ _
            have HE2 := hide_ (HE.out.trans (if_neg (by rw [← HB1.out, ← HB2.out]; intro h; rcases h with h | h | h; (have h9 := HAV.out; omega); cases h; cases h)))
            have HCZ := hide_ (HC15.out.1.later (Later.refl W11).dr)
            have HHZ := hide_ (HH11.out.thenLater (Later.refl W11).dr)
            by_cases hlt : np + 1 < nc
            · have HE3 := hide_ (HE2.out.trans (if_pos (by rw [← HNP.out, ← HNC.out]; exact hlt)))
              have q6 : (np : Int) + 1 < (nc : Int) := by omega
              clear hlt
              go_wp2_with fail
              go_ret
              rw [HE3.out]
              exact turn_none HCZ.out.front HHZ.out HF10.out
            · have HE3 := hide_ (HE2.out.trans (if_neg (by rw [← HNP.out, ← HNC.out]; exact hlt)))
              have q6 : ¬ (np : Int) + 1 < (nc : Int) := by omega
              clear hlt k7 k4
              obtain ⟨Wz, hWz⟩ : ∃ W, W = W11.drew := ⟨_, rfl⟩
              rw [← hWz] at HCZ HHZ ⊢
              clear hWz
              obtain ⟨Aj, cj, ej⟩ := slice_len HCZ.out.bt.jobs
              injection ej with ej
              have hbz := HCZ.out.bt.row
              rw [ej] at hbz
              obtain ⟨nj, hnj⟩ : ∃ n, n = b.jobs.length := ⟨_, rfl⟩
              have hbz1 : Wz.cell? ⟨bb, 1, none⟩ = some (.int .i64 b.ver) := cell_of_row _ _ 1 _ _ (0, 0) hbz
              have hbz4 : Wz.cell? ⟨bb, 4, none⟩ = some (.slice Aj nj cj) := by rw [hnj]; exact cell_of_row _ _ 4 _ _ (0, 0) hbz
              have k1 := Stands.cell (X := fun q => q = bb) hbz1 rfl
              have k4 := Stands.cell (X := fun q => q = bb) hbz4 rfl
              have hrz := HCZ.out.p.row
              have r1 := heap_setCell_same Wz f 8 _ _ (.int .i64 b.ver) hrz
              have r2 := heap_setCell_same _ f 14 _ _ (.pointer none) r1
              have y8 : Wz.cell? ⟨f, 8, none⟩ = some (.int .i64 s.known) := cell_of_row Wz f 8 _ _ (0, 0) hrz
              have f8 : Wz.frozen? ⟨f, 8, none⟩ = false := frozen_of_row Wz f 8 _ _ hrz
              have y14 : (Wz.setCell ⟨f, 8, none⟩ (.int .i64 b.ver)).cell? ⟨f, 14, none⟩ = some cc3.up := cell_of_row _ _ 14 _ _ (0, 0) r1
              have f14 := frozen_of_row _ _ 14 _ _ r1
              have y9 : ((Wz.setCell ⟨f, 8, none⟩ (.int .i64 b.ver)).setCell ⟨f, 14, none⟩ (.pointer none)).cell? ⟨f, 9, none⟩ = some (.bool s.owed) := cell_of_row _ _ 9 _ _ (0, 0) r2
              have f9 := frozen_of_row _ _ 9 _ _ r2
              have HNJ := hide_ hnj; have HEJ := hide_ ej
              clear hnj ej hbz hbz1 hbz4 hrz r1 r2
              go_wp2_with fail
              refine wp_region_z (R := Stands (fun q => q = bb)) [16, 19, 22] (by kernel_rfl) ?_
              refine wpAnyZ_pure (Stands.steady (fun q => q = bb)) 0 (v := ?_) rfl (by kernel_rfl) (by kernel_rfl) (by kernel_rfl) (fun _ _ _ h => h) (by rfl) (by intro W; go_simp; with_reducible rfl) ?_; try simp only [Act.put, qA, qZ, qS]
              refine wpAnyZ_pure (Stands.steady (fun q => q = bb)) 1 (v := ?_) rfl (by kernel_rfl) (by kernel_rfl) (by kernel_rfl) (fun _ _ _ h => h) (by rfl) (by intro W; go_simp; with_reducible rfl) ?_; try simp only [Act.put, qA, qZ, qS]
              refine wpAnyZ_pure (Stands.steady (fun q => q = bb)) 2 (v := ?_) rfl (by kernel_rfl) (by kernel_rfl) (by kernel_rfl) (fun _ _ _ h => h) (by rfl) (by intro W; go_simp; with_reducible rfl) ?_; try simp only [Act.put, qA, qZ, qS]
              refine wpAnyZ_pure (Stands.steady (fun q => q = bb)) 3 (v := ?_) rfl (by kernel_rfl) (by kernel_rfl) (by kernel_rfl) (fun _ _ _ h => h) (by rfl) (by intro W; go_simp; with_reducible rfl) ?_; try simp only [Act.put, qA, qZ, qS]
              refine wpAnyZ_pure (Stands.steady (fun q => q = bb)) 4 (v := ?_) rfl (by kernel_rfl) (by kernel_rfl) (by kernel_rfl) (fun _ _ _ h => h) (by rfl) (by intro W; go_simp; with_reducible rfl) ?_; try simp only [Act.put, qA, qZ, qS]
              refine wpAnyZ_pure (Stands.steady (fun q => q = bb)) 5 (v := ?_) rfl (by kernel_rfl) (by kernel_rfl) (by kernel_rfl) (fun _ _ _ h => h) (by rfl) (by intro W; go_simp; with_reducible rfl) ?_; try simp only [Act.put, qA, qZ, qS]
              refine wpAnyZ_pure (Stands.steady (fun q => q = bb)) 6 (v := ?_) rfl (by kernel_rfl) (by kernel_rfl) (by kernel_rfl) (fun _ _ _ h => h) (by rfl) (by intro W; go_simp; with_reducible rfl) ?_; try simp only [Act.put, qA, qZ, qS]
              refine wpAnyZ_take (Stands.steady (fun q => q = bb)) 7 (v := ?_) rfl (by kernel_rfl) (by kernel_rfl) (by kernel_rfl) (by kernel_rfl) (fun _ _ _ h => h) (by rfl) (by intro W hSw; have hS0 := Stands.trans (show Stands (fun q => q = bb) Wz _ from by repeat first | with_reducible assumption | with_reducible exact Stands.refl _ _ | with_reducible refine Stands.alloc ?_ _ | with_reducible refine Stands.drew ?_ | with_reducible refine Stands.drewL ?_ | with_reducible refine Stands.setCell ?_ (by assumption) _ _ | assumption | refine Stands.trans ?_ (by assumption)) hSw; go_simp; with_reducible rfl) ?_; try simp only [Act.put, qA, qZ, qS]
              refine wpAnyZ_pure (Stands.steady (fun q => q = bb)) 8 (v := ?_) rfl (by kernel_rfl) (by kernel_rfl) (by kernel_rfl) (fun _ _ _ h => h) (by rfl) (by intro W; go_simp; with_reducible rfl) ?_; try simp only [Act.put, qA, qZ, qS]
              refine wpAnyZ_pure (Stands.steady (fun q => q = bb)) 9 (v := ?_) rfl (by kernel_rfl) (by kernel_rfl) (by kernel_rfl) (fun _ _ _ h => h) (by rfl) (by intro W; go_simp; with_reducible rfl) ?_; try simp only [Act.put, qA, qZ, qS]
              refine wpAnyZ_pure (Stands.steady (fun q => q = bb)) 10 (v := ?_) rfl (by kernel_rfl) (by kernel_rfl) (by kernel_rfl) (fun _ _ _ h => h) (by rfl) (by intro W; go_simp; with_reducible rfl) ?_; try simp only [Act.put, qA, qZ, qS]
              refine wpAnyZ_take (Stands.steady (fun q => q = bb)) 11 (v := ?_) rfl (by kernel_rfl) (by kernel_rfl) (by kernel_rfl) (by kernel_rfl) (fun _ _ _ h => h) (by rfl) (by intro W hSw; have hS0 := Stands.trans (show Stands (fun q => q = bb) Wz _ from by repeat first | with_reducible assumption | with_reducible exact Stands.refl _ _ | with_reducible refine Stands.alloc ?_ _ | with_reducible refine Stands.drew ?_ | with_reducible refine Stands.drewL ?_ | with_reducible refine Stands.setCell ?_ (by assumption) _ _ | assumption | refine Stands.trans ?_ (by assumption)) hSw; go_simp; with_reducible rfl) ?_; try simp only [Act.put, qA, qZ, qS]
              refine wpAnyZ_pure (Stands.steady (fun q => q = bb)) 12 (v := ?_) rfl (by kernel_rfl) (by kernel_rfl) (by kernel_rfl) (fun _ _ _ h => h) (by rfl) (by intro W; go_simp; with_reducible rfl) ?_; try simp only [Act.put, qA, qZ, qS]
              refine wpAnyZ_pure (Stands.steady (fun q => q = bb)) 13 (v := ?_) rfl (by kernel_rfl) (by kernel_rfl) (by kernel_rfl) (fun _ _ _ h => h) (by rfl) (by intro W; go_simp; with_reducible rfl) ?_; try simp only [Act.put, qA, qZ, qS]
              refine wpAnyZ_pure (Stands.steady (fun q => q = bb)) 14 (v := ?_) rfl (by kernel_rfl) (by kernel_rfl) (by kernel_rfl) (fun _ _ _ h => h) (by rfl) (by intro W; go_simp; with_reducible rfl) ?_; try simp only [Act.put, qA, qZ, qS]
              refine wpAnyZ_pure (Stands.steady (fun q => q = bb)) 15 (v := ?_) rfl (by kernel_rfl) (by kernel_rfl) (by kernel_rfl) (fun _ _ _ h => h) (by rfl) (by intro W; go_simp; with_reducible rfl) ?_; try simp only [Act.put, qA, qZ, qS]
              refine wpAnyZ_loud 16 (by kernel_rfl) (by rfl) rfl (fun K hK => ?_)
              go_simp
              refine hK.out _ _ ?_
              clear hK K; try simp only [Act.put, qA, qZ, qS]
              refine wpAnyZ_pure (Stands.steady (fun q => q = bb)) 17 (v := ?_) rfl (by kernel_rfl) (by kernel_rfl) (by kernel_rfl) (fun _ _ _ h => h) (by rfl) (by intro W; go_simp; with_reducible rfl) ?_; try simp only [Act.put, qA, qZ, qS]
              refine wpAnyZ_pure (Stands.steady (fun q => q = bb)) 18 (v := ?_) rfl (by kernel_rfl) (by kernel_rfl) (by kernel_rfl) (fun _ _ _ h => h) (by rfl) (by intro W; go_simp; with_reducible rfl) ?_; try simp only [Act.put, qA, qZ, qS]
              refine wpAnyZ_loud 19 (by kernel_rfl) (by rfl) rfl (fun K hK => ?_)
              go_simp
              refine hK.out _ _ ?_
              clear hK K; try simp only [Act.put, qA, qZ, qS]
              refine wpAnyZ_pure (Stands.steady (fun q => q = bb)) 20 (v := ?_) rfl (by kernel_rfl) (by kernel_rfl) (by kernel_rfl) (fun _ _ _ h => h) (by rfl) (by intro W; go_simp; with_reducible rfl) ?_; try simp only [Act.put, qA, qZ, qS]
              refine wpAnyZ_pure (Stands.steady (fun q => q = bb)) 21 (v := ?_) rfl (by kernel_rfl) (by kernel_rfl) (by kernel_rfl) (fun _ _ _ h => h) (by rfl) (by intro W; go_simp; with_reducible rfl) ?_; try simp only [Act.put, qA, qZ, qS]
              refine wpAnyZ_loud 22 (by kernel_rfl) (by rfl) rfl (fun K hK => ?_)
              go_simp
              refine hK.out _ _ ?_
              clear hK K; try simp only [Act.put, qA, qZ, qS]
              refine wpAnyZ_done (by kernel_rfl) ?_ _
              obtain ⟨W2, hW2⟩ : ∃ W, W = ((Wz.setCell ⟨f, 8, none⟩ (.int .i64 b.ver)).setCell ⟨f, 14, none⟩ (.pointer none)).setCell ⟨f, 9, none⟩ (.bool (decide (0 < nj))) := ⟨_, rfl⟩
              have hcd := cur_done HCZ.out b.ver (decide (0 < nj)) hW2
              rw [← hW2]
              obtain ⟨X2, hfd, hhd, hsub⟩ := hcd
              have HHD := hide_ ((turn_step HHZ.out HF10.out (hhd.mono fun q _ hq => by rw [hq]; exact HCZ.out.mem.1)).thenLater (Later.refl W2).dr)
              have HF2 := hide_ (show Fresh w X X2 from fun q hq => HF10.out q (hsub q hq))
              have hbt2 := (HCZ.out.btF hhd).frame (Hits.later (F := fun _ => False) (Later.refl W2).dr) (fun h => h) (fun _ _ h => h)
              have hfd2 := hfd.later (Later.refl W2).dr
              obtain ⟨Wd, hWd⟩ : ∃ W, W = W2.drew := ⟨_, rfl⟩
              rw [← hWd] at hbt2 hfd2 HHD ⊢
              have HFD := hide_ hfd2
              have HBT := hide_ hbt2
              clear hW2 hWd hfd hhd hsub hbt2 hfd2 y8 f8 y14 f14 y9 f9 k1 k4
              have hbz := HBT.out.row
              rw [HEJ.out] at hbz
              have hvr : VerdH Wd bc3.uv b.verd bc3.Xv := HBT.out.verd
              rw [HVD.out] at hvr
              obtain ⟨hvi3, va3, vn3, vc3, euv3⟩ := hvr
              obtain ⟨v3, ev3, ov3, _⟩ := ints_holds.1 hvi3
              injection ev3 with ev3
              obtain ⟨A3, k3, hv3⟩ := own_form ov3
              rw [hv3] at ov3 ev3
              have hvn : V.length = nj := HVL.out.trans HNJ.out.symm
              rw [hvn] at ov3 ev3
              rw [ev3] at hbz
              have HBZ := hide_ hbz
              have HRV := hide_ (Rd.of_own ov3)
              have HVN := hide_ hvn
              have HJB := hide_ (show jobsR.holds Wd [.slice Aj nj cj] b.jobs bc3.Xj by have h1 : jobsR.holds Wd [bc3.uj] b.jobs bc3.Xj := HBT.out.jobs; rw [HEJ.out] at h1; rw [HNJ.out]; exact h1)
              have d4 : Wd.cell? ⟨bb, 4, none⟩ = some (.slice Aj nj cj) := by rw [HNJ.out]; exact cell_of_row _ _ 4 _ _ (0, 0) hbz
              have nj2 : nj ≤ 4096 := by rw [HNJ.out]; exact HJL.out
              have HBB := hide_ (theap_lt hbz)
              clear hbz hvi3 euv3 ev3 hv3 ov3 hvn
              go_wp2_with fail
              go_loopw [6, 103] (fun s6 s103 wr => ∃ (i : Nat) (A6 : Option Addr) (c6 : Nat), i ≤ nj ∧ s103 = .int .i64 i ∧ s6 = .slice A6 i c6 ∧ Hid (SliceP Wd.heap.size 53 msgR wr (.slice A6 i c6) (doneTo s b V i) []) ∧ Hid (Later Wd wr)) (fun _ i _ => nj - (intOf i).toNat)
              case atStart => exact ⟨0, none, 0, Nat.zero_le _, rfl, rfl, hide_ (SliceP.nil _ _ _ _), hide_ (Later.refl _)⟩
              case round =>
                obtain ⟨i, A6, c6, hi, rfl, rfl, HP, HLW⟩ := hrel
                have HM := hide_ (doneTo_len (s := s) HNJ.out HVN.out hi)
                by_cases hlt : i < nj
                · obtain ⟨j, hj⟩ : ∃ j, b.jobs[i]? = some j := ⟨_, List.getElem?_eq_getElem (by rw [← HNJ.out]; exact hlt)⟩
                  obtain ⟨v, hv⟩ : ∃ v, V[i]? = some v := ⟨_, List.getElem?_eq_getElem (by rw [HVN.out]; exact hlt)⟩
                  obtain ⟨_, gj, A1, c1, A2, c2, e, j0, j1, j2, j3, j4, jr1, jr2⟩ := job_cells (jobsR.later HJB.out HLW.out) hj
                  subst e
                  obtain ⟨bv, ov, rfl, l0⟩ := (HRV.out.below HLW.out).int hv
                  have HNX := hide_ (doneTo_next (s := s) hj hv)
                  have q5 : (i : Int) < (nj : Int) := by omega
                  have q6 : (i : Int) ≤ 4096 := by omega
                  have jlt := cell_lt j0
                  have vlt := cell_lt l0
                  clear hj hv jr1 jr2
                  obtain ⟨Wc, hWc⟩ : ∃ W, W = wr.alloc (.cells #[.int .i64 j.guest, .int .i64 j.seq, .int .i64 j.tx.1, .slice A1 j.tx.2.1.length c1, .slice A2 j.tx.2.2.length c2] 120) := ⟨_, rfl⟩
                  have HWC := hide_ hWc
                  have hlc : Later wr Wc := by rw [hWc]; exact later_alloc _ _
                  have hrc : Wc.heap[wr.heap.size]? = some (.cells #[.int .i64 j.guest, .int .i64 j.seq, .int .i64 j.tx.1, .slice A1 j.tx.2.1.length c1, .slice A2 j.tx.2.2.length c2] 120 (0, 0)) := by rw [hWc]; exact heap_alloc_new _ _
                  have hbc := later_row (HLW.out.trans hlc) HBZ.out
                  have x6 : Wc.cell? ⟨bb, 6, none⟩ = some (.slice (some ⟨bv, ov, none⟩) nj k3) := cell_of_row _ _ 6 _ _ (0, 0) hbc
                  have x1 : Wc.cell? ⟨bb, 1, none⟩ = some (.int .i64 b.ver) := cell_of_row _ _ 1 _ _ (0, 0) hbc
                  have l1 : Wc.cell? ⟨bv, ov + i, none⟩ = some (.int .i64 v) := later_cell l0 Wc hlc
                  have y0 : Wc.cell? ⟨wr.heap.size, 0, none⟩ = some (.int .i64 j.guest) := cell_of_row _ _ 0 _ _ (0, 0) hrc
                  have y1 : Wc.cell? ⟨wr.heap.size, 1, none⟩ = some (.int .i64 j.seq) := cell_of_row _ _ 1 _ _ (0, 0) hrc
                  have HLC := hide_ hlc
                  have HTL := hide_ (fun W' (hl' : Later Wc W') (o ver : Int) => tell_laid (nd := s.node) (ep := s.epoch) (HFD.out.later (HLW.out.trans (hlc.trans hl'))) rfl rfl j.guest j.seq o ver)
                  have HX1 := hide_ x1
                  clear hlc hrc hbc hWc x1
                  by_cases hv1 : v = 1
                  · subst hv1
                    have HE := hide_ (show doneTo s b V (i + 1) = doneTo s b V i ++ [⟨2, s.node, j.guest, s.epoch, j.seq, 1, b.ver, []⟩] by rw [HNX.out]; rfl)
                    have m0 := Stands.cell (X := fun q => q = bb ∨ q = wr.heap.size) y0 (.inr rfl)
                    have m1 := Stands.cell (X := fun q => q = bb ∨ q = wr.heap.size) y1 (.inr rfl)
                    have m2 := Stands.cell (X := fun q => q = bb ∨ q = wr.heap.size) HX1.out (.inl rfl)
                    go_wp2_with (rw [← HWC.out])
                    refine wp_region_z (R := Stands (fun q => q = bb ∨ q = wr.heap.size)) [] (by kernel_rfl) ?_
                    refine wpAnyZ_take0 (Stands.steady (fun q => q = bb ∨ q = wr.heap.size)) 0 (v := ?_) rfl (by kernel_rfl) (by kernel_rfl) (by kernel_rfl) (fun _ _ _ h => h) (by rfl) (by intro W hSw; go_simp; with_reducible rfl) ?_; try simp only [Act.put, qA, qZ, qS]
                    refine wpAnyZ_take0 (Stands.steady (fun q => q = bb ∨ q = wr.heap.size)) 1 (v := ?_) rfl (by kernel_rfl) (by kernel_rfl) (by kernel_rfl) (fun _ _ _ h => h) (by rfl) (by intro W hSw; go_simp; with_reducible rfl) ?_; try simp only [Act.put, qA, qZ, qS]
                    refine wpAnyZ_take0 (Stands.steady (fun q => q = bb ∨ q = wr.heap.size)) 2 (v := ?_) rfl (by kernel_rfl) (by kernel_rfl) (by kernel_rfl) (fun _ _ _ h => h) (by rfl) (by intro W hSw; go_simp; with_reducible rfl) ?_; try simp only [Act.put, qA, qZ, qS]
                    refine wpAnyZ_take0 (Stands.steady (fun q => q = bb ∨ q = wr.heap.size)) 3 (v := ?_) rfl (by kernel_rfl) (by kernel_rfl) (by kernel_rfl) (fun _ _ _ h => h) (by rfl) (by intro W hSw; have hS0 := Stands.trans (show Stands (fun q => q = bb ∨ q = wr.heap.size) Wc _ from by repeat first | with_reducible assumption | with_reducible exact Stands.refl _ _ | with_reducible refine Stands.alloc ?_ _ | with_reducible refine Stands.drew ?_ | with_reducible refine Stands.drewL ?_ | with_reducible refine Stands.setCell ?_ (by assumption) _ _ | assumption | refine Stands.trans ?_ (by assumption)) hSw; go_simp; with_reducible rfl) ?_; try simp only [Act.put, qA, qZ, qS]
                    refine wpAnyZ_take0 (Stands.steady (fun q => q = bb ∨ q = wr.heap.size)) 4 (v := ?_) rfl (by kernel_rfl) (by kernel_rfl) (by kernel_rfl) (fun _ _ _ h => h) (by rfl) (by intro W hSw; go_simp; with_reducible rfl) ?_; try simp only [Act.put, qA, qZ, qS]
                    refine wpAnyZ_take0 (Stands.steady (fun q => q = bb ∨ q = wr.heap.size)) 5 (v := ?_) rfl (by kernel_rfl) (by kernel_rfl) (by kernel_rfl) (fun _ _ _ h => h) (by rfl) (by intro W hSw; go_simp; with_reducible rfl) ?_; try simp only [Act.put, qA, qZ, qS]
                    refine wpAnyZ_take0 (Stands.steady (fun q => q = bb ∨ q = wr.heap.size)) 6 (v := ?_) rfl (by kernel_rfl) (by kernel_rfl) (by kernel_rfl) (fun _ _ _ h => h) (by rfl) (by intro W hSw; go_simp; with_reducible rfl) ?_; try simp only [Act.put, qA, qZ, qS]
                    refine wpAnyZ_take0 (Stands.steady (fun q => q = bb ∨ q = wr.heap.size)) 7 (v := ?_) rfl (by kernel_rfl) (by kernel_rfl) (by kernel_rfl) (fun _ _ _ h => h) (by rfl) (by intro W hSw; go_simp; with_reducible rfl) ?_; try simp only [Act.put, qA, qZ, qS]
                    refine wpAnyZ_take0 (Stands.steady (fun q => q = bb ∨ q = wr.heap.size)) 8 (v := ?_) rfl (by kernel_rfl) (by kernel_rfl) (by kernel_rfl) (fun _ _ _ h => h) (by rfl) (by intro W hSw; have hS0 := Stands.trans (show Stands (fun q => q = bb ∨ q = wr.heap.size) Wc _ from by repeat first | with_reducible assumption | with_reducible exact Stands.refl _ _ | with_reducible refine Stands.alloc ?_ _ | with_reducible refine Stands.drew ?_ | with_reducible refine Stands.drewL ?_ | with_reducible refine Stands.setCell ?_ (by assumption) _ _ | assumption | refine Stands.trans ?_ (by assumption)) hSw; go_simp; with_reducible rfl) ?_; try simp only [Act.put, qA, qZ, qS]
                    refine wpAnyZ_one 9 (by kernel_rfl) rfl (fun K hK => ?_)
                    go_simp
                    refine (HTL.out _ (Later.refl Wc).dr 1 b.ver).mono ?_; rintro e w5 ⟨rfl, hl5⟩; have hs5 : Stands (fun q => q = bb ∨ q = wr.heap.size) _ w5 := Stands.of_later hl5; have hl45 : Later wr w5 := HLC.out.trans ((Later.refl Wc).dr.trans hl5)
                    refine hK.out _ _ (by repeat first | with_reducible assumption | with_reducible exact Stands.refl _ _ | with_reducible refine Stands.alloc ?_ _ | with_reducible refine Stands.drew ?_ | with_reducible refine Stands.drewL ?_ | with_reducible refine Stands.setCell ?_ (by assumption) _ _ | assumption | refine Stands.of_later ?_) ?_
                    clear hK K; try simp only [Act.put, qA, qZ, qS]
                    refine wpAnyZ_one 10 (by kernel_rfl) rfl (fun K hK => ?_)
                    go_simp
                    refine hK.out _ _ (by repeat first | with_reducible assumption | with_reducible exact Stands.refl _ _ | with_reducible refine Stands.alloc ?_ _ | with_reducible refine Stands.drew ?_ | with_reducible refine Stands.drewL ?_ | with_reducible refine Stands.setCell ?_ (by assumption) _ _ | assumption | refine Stands.of_later ?_) ?_
                    clear hK K; try simp only [Act.put, qA, qZ, qS]
                    refine wpAnyZ_one 11 (by kernel_rfl) rfl (fun K hK => ?_)
                    refine step_push (by rfl) (.tmp 124) (.tmp 134) rfl msgT rfl ((HP.out.later hl45).later (later_alloc w5 _)) HM.out (b := w5.heap.size) (c := 1) (cells := [.int .i64 2, .int .i64 s.node, .int .i64 j.guest, .int .i64 s.epoch, .int .i64 j.seq, .int .i64 1, .int .i64 b.ver, .slice none 0 0]) (el := ⟨2, s.node, j.guest, s.epoch, j.seq, 1, b.ver, []⟩) (Y := []) rfl (Rd.newAt w5 #[.int .i64 2, .int .i64 s.node, .int .i64 j.guest, .int .i64 s.epoch, .int .i64 j.seq, .int .i64 1, .int .i64 b.ver, .slice none 0 0] 53 1 8 _ (0, 0) rfl rfl) ⟨_, rfl, body_nil _⟩ (fun g hg => by cases hg) (by omega) (by unfold maxLen; omega) (by have h1 := HLW.out.size; have h2 := hl45.size; simp; omega) ?_; intro A9 c9 w9 hp9 hg hat; have HP9 := hide_ hp9; have hs9 : Stands (fun q => q = bb ∨ q = wr.heap.size) _ w9 := ((Hits.refl (fun q => (Value.slice A6 i c6).ownBlock = some q) _).grown hg (fun q hq _ => hq)).stands (fun q hq hF hX => by have h1 := (HP.out.block hF).1; have h2 := (HP.out.block hF).2.1; have h3 := HBB.out; rcases hX with rfl | rfl <;> omega); have HL9 := hide_ (hp_later ((HLW.out.trans hl45).al _) ((HP.out.later hl45).later (later_alloc w5 _)) hg (Nat.le_refl _)); clear hp9 hg hat
                    refine hK.out _ _ (by repeat first | with_reducible assumption | with_reducible exact Stands.refl _ _ | with_reducible refine Stands.alloc ?_ _ | with_reducible refine Stands.drew ?_ | with_reducible refine Stands.drewL ?_ | with_reducible refine Stands.setCell ?_ (by assumption) _ _ | assumption | refine Stands.of_later ?_) ?_
                    clear hK K; try simp only [Act.put, qA, qZ, qS]
                    refine wpAnyZ_take0 (Stands.steady (fun q => q = bb ∨ q = wr.heap.size)) 12 (v := ?_) rfl (by kernel_rfl) (by kernel_rfl) (by kernel_rfl) (fun _ _ _ h => h) (by rfl) (by intro W hSw; go_simp; with_reducible rfl) ?_; try simp only [Act.put, qA, qZ, qS]
                    refine wpAnyZ_done (by kernel_rfl) ?_ _
                    go_wp2_with fail
                    go_roundw
                    case rel => exact ⟨i + 1, A9, c9, by omega, by go_num, rfl, hide_ (by rw [HE.out]; exact HP9.out), HL9⟩
                    case measure => simp [intOf]; omega
                  · have x1 := HX1.out
                    by_cases hv2 : v = 2
                    · subst hv2
                      have HE := hide_ (show doneTo s b V (i + 1) = doneTo s b V i ++ [⟨2, s.node, j.guest, s.epoch, j.seq, 2, 0, []⟩] by rw [HNX.out]; rfl)
                      go_wp2_with (rw [← HWC.out])
                      refine (HTL.out _ (Later.refl _) 2 0).mono ?_; rintro e w5 ⟨rfl, hl5⟩
                      have hl45 : Later wr w5 := HLC.out.trans hl5
                      clear hl5
                      go_wp2_with (at_builtin; refine wpList_push rfl (.tmp 138) (.tmp 143) rfl msgT rfl ((HP.out.later hl45).later (later_alloc w5 _)) HM.out (b := w5.heap.size) (c := 1) (cells := [.int .i64 2, .int .i64 s.node, .int .i64 j.guest, .int .i64 s.epoch, .int .i64 j.seq, .int .i64 2, .int .i64 0, .slice none 0 0]) (el := ⟨2, s.node, j.guest, s.epoch, j.seq, 2, 0, []⟩) (Y := []) rfl (Rd.newAt w5 #[.int .i64 2, .int .i64 s.node, .int .i64 j.guest, .int .i64 s.epoch, .int .i64 j.seq, .int .i64 2, .int .i64 0, .slice none 0 0] 53 1 8 _ (0, 0) rfl rfl) ⟨_, rfl, body_nil _⟩ (fun g hg => by cases hg) (by omega) (by unfold maxLen; omega) (by have h1 := HLW.out.size; have h2 := hl45.size; simp; omega) ?c8)
                      case c8 =>
                        intro A9 c9 w9 hp9 hg hat
                        have HP9 := hide_ hp9
                        have HL9 := hide_ (hp_later ((HLW.out.trans hl45).al _) ((HP.out.later hl45).later (later_alloc w5 _)) hg (Nat.le_refl _))
                        clear hp9 hg hat
                        go_wp2_with fail
                        go_roundw
                        case rel => exact ⟨i + 1, A9, c9, by omega, by go_num, rfl, hide_ (by rw [HE.out]; exact HP9.out), HL9⟩
                        case measure => simp [intOf]; omega
                    · have HE := hide_ (show doneTo s b V (i + 1) = doneTo s b V i ++ [⟨2, s.node, j.guest, s.epoch, j.seq, 3, 0, []⟩] by rw [HNX.out]; unfold doneOne tellM; simp only [if_neg hv1, if_neg hv2])
                      go_wp2_with (rw [← HWC.out])
                      refine (HTL.out _ (Later.refl _) 3 0).mono ?_; rintro e w5 ⟨rfl, hl5⟩
                      have hl45 : Later wr w5 := HLC.out.trans hl5
                      clear hl5
                      go_wp2_with (at_builtin; refine wpList_push rfl (.tmp 115) (.tmp 120) rfl msgT rfl ((HP.out.later hl45).later (later_alloc w5 _)) HM.out (b := w5.heap.size) (c := 1) (cells := [.int .i64 2, .int .i64 s.node, .int .i64 j.guest, .int .i64 s.epoch, .int .i64 j.seq, .int .i64 3, .int .i64 0, .slice none 0 0]) (el := ⟨2, s.node, j.guest, s.epoch, j.seq, 3, 0, []⟩) (Y := []) rfl (Rd.newAt w5 #[.int .i64 2, .int .i64 s.node, .int .i64 j.guest, .int .i64 s.epoch, .int .i64 j.seq, .int .i64 3, .int .i64 0, .slice none 0 0] 53 1 8 _ (0, 0) rfl rfl) ⟨_, rfl, body_nil _⟩ (fun g hg => by cases hg) (by omega) (by unfold maxLen; omega) (by have h1 := HLW.out.size; have h2 := hl45.size; simp; omega) ?c8)
                      case c8 =>
                        intro A9 c9 w9 hp9 hg hat
                        have HP9 := hide_ hp9
                        have HL9 := hide_ (hp_later ((HLW.out.trans hl45).al _) ((HP.out.later hl45).later (later_alloc w5 _)) hg (Nat.le_refl _))
                        clear hp9 hg hat
                        go_wp2_with fail
                        go_roundw
                        case rel => exact ⟨i + 1, A9, c9, by omega, by go_num, rfl, hide_ (by rw [HE.out]; exact HP9.out), HL9⟩
                        case measure => simp [intOf]; omega
                · obtain rfl : i = nj := by omega
                  have q5 : ¬ (i : Int) < (i : Int) := by omega
                  have HT := hide_ (doneTo_all (s := s) (V := V) HNJ.out)
                  go_wp2_with fail
                  go_ret
                  rw [HE3.out]
                  refine ⟨A6, i, c6, [], X2, Wd.heap.size, rfl, ?_, ?_, fun k hk => (by cases hk), HHD.out.size, HFD.out.lt, ?_, HHD.out.thenLater HLW.out, HF2.out⟩
                  · show (doneL s b V).length = i; rw [← HT.out]; exact HM.out
                  · show SliceP _ _ _ _ _ (doneL s b V) []; rw [← HT.out]; exact HP.out
                  · rw [← HNJ.out]; exact HFD.out.later HLW.out

end Go.Proofs.YtcmollfhlillfaaGreatDoor
