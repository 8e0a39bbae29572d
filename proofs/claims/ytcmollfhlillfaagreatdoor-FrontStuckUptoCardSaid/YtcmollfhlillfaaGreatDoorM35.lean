/-
  Texts of this seat in one: FrPush, LBat.
-/
import Derived.Test.YtcmollfhlillfaaGreatDoorM34
import Derived.Test.YtcmollfhlillfaaGreatDoorM24
import Derived.Test.YtcmollfhlillfaaGreatDoorM30
import Derived.Test.YtcmollfhlillfaaGreatDoorM11
import Derived.Laws.ResultCell
import Derived.Laws.Rows
/-
  front: push.
-/
namespace Go.Proofs.YtcmollfhlillfaaGreatDoor
open Go.RowKit
set_option linter.unusedVariables false
set_option linter.unusedSimpArgs false
def bpOf (b : Bt) : BP := ⟨b.prev.toNat, b.ver.toNat, b.known.toNat, b.chg⟩
def pushOne (s : Fr) (b : Bt) (c : Int) : List Msg := if b.pushed.contains c = true then [] else [⟨5, s.node, c, s.epoch, 0, 0, 0, encB (bpOf b)⟩]
def pushL (s : Fr) (b : Bt) : List Msg := s.chests.flatMap (pushOne s b)
def pushTo (s : Fr) (b : Bt) (k : Nat) : List Msg := (s.chests.take k).flatMap (pushOne s b)
theorem pushTo_next {s : Fr} {b : Bt} {k : Nat} {n : Int} (h : s.chests[k]? = some n) : pushTo s b (k + 1) = pushTo s b k ++ pushOne s b n := by
  unfold pushTo; rw [take_snoc h, List.flatMap_append]; simp
structure PushOk (s : Fr) (b : Bt) : Prop where
  p0 : 0 ≤ b.prev
  v0 : 0 ≤ b.ver
  k0 : 0 ≤ b.known
  ok : (bpOf b).Ok
  c : s.chests.length ≤ 1048576
  d : b.pushed.length ≤ 1048576
set_option maxHeartbeats 8000000 in
set_option maxRecDepth 100000 in
theorem push_any {w : World} {f : Nat} {s : Fr} {X : List Nat} {b : Bt} (h : FrH w f s X) (hcur : s.cur = some b) (hok : PushOk s b) :
    Calls Tryz.prog 36 #[.pointer (some ⟨f, 0, none⟩)] w (MsgsPost w (pushL s b)) := by
  obtain ⟨cc, bb, bc, M, xs, hca⟩ := cur_open h hcur
  have hrow := hca.p.row
  unfold frCells at hrow
  rw [hca.up] at hrow
  obtain ⟨vc, ec, oc, _⟩ := ints_holds.1 hca.p.chests
  injection ec with ec
  obtain ⟨Ac, kc, rfl⟩ := own_form oc
  rw [ec] at hrow
  obtain ⟨nc, hnc⟩ : ∃ n, n = s.chests.length := ⟨_, rfl⟩
  rw [← hnc] at hrow
  obtain ⟨vp, ep, op, _⟩ := ints_holds.1 hca.bt.pushed
  injection ep with ep
  obtain ⟨Ap, kp, rfl⟩ := own_form op
  obtain ⟨vg, eg, og, _⟩ := chgs_holds.1 hca.bt.chg
  injection eg with eg
  obtain ⟨Ag, kg, rfl⟩ := own_form og
  obtain ⟨np, hnp⟩ : ∃ n, n = b.pushed.length := ⟨_, rfl⟩
  have hbrow := hca.bt.row
  rw [eg, ep, ← hnp] at hbrow
  have HPB := hide_ (show Calls Tryz.prog 71 #[.agg #[.int .i64 b.prev, .int .i64 b.ver, .int .i64 b.known, .slice Ag b.chg.length kg]] w fun e w' => ∃ v, e = .returned (.tuple #[v, .int .i64 0]) ∧ w'.ownsRow w.heap.size 5 1 v (encB (bpOf b)).length (bvs (encB (bpOf b))) ∧ Later w w' from by
    have e1 : ((b.prev.toNat : Nat) : Int) = b.prev := by have := hok.p0; omega
    have e2 : ((b.ver.toNat : Nat) : Int) = b.ver := by have := hok.v0; omega
    have e3 : ((b.known.toNat : Nat) : Int) = b.known := by have := hok.k0; omega
    have h1 := putBatch_any (w := w) (c := kg) (prev := b.prev.toNat) (ver := b.ver.toNat) (known := b.known.toNat) (L := b.chg) (Rd.of_own og) rfl (fun a ha => (own_block (g := a.block) og (by subst ha; rfl)).2.1) hok.ok
    rw [e1, e2, e3] at h1
    exact h1)
  have c14 : w.cell? ⟨f, 14, none⟩ = some (.pointer (some ⟨bb, 0, none⟩)) := cell_of_row _ _ 14 _ _ (0, 0) hrow
  have d0 : w.cell? ⟨bb, 0, none⟩ = some (.int .i64 b.prev) := cell_of_row _ _ 0 _ _ (0, 0) hbrow
  have d1 : w.cell? ⟨bb, 1, none⟩ = some (.int .i64 b.ver) := cell_of_row _ _ 1 _ _ (0, 0) hbrow
  have d2 : w.cell? ⟨bb, 2, none⟩ = some (.int .i64 b.known) := cell_of_row _ _ 2 _ _ (0, 0) hbrow
  obtain ⟨ng, hng⟩ : ∃ n, n = b.chg.length := ⟨_, rfl⟩
  rw [← hng] at hbrow HPB
  have d3 : w.cell? ⟨bb, 3, none⟩ = some (.slice Ag ng kg) := cell_of_row _ _ 3 _ _ (0, 0) hbrow
  have HH := hide_ h; have HRW := hide_ hrow; have HBW := hide_ hbrow; have HRC := hide_ (Rd.of_own oc); have HRP := hide_ (Rd.of_own op); have HNC := hide_ hnc; have HNP := hide_ hnp; have HOK := hide_ hok
  have nc2 : nc ≤ 1048576 := by rw [hnc]; exact hok.c
  have np2 : np ≤ 1048576 := by rw [hnp]; exact hok.d
  have blt := theap_lt hbrow
  clear h hcur hok hca hrow ec oc hnc ep op eg og hnp hbrow hng
  go_enter Tryz.func36, Tryz.ntmps36
  go_wp2_with fail
  refine HPB.out.mono ?_; rintro e w2 ⟨v2, rfl, ho2, hl2⟩
  obtain ⟨Av, cv, rfl⟩ := own_form ho2
  obtain ⟨Xb, hbd, hxb⟩ := body_own ho2
  have HBD := hide_ hbd; have HXB := hide_ hxb; have HL2 := hide_ hl2
  have HXL := hide_ (bodyR.lt hbd)
  obtain ⟨nv, hnv⟩ : ∃ n, n = (encB (bpOf b)).length := ⟨_, rfl⟩
  rw [← hnv] at HBD ⊢
  have c4 : w2.cell? ⟨f, 4, none⟩ = some (.slice Ac nc kc) := cell_of_row _ _ 4 _ _ (0, 0) (later_row hl2 HRW.out)
  clear ho2 hbd hxb hl2 hnv HPB c14 d0 d1 d2 d3 blt
  go_wp2_with fail
  go_loopw [3, 25] (fun s3 s25 wr => ∃ (i m : Nat) (A3 : Option Addr) (c3 : Nat) (X : List Nat), i ≤ nc ∧ s25 = .int .i64 i ∧ m ≤ i ∧ s3 = .slice A3 m c3 ∧ Hid ((pushTo s b i).length = m) ∧ Hid (SliceP w2.heap.size 53 msgR wr (.slice A3 m c3) (pushTo s b i) X) ∧ Hid (∀ k ∈ X, w.heap.size ≤ k) ∧ Hid (Later w2 wr)) (fun _ i _ => nc - (intOf i).toNat)
  case atStart => exact ⟨0, 0, none, 0, [], Nat.zero_le _, rfl, Nat.le_refl _, rfl, hide_ rfl, hide_ (SliceP.nil _ _ _ _), hide_ (fun k hk => by cases hk), hide_ (Later.refl _)⟩
  case round =>
    obtain ⟨i, m, A3, c3, X3, hi, rfl, hmi, rfl, HM, HP, HX, HLR⟩ := hrel
    by_cases hlt : i < nc
    · obtain ⟨r, hr⟩ : ∃ r, s.chests[i]? = some r := ⟨_, List.getElem?_eq_getElem (by rw [← HNC.out]; exact hlt)⟩
      obtain ⟨br, orr, eA, l0⟩ := (HRC.out.below (HL2.out.trans HLR.out)).int hr
      subst eA
      have q1 : (i : Int) < (nc : Int) := by omega
      have q2 : (i : Int) ≤ 1048576 := by omega
      have HNX := hide_ (pushTo_next (b := b) hr)
      have hbrw := later_row (HL2.out.trans HLR.out) HBW.out
      have z14 : wr.cell? ⟨f, 14, none⟩ = some (.pointer (some ⟨bb, 0, none⟩)) := cell_of_row _ _ 14 _ _ (0, 0) (later_row (HL2.out.trans HLR.out) HRW.out)
      have z7 : wr.cell? ⟨bb, 7, none⟩ = some (.slice Ap np kp) := cell_of_row _ _ 7 _ _ (0, 0) hbrw
      have HCT := hide_ (contains_int (w := wr) (c := kp) (n := np) (L := b.pushed) (by rw [HNP.out]; exact HRP.out.below (HL2.out.trans HLR.out)) HNP.out.symm (by omega) r)
      have HMB := hide_ (show w2.heap.size ≤ wr.heap.size from HLR.out.size)
      have rlt := cell_lt l0
      have blt := theap_lt hbrw
      clear hr hbrw
      go_wp2_with fail
      refine HCT.out.mono ?_; rintro e w5 ⟨rfl, rfl⟩
      by_cases hct : b.pushed.contains r = true
      · rw [hct]
        have HE := hide_ (show pushTo s b (i + 1) = pushTo s b i by rw [HNX.out]; unfold pushOne; rw [if_pos hct, List.append_nil])
        clear hct
        go_wp2_with fail
        go_roundw
        case rel => exact ⟨i + 1, m, A3, c3, X3, by omega, by go_num, by omega, rfl, hide_ (by rw [HE.out]; exact HM.out), hide_ (by rw [HE.out]; exact HP.out), HX, HLR⟩
        case measure => simp [intOf]; omega
      · have hct : b.pushed.contains r = false := by simpa using hct
        rw [hct]
        have HE := hide_ (show pushTo s b (i + 1) = pushTo s b i ++ [⟨5, s.node, r, s.epoch, 0, 0, 0, encB (bpOf b)⟩] by rw [HNX.out]; unfold pushOne; rw [if_neg (by rw [hct]; decide)])
        have HMG := hide_ (message_any (w := w5) (HH.out.later (HL2.out.trans HLR.out)) 5 r 0 0 0 0 0 0 0 Av nv cv)
        clear hct HCT
        go_wp2_with fail
        refine HMG.out.mono ?_; rintro e w6 ⟨rfl, hl6⟩
        have HP6 := hide_ (HP.out.later hl6)
        have HL6 := hide_ (HLR.out.trans hl6)
        have HB6 := hide_ (show w2.heap.size ≤ w6.heap.size from Nat.le_trans HMB.out hl6.size)
        clear hl6 z14 z7 l0 rlt blt
        go_wp2_with (at_builtin; refine wpList_push rfl (.tmp 39) (.tmp 45) rfl msgT rfl (HP6.out.later (later_alloc w6 _)) HM.out (b := w6.heap.size) (c := 1) (cells := [.int .i64 5, .int .i64 s.node, .int .i64 r, .int .i64 s.epoch, .int .i64 0, .int .i64 0, .int .i64 0, .slice Av nv cv]) (el := ⟨5, s.node, r, s.epoch, 0, 0, 0, encB (bpOf b)⟩) (Y := Xb) rfl (Rd.newAt w6 #[.int .i64 5, .int .i64 s.node, .int .i64 r, .int .i64 s.epoch, .int .i64 0, .int .i64 0, .int .i64 0, .slice Av nv cv] 53 1 8 _ (0, 0) rfl rfl) ⟨_, rfl, bodyR.later (bodyR.later HBD.out HL6.out) (later_alloc w6 _)⟩ (fun k hk e => by have h1 := (HP6.out.block e).1; have h2 := HXL.out k hk; omega) (by omega) (by unfold maxLen; omega) (by have := HB6.out; simp; omega) ?c8)
        case c8 =>
          intro A9 c9 w9 hp9 hg9 hat9
          have HP9 := hide_ hp9
          have HL9 := hide_ (hp_later (HL6.out.al _) (HP6.out.later (later_alloc w6 _)) hg9 (Nat.le_refl _))
          clear hp9 hg9 hat9
          go_wp2_with fail
          go_roundw
          case rel => exact ⟨i + 1, m + 1, A9, c9, X3 ++ Xb, by omega, by go_num, by omega, rfl, hide_ (by rw [HE.out, List.length_append, HM.out]; rfl), hide_ (by rw [HE.out]; exact HP9.out), hide_ (fun k hk => by rcases List.mem_append.1 hk with h | h; exact HX.out k h; exact HXB.out k h), HL9⟩
          case measure => simp [intOf]; omega
    · obtain rfl : i = nc := by omega
      have q1 : ¬ (i : Int) < (i : Int) := by omega
      have HT := hide_ (show pushTo s b i = pushL s b by unfold pushTo pushL; rw [List.take_of_length_le (by rw [← HNC.out]; exact Nat.le_refl _)])
      go_wp2_with fail
      go_ret
      exact ⟨A3, m, c3, X3, rfl, by rw [← HT.out]; exact HM.out, by rw [← HT.out]; exact HP.out.weaken HL2.out.size, HX.out, HL2.out.trans HLR.out⟩

end Go.Proofs.YtcmollfhlillfaaGreatDoor
/-
  The document's frame: GetBatch of a batch without changes.
-/
namespace Go.Proofs.YtcmollfhlillfaaGreatDoor
open Go.RowKit
set_option linter.unusedVariables false
set_option linter.unusedSimpArgs false
def put4 (w : World) (d : Nat) (p q r s : Value) : World := (((w.setCell ⟨d, 0, none⟩ p).setCell ⟨d, 1, none⟩ q).setCell ⟨d, 2, none⟩ r).setCell ⟨d, 3, none⟩ s
theorem put4_row {w : World} {d : Nat} {x0 x1 x2 x3 : Value} {t : TypeId} (h : w.heap[d]? = some (.cells #[x0, x1, x2, x3] t (0, 0))) (p q r s : Value) : (put4 w d p q r s).heap[d]? = some (.cells #[p, q, r, s] t (0, 0)) := by
  have h1 := heap_setCell_same w d 0 _ _ p h
  have h2 := heap_setCell_same _ d 1 _ _ q h1
  have h3 := heap_setCell_same _ d 2 _ _ r h2
  exact heap_setCell_same _ d 3 _ _ s h3
theorem put4_hits (w : World) (d : Nat) (p q r s : Value) : Hits (· = d) w (put4 w d p q r s) :=
  ((((Hits.refl (· = d) w).setCell (g := d) (fun _ => rfl) 0 p).setCell (g := d) (fun _ => rfl) 1 q).setCell (g := d) (fun _ => rfl) 2 r).setCell (g := d) (fun _ => rfl) 3 s
theorem lgetB_ret {R : Ending → World → Prop} {w : World} {d : Nat} {x0 x1 x2 x3 : Value} (hrow : w.heap[d]? = some (.cells #[x0, x1, x2, x3] 91 (0, 0))) {p q r s : Value} {e : Int} {a : Act} (hd : a.tmps.getD 2 undef = .pointer (some ⟨d, 0, none⟩)) (he : a.tmps.getD 3 undef = .int .i64 e) (hD : a.defers = [])
    (h : R (.returned (.tuple #[.agg #[p, q, r, s], .int .i64 e])) (put4 w d p q r s)) : bodyPost Tryz.prog Tryz.f45 R .ret a (put4 w d p q r s) := by
  have hl : (loadVar 91 ⟨d, 0, none⟩).run Tryz.prog (put4 w d p q r s) = .ok (.agg #[p, q, r, s]) (put4 w d p q r s) := run_loadVar_row _ d _ _ #[p, q, r, s] _ (.struct (Tryz.prog.fieldsOf 91)) (put4_row hrow p q r s) (by kernel_rfl) rfl (by kernel_rfl)
  refine bodyPost_ret (v := .tuple #[.agg #[p, q, r, s], .int .i64 e]) ?_ hD h
  rw [results_cell_tmp (fn := Tryz.f45) (p := 2) (u := 3) (ty := 91) rfl, hd, he]
  simp only [asAddr, Sem.run_pure, Result.andThen_ok, hl]
set_option maxHeartbeats 4000000 in
set_option maxRecDepth 100000 in
theorem lall_nil {w : World} {A : Option Addr} {c : Nat} :
    Calls Tryz.prog 72 #[.slice A 0 c] w fun e w' => e = .returned (.int .i64 0) ∧ w' = w := by
  go_enter Tryz.func72, Tryz.ntmps72
  go_wp2_with fail
  go_loopw [3] (fun s3 wr => s3 = .int .i64 0 ∧ Hid (wr = w)) (fun _ _ => 0)
  case atStart => exact ⟨rfl, hide_ rfl⟩
  case round =>
    obtain ⟨rfl, HB⟩ := hrel
    go_wp2_with fail
    go_ret
    exact ⟨rfl, HB.out⟩
set_option maxHeartbeats 4000000 in
set_option maxRecDepth 100000 in
theorem lbatch_nil {w : World} {A : Option Addr} {c : Nat} (prev ver known : Nat) :
    Calls Tryz.prog 79 #[.agg #[.int .i64 prev, .int .i64 ver, .int .i64 known, .slice A 0 c]] w fun e w' => e = .returned (.bool true) ∧ Later w w' := by
  obtain ⟨W1, hW1⟩ : ∃ W1, W1 = (w.alloc (.cells #[.int .i64 prev, .int .i64 ver, .int .i64 known, .slice A 0 c] 91)).alloc (.cells #[.int .i64 prev, .int .i64 ver, .int .i64 known] 3) := ⟨_, rfl⟩
  have hl : Later w W1 := by rw [hW1]; exact (later_alloc _ _).al _
  have hb : W1.heap[w.heap.size]? = some (.cells #[.int .i64 prev, .int .i64 ver, .int .i64 known, .slice A 0 c] 91 (0, 0)) := by rw [hW1]; exact row_al (heap_alloc_new _ _) _
  have hrd : Rd W1 1 (some ⟨w.heap.size + 1, 0, none⟩) 3 (ints [(prev : Int), (ver : Int), (known : Int)]) := by
    rw [hW1]; exact Rd.newAt _ #[.int .i64 prev, .int .i64 ver, .int .i64 known] 3 3 1 _ (0, 0) rfl (by simp)
  have HLE := hide_ (least_any (c := 3) hrd rfl (by omega))
  have z3 : W1.cell? ⟨w.heap.size, 3, none⟩ = some (.slice A 0 c) := cell_of_row _ _ 3 _ _ (0, 0) hb
  have HW := hide_ hW1; have HL := hide_ hl; have HZ := hide_ z3
  clear hW1 hl hb hrd z3
  go_enter Tryz.func79, Tryz.ntmps79
  have hle : leastB [(prev : Int), (ver : Int), (known : Int)] = true := by unfold leastB; simp
  rw [hle] at HLE
  clear hle
  go_wp2_with (rw [← HW.out])
  refine HLE.out.mono ?_; rintro e w2 ⟨rfl, rfl⟩
  have z3 := HZ.out
  have HA := hide_ (lall_nil (w := w2) (A := A) (c := c))
  go_wp2_with fail
  refine HA.out.mono ?_; rintro e w3 ⟨rfl, rfl⟩
  go_wp2_with fail
  go_ret
  exact ⟨rfl, HL.out⟩
set_option maxHeartbeats 4000000 in
set_option maxRecDepth 100000 in
theorem lgetc_nil {w : World} {p : Nat} {l r : List UInt8} (h : LRdr w p l) (hl : l = putN 0 ++ r) :
    Calls Tryz.prog 78 #[.pointer (some ⟨p, 0, none⟩), .int .i64 4096] w fun e w' => ∃ b, e = .returned (.slice (some ⟨b, 0, none⟩) 0 0) ∧ w.heap.size ≤ b ∧ w'.heap[b]? = some (.cells #[] 142 (0, 0)) ∧ LRdr w' p r ∧ Hits (· = p) w w' := by
  have HN := hide_ (lrnum_any (n := 0) h hl (by omega))
  have hplt : p < w.heap.size := by obtain ⟨_, _, h1, _⟩ := h; exact theap_lt h1
  clear h hl
  go_enter Tryz.func78, Tryz.ntmps78
  go_wp2_with fail
  refine HN.out.mono ?_; rintro e w1 ⟨rfl, hr1, hh1⟩
  have HR1 := hide_ hr1; have HH1 := hide_ hh1
  clear hr1 hh1
  go_wp2_with fail
  go_loopw [6, 7] (fun s6 s7 wr => s6 = .slice (some ⟨w1.heap.size, 0, none⟩) 0 0 ∧ s7 = .int .i64 0 ∧ Hid (wr = w1.alloc (.cells #[] 142))) (fun _ _ _ => 0)
  case atStart => exact ⟨rfl, rfl, hide_ rfl⟩
  case round =>
    obtain ⟨rfl, rfl, HB⟩ := hrel
    go_wp2_with fail
    go_ret
    refine ⟨_, rfl, HH1.out.size, by rw [HB.out]; exact heap_alloc_new _ _, by rw [HB.out]; exact HR1.out.later (later_alloc _ _), by rw [HB.out]; exact HH1.out.thenLater (later_alloc _ _)⟩
theorem LRdr.put {w : World} {p q : Nat} {l : List UInt8} (h : LRdr w p l) {cs : Array Value} (hq : w.heap[q]? = some (.cells cs 91 (0, 0))) (j : Nat) (u : Value) : LRdr (w.setCell ⟨q, j, none⟩ u) p l := by
  obtain ⟨A, c, h1, h2, h3, h4, h5, h6⟩ := h
  have hpq : ¬ p = q := by
    rintro rfl
    rw [hq] at h1; injection h1 with h1; injection h1 with _ h1 _; exact absurd h1 (by decide)
  have haq : ∀ a, A = some a → ¬ a.block = q := fun a ha e => by
    obtain ⟨_, cs', fz, h7⟩ := h6 a ha
    rw [e, hq] at h7; injection h7 with h7; injection h7 with _ h7 _; exact absurd h7 (by decide)
  have hh : Hits (· = q) w (w.setCell ⟨q, j, none⟩ u) := (Hits.refl (· = q) w).setCell (g := q) (fun _ => rfl) j u
  exact ⟨A, c, hh.row h1 hpq, hh.rd h2 haq, h3, h4, h5, fun a ha => (h6 a ha).hits hh (haq a ha)⟩
set_option maxHeartbeats 4000000 in
set_option maxRecDepth 100000 in
theorem lgetB_any {w : World} {A : Option Addr} {c : Nat} {prev ver known : Nat} {l : List UInt8} (hl : l = putN prev ++ (putN ver ++ (putN known ++ (putN 0 ++ [])))) (h0 : prev < 9223372036854775808) (h1 : ver < 9223372036854775808) (h2 : known < 9223372036854775808) (hb : BodyAt w A c l) :
    Calls Tryz.prog 45 #[.slice A l.length c] w fun e w' => ∃ b, e = .returned (.tuple #[.agg #[.int .i64 prev, .int .i64 ver, .int .i64 known, .slice (some ⟨b, 0, none⟩) 0 0], .int .i64 0]) ∧ w.heap.size ≤ b ∧ w'.heap[b]? = some (.cells #[] 142 (0, 0)) ∧ Later w w' := by
  obtain ⟨W0, hW0⟩ : ∃ W0, W0 = (w.alloc (Obj.cells #[Value.int IntKind.i64 0, Value.int IntKind.i64 0, Value.int IntKind.i64 0, Value.slice none 0 0] 91)).alloc (Obj.cells #[.slice A l.length c, .bool false] 145) := ⟨_, rfl⟩
  have hl0 : Later w W0 := by rw [hW0]; exact (later_alloc _ _).al _
  have hrow0 : W0.heap[w.heap.size]? = some (.cells #[Value.int IntKind.i64 0, Value.int IntKind.i64 0, Value.int IntKind.i64 0, Value.slice none 0 0] 91 (0, 0)) := by rw [hW0]; exact row_al (heap_alloc_new _ _) _
  have hrr : W0.heap[w.heap.size + 1]? = some (.cells #[.slice A l.length c, .bool false] 145 (0, 0)) := by rw [hW0]; exact row_new2 _ _ _
  have hrd : LRdr W0 (w.heap.size + 1) l := ⟨A, c, hrr, hb.rd.below hl0, hb.hc, ⟨hb.hcc, hb.hll⟩, hb.hA, fun a ha => by
    obtain ⟨cs, fz, h⟩ := hb.hb a ha
    exact ⟨by have := theap_lt h; omega, cs, fz, later_row hl0 h⟩⟩
  have HW := hide_ hW0
  have HL0 := hide_ hl0
  have HROW0 := hide_ hrow0
  have HN1 := hide_ (lrnum_any hrd hl h0)
  clear hW0 hl0 hrow0 hrr hrd hb hl
  go_enter Tryz.func45, Tryz.ntmps45
  go_wp2_with (rw [← HW.out])
  refine HN1.out.mono ?_; rintro e w2 ⟨rfl, hr2, hh2⟩
  have hr2' := hr2.later (later_alloc w2 (.cells #[.int .i64 prev, .int .i64 0, .int .i64 0, .slice none 0 0] 91))
  have hb2 := heap_alloc_new w2 (.cells #[.int .i64 prev, .int .i64 0, .int .i64 0, .slice none 0 0] 91)
  have HL2 := hide_ (show Later w (w2.alloc (.cells #[.int .i64 prev, .int .i64 0, .int .i64 0, .slice none 0 0] 91)) from (show Later w w2 from Below.trans HL0.out (hh2.below (B := w.heap.size) HL0.out.size fun k hk => by omega)).al _)
  have HR0 := hide_ (show w2.heap[w.heap.size]? = some (.cells #[Value.int IntKind.i64 0, Value.int IntKind.i64 0, Value.int IntKind.i64 0, Value.slice none 0 0] 91 (0, 0)) from hh2.row HROW0.out (by omega))
  have hbp : w.heap.size + 1 < w2.heap.size := by obtain ⟨_, _, h, _⟩ := hr2; exact theap_lt h
  obtain ⟨q, hq⟩ : ∃ q, q = w2.heap.size := ⟨_, rfl⟩
  obtain ⟨V2, hV2⟩ : ∃ V, V = w2.alloc (.cells #[.int .i64 prev, .int .i64 0, .int .i64 0, .slice none 0 0] 91) := ⟨_, rfl⟩
  rw [← hV2] at hr2' HL2 hb2
  have HR0 := hide_ (show V2.heap[w.heap.size]? = some (.cells #[Value.int IntKind.i64 0, Value.int IntKind.i64 0, Value.int IntKind.i64 0, Value.slice none 0 0] 91 (0, 0)) by rw [hV2]; exact row_al HR0.out _)
  rw [← hq] at hb2 hbp
  have HV2 := hide_ hV2; have HQ := hide_ hq
  have HN2 := hide_ (lrnum_any hr2' rfl h1)
  have HB2 := hide_ hb2
  clear hr2 hh2 hr2' hb2 hV2 hq HN1 HROW0 HL0 HW
  go_wp2_with (rw [← HV2.out])
  refine HN2.out.mono ?_; rintro e w3 ⟨rfl, hr3, hh3⟩
  rw [← HQ.out]
  have hb3 := hh3.row HB2.out (by omega)
  have HR3 := hide_ (hr3.put hb3 1 (.int .i64 ver))
  have HB3 := hide_ (heap_setCell_same w3 q 1 _ _ (.int .i64 ver) hb3)
  have HHB3 := hide_ hb3
  have g1 := frozen_of_row _ _ 1 _ _ hb3
  have e1 := cell_of_row _ _ 1 _ _ (0, 0) hb3
  have HL3 := hide_ (show Later w (w3.setCell ⟨q, 1, none⟩ (.int .i64 ver)) from Below.trans HL2.out ((hh3.mono (G := fun k => w.heap.size < k) fun k _ h => by omega).trans ((Hits.refl (fun k => w.heap.size < k) w3).setCell (g := q) (fun _ => by omega) 1 _) (fun _ _ h => h) |>.below (B := w.heap.size) HL2.out.size fun k hk => by omega))
  have HT3 := hide_ (show (w3.setCell ⟨q, 1, none⟩ (.int .i64 ver)).heap[w.heap.size]? = some (.cells #[Value.int IntKind.i64 0, Value.int IntKind.i64 0, Value.int IntKind.i64 0, Value.slice none 0 0] 91 (0, 0)) from ((Hits.refl (· = q) w3).setCell (g := q) (fun _ => rfl) 1 _).row (hh3.row HR0.out (by omega)) (by omega))
  have glt := theap_lt hb3
  clear hr3 hh3 hb3
  obtain ⟨V3, hV3⟩ : ∃ V, V = w3.setCell ⟨q, 1, none⟩ (.int .i64 ver) := ⟨_, rfl⟩
  have HV3 := hide_ hV3
  rw [← hV3] at HR3 HB3 HL3 HT3
  have HN3 := hide_ (lrnum_any HR3.out rfl h2)
  clear hV3
  go_wp2_with (rw [← HV3.out])
  refine HN3.out.mono ?_; rintro e w4 ⟨rfl, hr4, hh4⟩
  have hb4 := hh4.row HB3.out (by omega)
  have HR4 := hide_ (hr4.put hb4 2 (.int .i64 known))
  have HB4 := hide_ (heap_setCell_same w4 q 2 _ _ (.int .i64 known) hb4)
  have g2 := frozen_of_row _ _ 2 _ _ hb4
  have e2 := cell_of_row _ _ 2 _ _ (0, 0) hb4
  have HL4 := hide_ (show Later w (w4.setCell ⟨q, 2, none⟩ (.int .i64 known)) from Below.trans HL3.out ((hh4.mono (G := fun k => w.heap.size < k) fun k _ h => by omega).trans ((Hits.refl (fun k => w.heap.size < k) w4).setCell (g := q) (fun _ => by omega) 2 _) (fun _ _ h => h) |>.below (B := w.heap.size) HL3.out.size fun k hk => by omega))
  have HT4 := hide_ (show (w4.setCell ⟨q, 2, none⟩ (.int .i64 known)).heap[w.heap.size]? = some (.cells #[Value.int IntKind.i64 0, Value.int IntKind.i64 0, Value.int IntKind.i64 0, Value.slice none 0 0] 91 (0, 0)) from ((Hits.refl (· = q) w4).setCell (g := q) (fun _ => rfl) 2 _).row (hh4.row HT3.out (by omega)) (by omega))
  have glt4 := theap_lt hb4
  clear hr4 hh4 hb4 g1 e1 glt HR3 HB3
  obtain ⟨V4, hV4⟩ : ∃ V, V = w4.setCell ⟨q, 2, none⟩ (.int .i64 known) := ⟨_, rfl⟩
  have HV4 := hide_ hV4
  rw [← hV4] at HR4 HB4 HL4 HT4
  have HN4 := hide_ (lgetc_nil HR4.out rfl)
  clear hV4
  go_wp2_with (rw [← HV4.out])
  refine HN4.out.mono ?_; rintro e w5 ⟨b5, rfl, hb5, hbr5, hr5, hh5⟩
  have hq5 := hh5.row HB4.out (by omega)
  have HR5 := hide_ (hr5.put hq5 3 (.slice (some ⟨b5, 0, none⟩) 0 0))
  have HB5 := hide_ (heap_setCell_same w5 q 3 _ _ (.slice (some ⟨b5, 0, none⟩) 0 0) hq5)
  have g3 := frozen_of_row _ _ 3 _ _ hq5
  have e3 := cell_of_row _ _ 3 _ _ (0, 0) hq5
  have HL5 := hide_ (show Later w (w5.setCell ⟨q, 3, none⟩ (.slice (some ⟨b5, 0, none⟩) 0 0)) from Below.trans HL4.out ((hh5.mono (G := fun k => w.heap.size < k) fun k _ h => by omega).trans ((Hits.refl (fun k => w.heap.size < k) w5).setCell (g := q) (fun _ => by omega) 3 _) (fun _ _ h => h) |>.below (B := w.heap.size) HL4.out.size fun k hk => by omega))
  have HT5 := hide_ (show (w5.setCell ⟨q, 3, none⟩ (.slice (some ⟨b5, 0, none⟩) 0 0)).heap[w.heap.size]? = some (.cells #[Value.int IntKind.i64 0, Value.int IntKind.i64 0, Value.int IntKind.i64 0, Value.slice none 0 0] 91 (0, 0)) from ((Hits.refl (· = q) w5).setCell (g := q) (fun _ => rfl) 3 _).row (hh5.row HT4.out (by omega)) (by omega))
  have hqb : q ≠ b5 := by
    have := theap_lt HB4.out; omega
  have HC5 := hide_ (show (w5.setCell ⟨q, 3, none⟩ (.slice (some ⟨b5, 0, none⟩) 0 0)).heap[b5]? = some (.cells #[] 142 (0, 0)) from ((Hits.refl (· = q) w5).setCell (g := q) (fun _ => rfl) 3 _).row hbr5 (fun e => hqb e.symm))
  have HBS := hide_ (show w.heap.size ≤ b5 by have h1 := HL4.out.size; omega)
  have glt5 := theap_lt hq5
  clear hr5 hh5 hq5 g2 e2 glt4 HR4 HB4 hbr5 hqb
  obtain ⟨V5, hV5⟩ : ∃ V, V = w5.setCell ⟨q, 3, none⟩ (.slice (some ⟨b5, 0, none⟩) 0 0) := ⟨_, rfl⟩
  have HV5 := hide_ hV5
  rw [← hV5] at HR5 HB5 HL5 HT5 HC5
  obtain ⟨A6, c6, hr6, _⟩ := HR5.out
  have y0 : V5.cell? ⟨w.heap.size + 1, 0, none⟩ = some (.slice A6 0 c6) := cell_of_row _ _ 0 _ _ (0, 0) hr6
  have y1 : V5.cell? ⟨w.heap.size + 1, 1, none⟩ = some (.bool false) := cell_of_row _ _ 1 _ _ (0, 0) hr6
  have x0 : V5.cell? ⟨q, 0, none⟩ = some (.int .i64 prev) := cell_of_row _ _ 0 _ _ (0, 0) HB5.out
  have x1 : V5.cell? ⟨q, 1, none⟩ = some (.int .i64 ver) := cell_of_row _ _ 1 _ _ (0, 0) HB5.out
  have x2 : V5.cell? ⟨q, 2, none⟩ = some (.int .i64 known) := cell_of_row _ _ 2 _ _ (0, 0) HB5.out
  have x3 : V5.cell? ⟨q, 3, none⟩ = some (.slice (some ⟨b5, 0, none⟩) 0 0) := cell_of_row _ _ 3 _ _ (0, 0) HB5.out
  have rlt := theap_lt hr6
  have qlt := theap_lt HB5.out
  clear hV5 hr6 HB5
  have HBA := hide_ (lbatch_nil (w := V5) (A := some ⟨b5, 0, none⟩) (c := 0) prev ver known)
  go_wp2_with (rw [← HV5.out])
  refine HBA.out.mono ?_; rintro e w6 ⟨rfl, hl6⟩
  have z0 := (hl6.cell qlt).trans x0
  have z1 := (hl6.cell qlt).trans x1
  have z2 := (hl6.cell qlt).trans x2
  have z3 := (hl6.cell qlt).trans x3
  have hT6 := later_row hl6 HT5.out
  have HT6 := hide_ hT6
  have t0 := cell_of_row _ _ 0 _ _ (0, 0) hT6
  have t1 := cell_of_row _ _ 1 _ _ (0, 0) hT6
  have t2 := cell_of_row _ _ 2 _ _ (0, 0) hT6
  have t3 := cell_of_row _ _ 3 _ _ (0, 0) hT6
  have u0 := frozen_of_row _ _ 0 _ _ hT6
  have u1 := frozen_of_row _ _ 1 _ _ hT6
  have u2 := frozen_of_row _ _ 2 _ _ hT6
  have u3 := frozen_of_row _ _ 3 _ _ hT6
  have tlt := theap_lt hT6
  have HC6 := hide_ (later_row hl6 HC5.out)
  have HL6 := hide_ (HL5.out.trans hl6)
  have qlt6 : q < w6.heap.size := Nat.lt_of_lt_of_le qlt hl6.size
  clear x0 x1 x2 x3 y0 y1 hT6 hl6 g3 e3
  go_wp2_with fail
  refine lgetB_ret HT6.out rfl rfl rfl ⟨b5, rfl, HBS.out, (put4_hits _ _ _ _ _ _).row HC6.out fun e => ?_, ?_⟩
  · have h := HT6.out
    rw [← e, HC6.out] at h
    injection h with h; injection h with _ h; exact absurd h (by decide)
  · exact Below.trans HL6.out ((put4_hits _ _ _ _ _ _).below (B := w.heap.size) HL6.out.size fun k hk => by omega)

end Go.Proofs.YtcmollfhlillfaaGreatDoor
