/-
  Texts of this seat in one: FrWsh, FrTickB, FrTickO.
-/
import Derived.Test.YtcmollfhlillfaaGreatDoorM40
/-
  front: one wish more.
-/
namespace Go.Proofs.YtcmollfhlillfaaGreatDoor
open Go.RowKit
set_option linter.unusedVariables false
set_option linter.unusedSimpArgs false
theorem wish_grow {w w1 : World} {f : Nat} {s : Fr} {X : List Nat} {cc : FrC} (hp : FrP w f s cc) (hX : X = cc.blocks f) (hnd : X.Nodup) {Aw : Option Addr} {n cw : Nat} (huw : cc.uw = .slice Aw n cw) {Xs : List Nat} (hxw : cc.Xw = obL (.slice Aw n cw) ++ Xs) {A' : Option Addr} {m c' : Nat} {L : List Ws}
    (hS : SliceP 0 89 wishR w1 (.slice A' m c') L Xs) (hg : w.grownBy w1 (Value.slice Aw n cw).ownBlock) (hat : (Value.slice A' m c').ownBlock = (Value.slice Aw n cw).ownBlock ∨ (Value.slice A' m c').ownBlock = some w.heap.size) :
    ∃ X', FrH (w1.setCell ⟨f, 12, none⟩ (.slice A' m c')) f { s with wishes := L } X' ∧ Hits (· ∈ X) w (w1.setCell ⟨f, 12, none⟩ (.slice A' m c')) ∧ Fresh w X X' := by
  have hlt := hp.lt
  have hcn := fun a => cnt_nd hnd a
  rw [hX] at hcn
  unfold FrC.blocks at hcn
  rw [hxw] at hcn
  have hfX : f ∈ X := by rw [hX]; unfold FrC.blocks; simp
  have hmem : ∀ k ∈ obL (.slice Aw n cw), k ∈ X := fun k hk => by
    rw [hX]; unfold FrC.blocks; rw [hxw]; simp [hk]
  have hh1 : Hits (fun k => k ∈ obL (.slice Aw n cw)) w w1 := (Hits.refl _ w).grown hg fun k hk _ => mem_obL.2 hk
  have hh2 : Hits (· = f) w1 (w1.setCell ⟨f, 12, none⟩ (.slice A' m c')) := (Hits.refl (· = f) w1).setCell (g := f) (fun _ => rfl) 12 _
  have hh : Hits (fun k => k = f ∨ k ∈ obL (.slice Aw n cw)) w (w1.setCell ⟨f, 12, none⟩ (.slice A' m c')) := (hh1.mono fun _ _ h => .inr h).trans hh2 fun _ _ h => .inl h
  have hfo : f ∉ obL (.slice Aw n cw) := fun hm => by
    have h1 := hcn f
    have h2 := mem_count hm
    simp only [cnt_cons, List.count_append, if_true] at h1; omega
  have nf : ∀ Y : List Nat, (∀ a, Y.count a + ((if f = a then 1 else 0) + (obL (.slice Aw n cw)).count a) ≤ 1) → ∀ k ∈ Y, ¬ (k = f ∨ k ∈ obL (.slice Aw n cw)) := fun Y hY k hk hF => by
    have h1 := hY k
    have h2 := mem_count hk
    rcases hF with e | hm
    · rw [if_pos e.symm] at h1; omega
    · have h3 := mem_count hm; omega
  have hr1 := hh1.row hp.row hfo
  have hr2 := heap_setCell_same w1 f 12 _ _ (.slice A' m c') hr1
  have hfl : f < w.heap.size := theap_lt hp.row
  have hW : wishesR.holds (w1.setCell ⟨f, 12, none⟩ (.slice A' m c')) [.slice A' m c'] L (obL (.slice A' m c') ++ Xs) := by
    refine (hS.hits hh2 (fun k hk e => ?_) fun k hk e => ?_).holds
    · rcases hat with h1 | h1
      · rw [h1] at hk; exact hfo (by rw [← e]; exact mem_obL.2 hk)
      · rw [h1] at hk; injection hk with hk; omega
    · have h1 := hcn f
      have h2 := mem_count (show f ∈ Xs by rw [← e]; exact hk)
      simp only [cnt_cons, List.count_append, if_true] at h1; omega
  have hnew : ∀ a, (obL (.slice A' m c')).count a ≤ (obL (.slice Aw n cw)).count a + (if a = w.heap.size then 1 else 0) := fun a => by
    unfold obL
    rcases hat with h1 | h1
    · rw [h1]; omega
    · rw [h1]
      simp only [cnt_cons, List.count_nil]
      by_cases e : w.heap.size = a
      · rw [if_pos e, if_pos e.symm]; omega
      · rw [if_neg e]; omega
  refine ⟨FrC.blocks f { cc with uw := .slice A' m c', Xw := obL (.slice A' m c') ++ Xs }, ⟨{ cc with uw := .slice A' m c', Xw := obL (.slice A' m c') ++ Xs }, ⟨hr2, ?_, ?_, ?_, ?_, ?_, hW, ?_⟩, rfl, ?_⟩, ?_, ?_⟩
  · exact intsR.frame hp.chests hh (nf cc.Xc fun a => by have := hcn a; simp only [cnt_cons, List.count_append] at this; omega)
  · exact intsR.frame hp.refs hh (nf cc.Xr fun a => by have := hcn a; simp only [cnt_cons, List.count_append] at this; omega)
  · exact strsR.frame hp.bounds hh (nf cc.Xb fun a => by have := hcn a; simp only [cnt_cons, List.count_append] at this; omega)
  · exact hp.seen.hits hh (nf [cc.m] (fun a => by have := hcn a; simp only [cnt_cons, List.count_append, List.count_nil] at this ⊢; omega) _ (by simp))
  · exact jobsR.frame hp.queue hh (nf cc.Xq fun a => by have := hcn a; simp only [cnt_cons, List.count_append] at this; omega)
  · exact hp.cur.frame hh (nf cc.Xp fun a => by have := hcn a; simp only [cnt_cons, List.count_append] at this; omega)
  · refine List.nodup_iff_count.2 fun a => ?_
    have h1 := hcn a
    have h3 := hnew a
    simp only [FrC.blocks, cnt_cons, List.count_append] at h1 ⊢
    by_cases ha : a = w.heap.size
    · have hz : (FrC.blocks f cc).count a = 0 := List.count_eq_zero.2 fun hm => by have := hlt a hm; omega
      simp only [FrC.blocks, hxw, cnt_cons, List.count_append] at hz
      rw [if_pos ha] at h3
      omega
    · rw [if_neg ha] at h3; omega
  · exact hh.mono fun k _ hk => by
      rcases hk with rfl | hk
      · exact hfX
      · exact hmem k hk
  · intro k hk
    by_cases hk2 : w.heap.size ≤ k
    · exact .inr hk2
    · left
      rw [hX]
      have h3 := mem_count hk
      have h4 := hnew k
      rw [if_neg (by omega)] at h4
      refine List.count_pos_iff.1 ?_
      simp only [FrC.blocks, hxw, cnt_cons, List.count_append] at h3 ⊢
      omega

end Go.Proofs.YtcmollfhlillfaaGreatDoor
/-
  front: a moment, while a batch goes on and its verdicts are not known.
-/
namespace Go.Proofs.YtcmollfhlillfaaGreatDoor
open Go.RowKit
set_option linter.unusedVariables false
set_option linter.unusedSimpArgs false
def tickA (s : Fr) : Fr := if s.cur.isSome = true ∨ 0 < s.wishes.length then { s with stuck := s.stuck + 1 } else { s with number := s.number + 1, wishes := s.wishes ++ [⟨-1, 0, s.number + 1, []⟩] }
def tickOut (s : Fr) : List Msg := match s.cur with
  | none => []
  | some b => match b.verd with
    | none => resolveL s b
    | some _ => pushL s b
def lvTo (s : Fr) (L : List Msg) (i : Nat) : List Msg := L ++ (s.wishes.take i).flatMap (liveL s)
theorem lvTo_next {s : Fr} {L : List Msg} {i : Nat} {u : Ws} (h : s.wishes[i]? = some u) : lvTo s L (i + 1) = lvTo s L i ++ liveL s u := by
  unfold lvTo; rw [take_snoc h, List.flatMap_append, List.append_assoc]; simp
theorem lvTo_zero (s : Fr) (L : List Msg) : lvTo s L 0 = L := by unfold lvTo; simp
theorem lvTo_all {s : Fr} {L : List Msg} {n : Nat} (h : s.wishes.length = n) : lvTo s L n = L ++ s.wishes.flatMap (liveL s) := by unfold lvTo; rw [List.take_of_length_le (by omega)]
theorem lvTo_len {s : Fr} {L : List Msg} (i : Nat) : (lvTo s L i).length ≤ (L ++ s.wishes.flatMap (liveL s)).length := by
  have h : (L ++ s.wishes.flatMap (liveL s)) = lvTo s L i ++ (s.wishes.drop i).flatMap (liveL s) := by
    unfold lvTo; rw [List.append_assoc, ← List.flatMap_append, List.take_append_drop]
  rw [h, List.length_append]; omega
def tickF (s : Fr) : Fr × List Msg := ((goOnF (tickA s)).1, (tickOut (tickA s) ++ (tickA s).wishes.flatMap (liveL (tickA s))) ++ (goOnF (tickA s)).2)
structure TkOk (s : Fr) : Prop where
  begun : s.begun = true
  go : GoOk (tickA s)
  all : AllOk s
  n : s.wishes.length ≤ 1048576
  al : ∀ u ∈ s.wishes, u.alive.length ≤ 1048576
  len : (tickF s).2.length ≤ 1000000
  stuck : 0 ≤ s.stuck ∧ s.stuck ≤ 1000000000000
  num : 0 ≤ s.number ∧ s.number ≤ 1000000000000
  res : ∀ b, (tickA s).cur = some b → b.verd = none → ResOk (tickA s) b
  psh : ∀ b V, (tickA s).cur = some b → b.verd = some V → PushOk (tickA s) b
set_option maxHeartbeats 8000000 in
set_option maxRecDepth 100000 in
theorem tick_res {w : World} {f : Nat} {s : Fr} {X : List Nat} {b : Bt} (h : FrH w f s X) (hok : TkOk s) (hcur : s.cur = some b) (hvd : b.verd = none) :
    Calls Tryz.prog 16 #[.pointer (some ⟨f, 0, none⟩)] w (TurnW w f X (tickF s).1 (tickF s).2) := by
  obtain ⟨cc, bb, bc, M, xs, hca⟩ := cur_open h hcur
  have hrow := hca.p.row
  unfold frCells at hrow
  rw [hca.up, hok.begun] at hrow
  have hbrow := hca.bt.row
  have hver := hca.bt.verd
  rw [hvd] at hver
  rw [hver.1] at hbrow
  have e1 : tickA s = { s with stuck := s.stuck + 1 } := if_pos (.inl (by rw [hcur]; rfl))
  have hp := h.put (s' := { s with stuck := s.stuck + 1 }) 15 (.int .i64 (s.stuck + 1)) ⟨rfl, rfl, rfl, rfl, rfl, rfl, rfl⟩ (fun c => rfl)
  have c16 : w.cell? ⟨f, 16, none⟩ = some (.bool true) := cell_of_row _ _ 16 _ _ (0, 0) hrow
  have c14 : w.cell? ⟨f, 14, none⟩ = some (.pointer (some ⟨bb, 0, none⟩)) := cell_of_row _ _ 14 _ _ (0, 0) hrow
  have c15 : w.cell? ⟨f, 15, none⟩ = some (.int .i64 s.stuck) := cell_of_row _ _ 15 _ _ (0, 0) hrow
  have f15 := frozen_of_row _ _ 15 _ _ hrow
  have hne : ¬ bb = f := fun e => hca.mem.2.2.2.1 e.symm
  have hr1 := heap_setCell_same w f 15 _ _ (.int .i64 (s.stuck + 1)) hrow
  have hh1 : Hits (· = f) w (w.setCell ⟨f, 15, none⟩ (.int .i64 (s.stuck + 1))) := (Hits.refl (· = f) w).setCell (g := f) (fun _ => rfl) 15 _
  have hbr1 := hh1.row hbrow hne
  have d14 : (w.setCell ⟨f, 15, none⟩ (.int .i64 (s.stuck + 1))).cell? ⟨f, 14, none⟩ = some (.pointer (some ⟨bb, 0, none⟩)) := cell_of_row _ _ 14 _ _ (0, 0) hr1
  have d6 : (w.setCell ⟨f, 15, none⟩ (.int .i64 (s.stuck + 1))).cell? ⟨bb, 6, none⟩ = some (.slice none 0 0) := cell_of_row _ _ 6 _ _ (0, 0) hbr1
  have s1 := hok.stuck.1
  have s2 := hok.stuck.2
  have hnil := fun W => eql_slice_nil_any (P := Tryz.prog) Tryz.underlying35 W none 0 0 0 0
  go_enter Tryz.func16, Tryz.ntmps16
  have HM0 := hide_ (Mid.none (f := f) hp.1 hp.2 (Fresh.refl w X))
  obtain ⟨s1, hs1⟩ : ∃ s1, s1 = ({ s with stuck := s.stuck + 1 } : Fr) := ⟨_, rfl⟩
  obtain ⟨W0, hW0⟩ : ∃ W0, W0 = w.setCell ⟨f, 15, none⟩ (.int .i64 (s.stuck + 1)) := ⟨_, rfl⟩
  have hc1 : s1.cur = some b := by rw [hs1]; exact hcur
  have e2 : tickA s = s1 := by rw [hs1]; exact e1
  have HE := hide_ (show tickF s = ((goOnF s1).1, (resolveL s1 b ++ s1.wishes.flatMap (liveL s1)) ++ (goOnF s1).2) by unfold tickF; rw [e2]; unfold tickOut; rw [hc1]; simp only [hvd])
  have HLEN := hide_ hok.len
  rw [HE.out] at HLEN
  have hro := hok.res b (by rw [e2]; exact hc1) hvd
  have hgo := hok.go
  rw [e2] at hro hgo
  rw [← hs1, ← hW0] at HM0
  rw [← hs1] at hp
  rw [← hW0] at hp d14 d6
  have HGO := hide_ hgo
  have HRS := hide_ (resolve_any hp.1 hc1 hro)
  have HWN := hide_ (show s1.wishes.length ≤ 1048577 by rw [hs1]; have := hok.n; show s.wishes.length ≤ _; omega)
  have HAL := hide_ (show ∀ u ∈ s1.wishes, u.alive.length ≤ 1048576 by rw [hs1]; exact hok.al)
  have HAO := hide_ (show AllOk s1 by rw [hs1]; exact ⟨hok.all.c, hok.all.r⟩)
  have HW0 := hide_ hW0; have HC1 := hide_ hc1; have HVD := hide_ hvd
  have s2' : s.stuck + 1 ≤ 1000000000001 := by omega
  clear h hok hca hrow hbrow hver e1 hp hne hr1 hh1 hbr1 hro hgo hs1 hW0 hc1 e2 hcur hvd
  go_wp2_with (rw [← HW0.out])
  refine HRS.out.mono ?_
  rintro e w2 h2
  obtain ⟨A2, n2, c2, Y2, rfl, hn2, hm2, hp2, hy2⟩ := HM0.out.msgs h2
  have HM2 := hide_ hm2; have HP2 := hide_ hp2; have HY2 := hide_ hy2; have HN2 := hide_ hn2
  have hb2 : n2 ≤ 1000000 := by rw [← hn2]; have := HLEN.out; simp only [List.length_append] at this; omega
  have hl2 : Later W0 w2 := by obtain ⟨_, _, _, _, _, _, _, _, h⟩ := h2; exact h
  have g14 := (hl2.cell (cell_lt d14)).trans d14
  have g6 := (hl2.cell (cell_lt d6)).trans d6
  clear h2 hn2 hm2 hp2 hy2 d14 d6 hl2 c14 c15 c16 f15
  go_wp2_with (at_builtin; refine wpList_join rfl (.tmp 81) (.tmp 83) rfl msgT rfl HM2.out.p (show ([] : List Msg).length = 0 from rfl) rfl HP2.out HN2.out (fun k hk => (HY2.out k hk).2.1) (by omega) (by unfold maxLen; omega) HM2.out.hh.size ?c8)
  case c8 =>
    intro A1 c1 W1 hp1 hg1 hat1
    have hm1 := HM2.out.join HY2.out hp1 hg1 hat1
    obtain ⟨cc1, bb1, bc1, M1, xs1, hca1⟩ := cur_open hm1.fr HC1.out
    have hrow1 := hca1.p.row
    unfold frCells at hrow1
    rw [hca1.up] at hrow1
    have hbrow1 := hca1.bt.row
    have hver1 := hca1.bt.verd
    rw [HVD.out] at hver1
    rw [hver1.1] at hbrow1
    have z14 : W1.cell? ⟨f, 14, none⟩ = some (.pointer (some ⟨bb1, 0, none⟩)) := cell_of_row _ _ 14 _ _ (0, 0) hrow1
    have z6 : W1.cell? ⟨bb1, 6, none⟩ = some (.slice none 0 0) := cell_of_row _ _ 6 _ _ (0, 0) hbrow1
    have flt := theap_lt hrow1
    have blt := theap_lt hbrow1
    have HM1 := hide_ (show Mid w f X s1 (.slice A1 n2 c1) ([] ++ resolveL s1 b) W1 ([] ++ Y2) X from hm1)
    have HP1 := hide_ hca1.p
    have HX1 := hide_ hca1.hX
    have HN1 := hide_ (show ([] ++ resolveL s1 b : List Msg).length = n2 from HN2.out)
    clear hp1 hg1 hat1 hm1 hca1 hrow1 hbrow1 hver1 g14 g6
    obtain ⟨L1, hL1⟩ : ∃ L1, L1 = ([] ++ resolveL s1 b : List Msg) := ⟨_, rfl⟩
    obtain ⟨Y1, hY1⟩ : ∃ Y1, Y1 = ([] ++ Y2 : List Nat) := ⟨_, rfl⟩
    obtain ⟨X1, hX1⟩ : ∃ X1, X1 = X := ⟨_, rfl⟩
    have HM1 := hide_ (show Mid w f X s1 (.slice A1 n2 c1) ([] ++ resolveL s1 b) W1 ([] ++ Y2) X1 by rw [hX1]; exact HM1.out)
    have HL1 := hide_ (show L1 = resolveL s1 b by rw [hL1, List.nil_append])
    rw [← hL1] at HN1 HM1
    rw [← hY1] at HM1
    rw [← hX1] at HX1
    obtain ⟨n1, hn1⟩ : ∃ n1, n1 = n2 := ⟨_, rfl⟩
    rw [← hn1] at HM1 HN1 hb2 ⊢
    have HE2 := hide_ (show tickF s = ((goOnF s1).1, (L1 ++ s1.wishes.flatMap (liveL s1)) ++ (goOnF s1).2) by rw [HL1.out]; exact HE.out)
    rw [← HL1.out] at HLEN
    clear hL1 hY1 hX1 hn1 HN2
    -- the wishes
    obtain ⟨Aw, nw, cw, huw, hnw⟩ : ∃ Aw nw cw, cc1.uw = .slice Aw nw cw ∧ nw = s1.wishes.length := by
      obtain ⟨Aw, cw, e⟩ := slice_len HP1.out.wishes
      injection e with e
      exact ⟨Aw, _, cw, e, rfl⟩
    have hrow1 := HP1.out.row
    unfold frCells at hrow1
    rw [huw] at hrow1
    have k12 : W1.cell? ⟨f, 12, none⟩ = some (.slice Aw nw cw) := cell_of_row _ _ 12 _ _ (0, 0) hrow1
    have HUW := hide_ huw
    have HNW := hide_ hnw
    have hnw2 : nw ≤ 1048577 := by rw [hnw]; exact HWN.out
    have hnw3 : (nw : Int) ≤ 1048577 := by omega
    clear huw hnw hrow1
    go_wp2_with fail
    go_loopw [3, 109] (fun s3 s109 wr => ∃ (i m : Nat) (A3 : Option Addr) (c3 : Nat), i ≤ nw ∧ s109 = .int .i64 i ∧ s3 = .slice A3 m c3 ∧ Hid ((lvTo s1 L1 i).length = m) ∧ Hid (∃ Y, Mid w f X s1 (.slice A3 m c3) (lvTo s1 L1 i) wr Y X1) ∧ Hid (FrP wr f s1 cc1) ∧ Hid (w.heap.size ≤ wr.heap.size)) (fun _ i _ => nw - (intOf i).toNat)
    case atStart => exact ⟨0, n1, A1, c1, Nat.zero_le _, rfl, rfl, hide_ (by rw [lvTo_zero]; exact HN1.out), hide_ ⟨Y1, by rw [lvTo_zero]; exact HM1.out⟩, HP1, hide_ HM1.out.hh.size⟩
    case round =>
      obtain ⟨i, m, A3, c3, hi, rfl, rfl, HM, HMD, HPR, HSZ⟩ := hrel
      by_cases hlt : i < nw
      · obtain ⟨u, hu⟩ : ∃ u, s1.wishes[i]? = some u := ⟨_, List.getElem?_eq_getElem (by rw [← HNW.out]; exact hlt)⟩
        have q1 : (i : Int) < (nw : Int) := by omega
        have hwh := HPR.out.wishes
        rw [HUW.out] at hwh
        obtain ⟨_, g, Aa, ca, rfl, y0, y1, y2, y3, hrd⟩ := wish_cells hwh hu
        have HUA := hide_ (HAL.out u (List.mem_of_getElem? hu))
        obtain ⟨na, hna⟩ : ∃ na, na = u.alive.length := ⟨_, rfl⟩
        rw [← hna] at y3 hrd HUA
        have HNA := hide_ hna.symm
        have HRD := hide_ hrd
        have HNX := hide_ (lvTo_next (L := L1) hu)
        have glt := cell_lt y0
        clear hu hwh hrd hna
        obtain ⟨Yc, hmc⟩ := HMD.out
        have HMC := hide_ (hmc.later (later_alloc wr (.cells #[.int .i64 u.guest, .int .i64 u.seq, .int .i64 u.number, .slice Aa na ca] 89)))
        have HLV := hide_ (live_any HMC.out.fr HAO.out u (HRD.out.below (later_alloc wr _)) HNA.out (ca := ca) HUA.out)
        clear hmc
        go_wp2_with fail
        refine HLV.out.mono ?_
        rintro e w5 h5
        have hl5 : Later (wr.alloc (.cells #[.int .i64 u.guest, .int .i64 u.seq, .int .i64 u.number, .slice Aa na ca] 89)) w5 := by obtain ⟨_, _, _, _, _, _, _, _, h⟩ := h5; exact h
        obtain ⟨A5, n5, c5, Y5, rfl, hn5, hm5, hp5, hy5⟩ := HMC.out.msgs h5
        have HM5 := hide_ hm5; have HP5 := hide_ hp5; have HY5 := hide_ hy5; have HN5 := hide_ hn5
        have HPR5 := hide_ ((HPR.out.frame (Hits.later (F := fun _ => False) (later_alloc wr _)) fun _ _ hf => hf).frame (Hits.later (F := fun _ => False) hl5) fun _ _ hf => hf)
        have hb5 : m + n5 ≤ 1000000 := by
          have h1 := lvTo_len (s := s1) (L := L1) (i + 1)
          rw [HNX.out, List.length_append, HM.out, hn5] at h1
          have h2 := HLEN.out
          rw [List.length_append] at h2
          omega
        clear h5 hl5 hn5 hm5 hp5 hy5 y0 y1 y2 y3 HLV HMC HPR
        go_wp2_with (at_builtin; refine wpList_join rfl (.tmp 113) (.tmp 116) rfl msgT rfl HM5.out.p HM.out rfl HP5.out HN5.out (fun k hk => (HY5.out k hk).2.1) (by omega) (by unfold maxLen; omega) HM5.out.hh.size ?c9)
        case c9 =>
          intro A9 c9 w9 hp9 hg9 hat9
          have HM9 := hide_ (HM5.out.join HY5.out hp9 hg9 hat9)
          have HPR9 := hide_ (HPR5.out.frame (F := fun k => (Value.slice A3 m c3).ownBlock = some k) ((Hits.refl _ w5).grown hg9 fun g hg _ => hg) fun k hk e => (HM5.out.ap k (by rw [HX1.out]; exact hk)).1 e)
          clear hp9 hg9 hat9
          go_wp2_with fail
          go_roundw
          case rel => exact ⟨i + 1, m + n5, A9, c9, by omega, by go_num, rfl, hide_ (by rw [HNX.out, List.length_append, HM.out, HN5.out]), hide_ ⟨_, by rw [HNX.out]; exact HM9.out⟩, HPR9, hide_ HM9.out.hh.size⟩
          case measure => simp [intOf]; omega
      · obtain rfl : i = nw := by omega
        have q1 : ¬ (i : Int) < (i : Int) := by omega
        obtain ⟨Yc, hmc⟩ := HMD.out
        rw [lvTo_all HNW.out.symm] at hmc HM
        have HMC := hide_ hmc
        have HG := hide_ (goOn_any hmc.fr HGO.out)
        clear hmc
        go_wp2_with fail
        refine HG.out.mono ?_
        rintro e w5 h5
        obtain ⟨A5, n5, c5, Y5, X5, rfl, hn5, hm5, hp5, hy5⟩ := HMC.out.turn h5
        have HM5 := hide_ hm5; have HP5 := hide_ hp5; have HY5 := hide_ hy5; have HN5 := hide_ hn5
        have hb5 : m + n5 ≤ 1000000 := by
          have h2 := HLEN.out
          rw [List.length_append, HM.out, hn5] at h2
          exact h2
        clear h5 hn5 hm5 hp5 hy5 HMC HMD HPR
        go_wp2_with (at_builtin; refine wpList_join rfl (.tmp 119) (.tmp 121) rfl msgT rfl HM5.out.p HM.out rfl HP5.out HN5.out (fun k hk => (HY5.out k hk).2.1) (by omega) (by unfold maxLen; omega) HM5.out.hh.size ?c9)
        case c9 =>
          intro A9 c9 w9 hp9 hg9 hat9
          rw [← List.append_assoc] at hp9
          have HM9 := hide_ (HM5.out.join HY5.out hp9 hg9 hat9)
          clear hp9 hg9 hat9
          go_wp2_with fail
          go_ret
          rw [HE2.out]
          exact ⟨A9, m + n5, c9, _, _, rfl, by rw [List.length_append, HM.out, HN5.out], HM9.out⟩

end Go.Proofs.YtcmollfhlillfaaGreatDoor
/-
  front: a moment, when nothing goes on: the front asks for itself.
-/
namespace Go.Proofs.YtcmollfhlillfaaGreatDoor
open Go.RowKit
set_option linter.unusedVariables false
set_option linter.unusedSimpArgs false
set_option maxHeartbeats 8000000 in
set_option maxRecDepth 100000 in
theorem tick_own {w : World} {f : Nat} {s : Fr} {X : List Nat} (h : FrH w f s X) (hok : TkOk s) (hcur : s.cur = none) (hwi : s.wishes = []) (hG : OwnG w) (hGX : 0 ∉ X) :
    Calls Tryz.prog 16 #[.pointer (some ⟨f, 0, none⟩)] w (TurnW w f X (tickF s).1 (tickF s).2) := by
  have HXL := hide_ h.lt
  have hp := h.put (s' := { s with number := s.number + 1 }) 13 (.int .i64 (s.number + 1)) ⟨rfl, rfl, rfl, rfl, rfl, rfl, rfl⟩ (fun c => rfl)
  obtain ⟨c0, hp0, hX0, hnd0⟩ := h
  have hcu := hp0.cur
  rw [hcur] at hcu
  obtain ⟨Aw, cw, ew⟩ := slice_len hp0.wishes
  injection ew with ew
  rw [hwi] at ew
  have hrow := hp0.row
  unfold frCells at hrow
  rw [hcu.1, hok.begun, ew] at hrow
  have c16 : w.cell? ⟨f, 16, none⟩ = some (.bool true) := cell_of_row _ _ 16 _ _ (0, 0) hrow
  have c14 : w.cell? ⟨f, 14, none⟩ = some (.pointer none) := cell_of_row _ _ 14 _ _ (0, 0) hrow
  have c12 : w.cell? ⟨f, 12, none⟩ = some (.slice Aw 0 cw) := cell_of_row _ _ 12 _ _ (0, 0) hrow
  have c13 : w.cell? ⟨f, 13, none⟩ = some (.int .i64 s.number) := cell_of_row _ _ 13 _ _ (0, 0) hrow
  have f13 := frozen_of_row _ _ 13 _ _ hrow
  have flt := theap_lt hrow
  have s1 := hok.num.1
  have s2 := hok.num.2
  have hr1 := heap_setCell_same w f 13 _ _ (.int .i64 (s.number + 1)) hrow
  obtain ⟨s1, hs1⟩ : ∃ s1, s1 = ({ s with number := s.number + 1, wishes := [⟨-1, 0, s.number + 1, []⟩] } : Fr) := ⟨_, rfl⟩
  have e2 : tickA s = s1 := by
    rw [hs1]; unfold tickA
    rw [if_neg (by rw [hcur, hwi]; rintro (h | h); cases h; exact absurd h (by decide)), hwi]; rfl
  have hc1 : s1.cur = none := by rw [hs1]; exact hcur
  have HE2 := hide_ (show tickF s = ((goOnF s1).1, ([] ++ s1.wishes.flatMap (liveL s1)) ++ (goOnF s1).2) by unfold tickF; rw [e2]; unfold tickOut; rw [hc1])
  have HLEN := hide_ hok.len
  rw [HE2.out] at HLEN
  have hgo := hok.go
  rw [e2] at hgo
  have HGO := hide_ hgo
  have HWN := hide_ (show s1.wishes.length ≤ 1048577 by rw [hs1]; show 1 ≤ _; omega)
  have HAL := hide_ (show ∀ u ∈ s1.wishes, u.alive.length ≤ 1048576 by rw [hs1]; intro u hu; rw [List.mem_singleton.1 hu]; exact Nat.zero_le _)
  have HAO := hide_ (show AllOk s1 by rw [hs1]; exact ⟨hok.all.c, hok.all.r⟩)
  have hG1 := hG.hits hp.2 hGX
  obtain ⟨W0, hW0⟩ : ∃ W0, W0 = w.setCell ⟨f, 13, none⟩ (.int .i64 (s.number + 1)) := ⟨_, rfl⟩
  rw [← hW0] at hp hr1 hG1
  obtain ⟨cc, hq, hX, hnd⟩ := hp.1
  have hrw := hq.row
  have ehw := hq.wishes
  have z12 : W0.cell? ⟨f, 12, none⟩ = some (.slice Aw 0 cw) := cell_of_row _ _ 12 _ _ (0, 0) hr1
  have z13 : W0.cell? ⟨f, 13, none⟩ = some (.int .i64 (s.number + 1)) := cell_of_row _ _ 13 _ _ (0, 0) hr1
  have euw : cc.uw = .slice Aw 0 cw := Option.some.inj ((show W0.cell? ⟨f, 12, none⟩ = some cc.uw from cell_of_row _ _ 12 _ _ (0, 0) hrw).symm.trans z12)
  obtain ⟨v0, rows, xs, e0, ho0, hr0, hxw⟩ := ehw
  injection e0 with e0
  rw [← e0, euw] at ho0 hxw
  have HSP := hide_ (show SliceP 0 89 wishR W0 (.slice Aw 0 cw) s.wishes xs.flatten from ⟨rows, xs, ho0, hr0, rfl, fun k hk e => by
    have h1 := List.nodup_iff_count.1 hnd k
    rw [hX] at h1
    unfold FrC.blocks at h1
    rw [hxw] at h1
    have h2 := mem_count hk
    have h3 := mem_count (mem_obL.2 e)
    simp only [cnt_cons, List.count_append] at h1
    omega⟩)
  have HNB := hide_ (show ∀ q, (Value.slice Aw 0 cw).ownBlock = some q → q ∈ X ∧ q ≠ f from fun q hq => by
    have h2 := mem_count (mem_obL.2 hq)
    have h1 := List.nodup_iff_count.1 hnd q
    rw [hX] at h1
    unfold FrC.blocks at h1
    rw [hxw] at h1
    simp only [cnt_cons, List.count_append] at h1
    refine ⟨?_, fun e => ?_⟩
    · rw [hX]; unfold FrC.blocks; rw [hxw]; simp [mem_obL.2 hq]
    · rw [if_pos (show f = q from e.symm)] at h1; omega)
  have HGX := hide_ hGX; have HP := hide_ hp; have HQ := hide_ hq; have HX := hide_ hX; have HND := hide_ hnd; have HUW := hide_ euw; have HXW := hide_ hxw
  have k12 := Stands.cell (X := fun q => q = f ∨ q = 0) z12 (.inl rfl)
  have k13 := Stands.cell (X := fun q => q = f ∨ q = 0) z13 (.inl rfl)
  have g0 := Stands.cell (X := fun q => q = f ∨ q = 0) hG1.c0 (.inr rfl)
  have g1 := Stands.cell (X := fun q => q = f ∨ q = 0) hG1.c1 (.inr rfl)
  have HW0 := hide_ hW0; have HRW := hide_ hrw; have HC1 := hide_ hc1; have HS1 := hide_ hs1; have HWI := hide_ hwi
  have glt := cell_lt hG1.c0
  have flt0 := theap_lt hrw
  clear hok hcur hwi hG hGX hp hp0 hX0 hnd0 hcu ew hrow hr1 hs1 e2 hc1 hgo hG1 hW0 hq hX hnd hrw z12 z13 euw e0 ho0 hr0 hxw rows
  go_enter Tryz.func16, Tryz.ntmps16
  go_wp2_with (rw [← HW0.out])
  refine wp_region_z (R := Stands (fun q => q = f ∨ q = 0)) [15] (by kernel_rfl) ?_
  refine wpAnyZ_pure (Stands.steady (fun q => q = f ∨ q = 0)) 0 (v := ?_) rfl (by kernel_rfl) (by kernel_rfl) (by kernel_rfl) (fun _ _ _ h => h) (by rfl) (by intro W; go_simp; with_reducible rfl) ?_; try simp only [Act.put, qA, qZ, qS]
  refine wpAnyZ_pure (Stands.steady (fun q => q = f ∨ q = 0)) 1 (v := ?_) rfl (by kernel_rfl) (by kernel_rfl) (by kernel_rfl) (fun _ _ _ h => h) (by rfl) (by intro W; go_simp; with_reducible rfl) ?_; try simp only [Act.put, qA, qZ, qS]
  refine wpAnyZ_pure (Stands.steady (fun q => q = f ∨ q = 0)) 2 (v := ?_) rfl (by kernel_rfl) (by kernel_rfl) (by kernel_rfl) (fun _ _ _ h => h) (by rfl) (by intro W; go_simp; with_reducible rfl) ?_; try simp only [Act.put, qA, qZ, qS]
  refine wpAnyZ_pure (Stands.steady (fun q => q = f ∨ q = 0)) 3 (v := ?_) rfl (by kernel_rfl) (by kernel_rfl) (by kernel_rfl) (fun _ _ _ h => h) (by rfl) (by intro W; go_simp; with_reducible rfl) ?_; try simp only [Act.put, qA, qZ, qS]
  refine wpAnyZ_take (Stands.steady (fun q => q = f ∨ q = 0)) 4 (v := ?_) rfl (by kernel_rfl) (by kernel_rfl) (by kernel_rfl) (by kernel_rfl) (fun _ _ _ h => h) (by rfl) (by intro W hSw; have hS0 := Stands.trans (show Stands (fun q => q = f ∨ q = 0) W0 _ from by repeat first | with_reducible assumption | with_reducible exact Stands.refl _ _ | with_reducible refine Stands.alloc ?_ _ | with_reducible refine Stands.drew ?_ | with_reducible refine Stands.drewL ?_ | with_reducible refine Stands.setCell ?_ (by assumption) _ _ | assumption | refine Stands.trans ?_ (by assumption)) hSw; go_simp; with_reducible rfl) ?_; try simp only [Act.put, qA, qZ, qS]
  refine wpAnyZ_take (Stands.steady (fun q => q = f ∨ q = 0)) 5 (v := ?_) rfl (by kernel_rfl) (by kernel_rfl) (by kernel_rfl) (by kernel_rfl) (fun _ _ _ h => h) (by rfl) (by intro W hSw; have hS0 := Stands.trans (show Stands (fun q => q = f ∨ q = 0) W0 _ from by repeat first | with_reducible assumption | with_reducible exact Stands.refl _ _ | with_reducible refine Stands.alloc ?_ _ | with_reducible refine Stands.drew ?_ | with_reducible refine Stands.drewL ?_ | with_reducible refine Stands.setCell ?_ (by assumption) _ _ | assumption | refine Stands.trans ?_ (by assumption)) hSw; go_simp; with_reducible rfl) ?_; try simp only [Act.put, qA, qZ, qS]
  refine wpAnyZ_pure (Stands.steady (fun q => q = f ∨ q = 0)) 6 (v := ?_) rfl (by kernel_rfl) (by kernel_rfl) (by kernel_rfl) (fun _ _ _ h => h) (by rfl) (by intro W; go_simp; with_reducible rfl) ?_; try simp only [Act.put, qA, qZ, qS]
  refine wpAnyZ_pure (Stands.steady (fun q => q = f ∨ q = 0)) 7 (v := ?_) rfl (by kernel_rfl) (by kernel_rfl) (by kernel_rfl) (fun _ _ _ h => h) (by rfl) (by intro W; go_simp; with_reducible rfl) ?_; try simp only [Act.put, qA, qZ, qS]
  refine wpAnyZ_pure (Stands.steady (fun q => q = f ∨ q = 0)) 8 (v := ?_) rfl (by kernel_rfl) (by kernel_rfl) (by kernel_rfl) (fun _ _ _ h => h) (by rfl) (by intro W; go_simp; with_reducible rfl) ?_; try simp only [Act.put, qA, qZ, qS]
  refine wpAnyZ_take (Stands.steady (fun q => q = f ∨ q = 0)) 9 (v := ?_) rfl (by kernel_rfl) (by kernel_rfl) (by kernel_rfl) (by kernel_rfl) (fun _ _ _ h => h) (by rfl) (by intro W hSw; have hS0 := Stands.trans (show Stands (fun q => q = f ∨ q = 0) W0 _ from by repeat first | with_reducible assumption | with_reducible exact Stands.refl _ _ | with_reducible refine Stands.alloc ?_ _ | with_reducible refine Stands.drew ?_ | with_reducible refine Stands.drewL ?_ | with_reducible refine Stands.setCell ?_ (by assumption) _ _ | assumption | refine Stands.trans ?_ (by assumption)) hSw; go_simp; with_reducible rfl) ?_; try simp only [Act.put, qA, qZ, qS]
  refine wpAnyZ_pure (Stands.steady (fun q => q = f ∨ q = 0)) 10 (v := ?_) rfl (by kernel_rfl) (by kernel_rfl) (by kernel_rfl) (fun _ _ _ h => h) (by rfl) (by intro W; go_simp; with_reducible rfl) ?_; try simp only [Act.put, qA, qZ, qS]
  refine wpAnyZ_one 11 (by kernel_rfl) rfl (fun K hK => ?_)
  go_simp
  refine hK.out _ _ (by repeat first | with_reducible assumption | with_reducible exact Stands.refl _ _ | with_reducible refine Stands.alloc ?_ _ | with_reducible refine Stands.drew ?_ | with_reducible refine Stands.drewL ?_ | with_reducible refine Stands.setCell ?_ (by assumption) _ _ | assumption | refine Stands.of_later ?_) ?_
  clear hK K; try simp only [Act.put, qA, qZ, qS]
  refine wpAnyZ_one 12 (by kernel_rfl) rfl (fun K hK => ?_)
  refine step_push (by rfl) (.tmp 55) (.tmp 62) rfl wishT rfl (HSP.out.later ((Later.refl W0).dr.al _)) (show s.wishes.length = 0 by rw [HWI.out]; rfl) (b := W0.heap.size) (c := 1) (cells := [.int .i64 (-1), .int .i64 0, .int .i64 (s.number + 1), .slice none 0 0]) (el := ⟨-1, 0, s.number + 1, []⟩) (Y := []) rfl (Rd.newAt W0.drew #[.int .i64 (-1), .int .i64 0, .int .i64 (s.number + 1), .slice none 0 0] 89 1 4 _ (0, 0) rfl rfl) ⟨_, rfl, ints_holds.2 ⟨_, rfl, World.ownsRow_nil _ _ _ _, rfl⟩⟩ (fun g hg => by cases hg) (by omega) (by unfold maxLen; omega) (Nat.zero_le _) ?_; intro A9 c9 w9 hp9 hg9 hat9; have hs9 : Stands (fun q => q = f ∨ q = 0) _ w9 := ((Hits.refl (fun q => (Value.slice Aw 0 cw).ownBlock = some q) _).grown hg9 (fun q hq _ => hq)).stands (fun q _ hq hx => by rcases hx with e | e; (exact (HNB.out q hq).2 e); (exact HGX.out (by rw [← e]; exact (HNB.out q hq).1))); have hs89 := ((Stands.refl (fun q => q = f ∨ q = 0) W0).drew.alloc _).trans hs9; have gf9 : w9.frozen? ⟨f, 12, none⟩ = false := frozen_of_row _ _ 12 _ _ (hs89.2 f _ (.inl rfl) HRW.out); have kc9 : w9.cell? ⟨f, 12, none⟩ = some (.slice Aw 0 cw) := k12 _ hs89
  refine hK.out _ _ (by repeat first | with_reducible assumption | with_reducible exact Stands.refl _ _ | with_reducible refine Stands.alloc ?_ _ | with_reducible refine Stands.drew ?_ | with_reducible refine Stands.drewL ?_ | with_reducible refine Stands.setCell ?_ (by assumption) _ _ | assumption | refine Stands.of_later ?_) ?_
  clear hK K; try simp only [Act.put, qA, qZ, qS]
  refine wpAnyZ_pure (Stands.steady (fun q => q = f ∨ q = 0)) 13 (v := ?_) rfl (by kernel_rfl) (by kernel_rfl) (by kernel_rfl) (fun _ _ _ h => h) (by rfl) (by intro W; go_simp; with_reducible rfl) ?_; try simp only [Act.put, qA, qZ, qS]
  refine wpAnyZ_pure (Stands.steady (fun q => q = f ∨ q = 0)) 14 (v := ?_) rfl (by kernel_rfl) (by kernel_rfl) (by kernel_rfl) (fun _ _ _ h => h) (by rfl) (by intro W; go_simp; with_reducible rfl) ?_; try simp only [Act.put, qA, qZ, qS]
  refine wpAnyZ_loud 15 (by kernel_rfl) (by rfl) rfl (fun K hK => ?_)
  go_simp
  refine hK.out _ _ ?_
  clear hK K; try simp only [Act.put, qA, qZ, qS]
  refine wpAnyZ_done (by kernel_rfl) ?_ _
  have hlw := (Later.refl W0).dr.al (.cells #[.int .i64 (-1), .int .i64 0, .int .i64 (s.number + 1), .slice none 0 0] 89)
  obtain ⟨X1, hf1, hh1, hfs1⟩ := wish_grow (HQ.out.frame (Hits.later (F := fun _ => False) hlw) fun _ _ hf => hf) HX.out HND.out HUW.out (Xs := xs.flatten ++ []) (by rw [List.append_nil]; exact HXW.out) hp9 hg9 hat9
  have hs1 : ({ ({ s with number := s.number + 1 } : Fr) with wishes := s.wishes ++ [⟨-1, 0, s.number + 1, []⟩] } : Fr) = s1 := by rw [HS1.out, HWI.out]; rfl
  rw [show ({ ({ s with number := s.number + 1 } : Fr) with wishes := s.wishes ++ [⟨-1, 0, s.number + 1, []⟩] } : Fr) = s1 from hs1] at hf1
  have HM1 := hide_ (show Mid w f X s1 (.slice none 0 0) [] (w9.setCell ⟨f, 12, none⟩ (.slice A9 1 c9)) [] X1 from Mid.none hf1 ((HP.out.2.thenLater hlw).trans hh1 fun _ _ h => h) fun k hk => (hfs1 k hk).elim .inl fun h => .inr (Nat.le_trans (Nat.le_trans HP.out.2.size hlw.size) h))
  obtain ⟨W1, hW1⟩ : ∃ W1, W1 = w9.setCell ⟨f, 12, none⟩ (.slice A9 1 c9) := ⟨_, rfl⟩
  rw [← hW1] at hf1 HM1 ⊢
  obtain ⟨cc1, hp1, hX1, _⟩ := hf1
  have hcu1 := hp1.cur
  rw [HC1.out] at hcu1
  have hrow2 := hp1.row
  unfold frCells at hrow2
  rw [hcu1.1] at hrow2
  have z14 : W1.cell? ⟨f, 14, none⟩ = some (.pointer none) := cell_of_row _ _ 14 _ _ (0, 0) hrow2
  have flt1 := theap_lt hrow2
  obtain ⟨L1, hL1⟩ : ∃ L1, L1 = ([] : List Msg) := ⟨_, rfl⟩
  obtain ⟨Y1, hY1⟩ : ∃ Y1, Y1 = ([] : List Nat) := ⟨_, rfl⟩
  have HM1 := hide_ (show Mid w f X s1 (.slice none 0 0) L1 W1 Y1 X1 by rw [hL1, hY1]; exact HM1.out)
  have HN1 := hide_ (show L1.length = 0 by rw [hL1]; rfl)
  rw [← hL1] at HE2 HLEN
  have HP1 := hide_ hp1
  have HX1 := hide_ hX1
  clear hlw hh1 hfs1 hs1 hW1 hp1 hX1 hcu1 hrow2 hL1 hY1 k12 k13 g0 g1 hp9 hg9 hat9 hs9 hs89 gf9 kc9
  -- the wishes
  obtain ⟨Aw, nw, cw, huw, hnw⟩ : ∃ Aw nw cw, cc1.uw = .slice Aw nw cw ∧ nw = s1.wishes.length := by
    obtain ⟨Aw, cw, e⟩ := slice_len HP1.out.wishes
    injection e with e
    exact ⟨Aw, _, cw, e, rfl⟩
  have hrow1 := HP1.out.row
  unfold frCells at hrow1
  rw [huw] at hrow1
  have k12 : W1.cell? ⟨f, 12, none⟩ = some (.slice Aw nw cw) := cell_of_row _ _ 12 _ _ (0, 0) hrow1
  have HUW := hide_ huw
  have HNW := hide_ hnw
  have hnw2 : nw ≤ 1048577 := by rw [hnw]; exact HWN.out
  have hnw3 : (nw : Int) ≤ 1048577 := by omega
  clear huw hnw hrow1
  go_wp2_with fail
  go_loopw [3, 109] (fun s3 s109 wr => ∃ (i m : Nat) (A3 : Option Addr) (c3 : Nat), i ≤ nw ∧ s109 = .int .i64 i ∧ s3 = .slice A3 m c3 ∧ Hid ((lvTo s1 L1 i).length = m) ∧ Hid (∃ Y, Mid w f X s1 (.slice A3 m c3) (lvTo s1 L1 i) wr Y X1) ∧ Hid (FrP wr f s1 cc1) ∧ Hid (w.heap.size ≤ wr.heap.size)) (fun _ i _ => nw - (intOf i).toNat)
  case atStart => exact ⟨0, 0, none, 0, Nat.zero_le _, rfl, rfl, hide_ (by rw [lvTo_zero]; exact HN1.out), hide_ ⟨Y1, by rw [lvTo_zero]; exact HM1.out⟩, HP1, hide_ HM1.out.hh.size⟩
  case round =>
    obtain ⟨i, m, A3, c3, hi, rfl, rfl, HM, HMD, HPR, HSZ⟩ := hrel
    by_cases hlt : i < nw
    · obtain ⟨u, hu⟩ : ∃ u, s1.wishes[i]? = some u := ⟨_, List.getElem?_eq_getElem (by rw [← HNW.out]; exact hlt)⟩
      have q1 : (i : Int) < (nw : Int) := by omega
      have hwh := HPR.out.wishes
      rw [HUW.out] at hwh
      obtain ⟨_, g, Aa, ca, rfl, y0, y1, y2, y3, hrd⟩ := wish_cells hwh hu
      have HUA := hide_ (HAL.out u (List.mem_of_getElem? hu))
      obtain ⟨na, hna⟩ : ∃ na, na = u.alive.length := ⟨_, rfl⟩
      rw [← hna] at y3 hrd HUA
      have HNA := hide_ hna.symm
      have HRD := hide_ hrd
      have HNX := hide_ (lvTo_next (L := L1) hu)
      have glt := cell_lt y0
      clear hu hwh hrd hna
      obtain ⟨Yc, hmc⟩ := HMD.out
      have HMC := hide_ (hmc.later (later_alloc wr (.cells #[.int .i64 u.guest, .int .i64 u.seq, .int .i64 u.number, .slice Aa na ca] 89)))
      have HLV := hide_ (live_any HMC.out.fr HAO.out u (HRD.out.below (later_alloc wr _)) HNA.out (ca := ca) HUA.out)
      clear hmc
      go_wp2_with fail
      refine HLV.out.mono ?_
      rintro e w5 h5
      have hl5 : Later (wr.alloc (.cells #[.int .i64 u.guest, .int .i64 u.seq, .int .i64 u.number, .slice Aa na ca] 89)) w5 := by obtain ⟨_, _, _, _, _, _, _, _, h⟩ := h5; exact h
      obtain ⟨A5, n5, c5, Y5, rfl, hn5, hm5, hp5, hy5⟩ := HMC.out.msgs h5
      have HM5 := hide_ hm5; have HP5 := hide_ hp5; have HY5 := hide_ hy5; have HN5 := hide_ hn5
      have HPR5 := hide_ ((HPR.out.frame (Hits.later (F := fun _ => False) (later_alloc wr _)) fun _ _ hf => hf).frame (Hits.later (F := fun _ => False) hl5) fun _ _ hf => hf)
      have hb5 : m + n5 ≤ 1000000 := by
        have h1 := lvTo_len (s := s1) (L := L1) (i + 1)
        rw [HNX.out, List.length_append, HM.out, hn5] at h1
        have h2 := HLEN.out
        rw [List.length_append] at h2
        omega
      clear h5 hl5 hn5 hm5 hp5 hy5 y0 y1 y2 y3 HLV HMC HPR
      go_wp2_with (at_builtin; refine wpList_join rfl (.tmp 113) (.tmp 116) rfl msgT rfl HM5.out.p HM.out rfl HP5.out HN5.out (fun k hk => (HY5.out k hk).2.1) (by omega) (by unfold maxLen; omega) HM5.out.hh.size ?c9)
      case c9 =>
        intro A9 c9 w9 hp9 hg9 hat9
        have HM9 := hide_ (HM5.out.join HY5.out hp9 hg9 hat9)
        have HPR9 := hide_ (HPR5.out.frame (F := fun k => (Value.slice A3 m c3).ownBlock = some k) ((Hits.refl _ w5).grown hg9 fun g hg _ => hg) fun k hk e => (HM5.out.ap k (by rw [HX1.out]; exact hk)).1 e)
        clear hp9 hg9 hat9
        go_wp2_with fail
        go_roundw
        case rel => exact ⟨i + 1, m + n5, A9, c9, by omega, by go_num, rfl, hide_ (by rw [HNX.out, List.length_append, HM.out, HN5.out]), hide_ ⟨_, by rw [HNX.out]; exact HM9.out⟩, HPR9, hide_ HM9.out.hh.size⟩
        case measure => simp [intOf]; omega
    · obtain rfl : i = nw := by omega
      have q1 : ¬ (i : Int) < (i : Int) := by omega
      obtain ⟨Yc, hmc⟩ := HMD.out
      rw [lvTo_all HNW.out.symm] at hmc HM
      have HMC := hide_ hmc
      have HG := hide_ (goOn_any hmc.fr HGO.out)
      clear hmc
      go_wp2_with fail
      refine HG.out.mono ?_
      rintro e w5 h5
      obtain ⟨A5, n5, c5, Y5, X5, rfl, hn5, hm5, hp5, hy5⟩ := HMC.out.turn h5
      have HM5 := hide_ hm5; have HP5 := hide_ hp5; have HY5 := hide_ hy5; have HN5 := hide_ hn5
      have hb5 : m + n5 ≤ 1000000 := by
        have h2 := HLEN.out
        rw [List.length_append, HM.out, hn5] at h2
        exact h2
      clear h5 hn5 hm5 hp5 hy5 HMC HMD HPR
      go_wp2_with (at_builtin; refine wpList_join rfl (.tmp 119) (.tmp 121) rfl msgT rfl HM5.out.p HM.out rfl HP5.out HN5.out (fun k hk => (HY5.out k hk).2.1) (by omega) (by unfold maxLen; omega) HM5.out.hh.size ?c9)
      case c9 =>
        intro A9 c9 w9 hp9 hg9 hat9
        rw [← List.append_assoc] at hp9
        have HM9 := hide_ (HM5.out.join HY5.out hp9 hg9 hat9)
        clear hp9 hg9 hat9
        go_wp2_with fail
        go_ret
        rw [HE2.out]
        exact ⟨A9, m + n5, c9, _, _, rfl, by rw [List.length_append, HM.out, HN5.out], HM9.out⟩

end Go.Proofs.YtcmollfhlillfaaGreatDoor
