/-
  Texts of this seat in one: FrGo, FrJoin, FrPsA.
-/
import Derived.Test.YtcmollfhlillfaaGreatDoorM37
import Derived.Test.YtcmollfhlillfaaGreatDoorM30
/-
  front: goOn.
-/
namespace Go.Proofs.YtcmollfhlillfaaGreatDoor
open Go.RowKit
set_option linter.unusedVariables false
set_option linter.unusedSimpArgs false
def goOnF (s : Fr) : Fr × List Msg := match s.cur with
  | some b => advanceF s b
  | none => if s.begun = false ∨ 4611686018426339328 < s.version ∨ (s.queue.length = 0 ∧ s.owed = false) then (s, []) else (openF s, resolveL (openF s) (openB s))
structure GoOk (s : Fr) : Prop where
  adv : ∀ b, s.cur = some b → AdvOk s b
  opn : s.cur = none → s.version ≤ 4611686018426339328 → FrOk s
set_option maxHeartbeats 8000000 in
set_option maxRecDepth 100000 in
theorem goOn_any {w : World} {f : Nat} {s : Fr} {X : List Nat} (h : FrH w f s X) (hok : GoOk s) :
    Calls Tryz.prog 33 #[.pointer (some ⟨f, 0, none⟩)] w (TurnPost w f X (goOnF s).1 (goOnF s).2) := by
  cases hcur : s.cur with
  | some b =>
    obtain ⟨cc, bb, bc, M, xs, hca⟩ := cur_open h hcur
    have hrow := hca.p.row
    unfold frCells at hrow
    rw [hca.up] at hrow
    have c14 : w.cell? ⟨f, 14, none⟩ = some (.pointer (some ⟨bb, 0, none⟩)) := cell_of_row _ _ 14 _ _ (0, 0) hrow
    have blt := theap_lt hca.bt.row
    have HA := hide_ (advance_any h hcur (hok.adv b hcur))
    have HE := hide_ (show goOnF s = advanceF s b by unfold goOnF; rw [hcur])
    clear h hok hcur hca hrow
    go_enter Tryz.func33, Tryz.ntmps33
    go_wp2_with fail
    refine HA.out.mono ?_
    rintro e w9 ⟨A9, n9, c9, Y, X', base, rfl, hL, hS, hY, hb, hX', hf, hh, hfr⟩
    go_wp2_with fail
    go_ret
    rw [HE.out]
    exact ⟨A9, n9, c9, Y, X', base, rfl, hL, hS, hY, hb, hX', hf, hh, hfr⟩
  | none =>
    obtain ⟨cc, hp, hX, hnd⟩ := id h
    have hcu := hp.cur
    rw [hcur] at hcu
    have hrow := hp.row
    unfold frCells at hrow
    rw [hcu.1] at hrow
    obtain ⟨Aq, cq, eq⟩ := slice_len hp.queue
    injection eq with eq
    rw [eq] at hrow
    obtain ⟨nq, hnq⟩ : ∃ n, n = s.queue.length := ⟨_, rfl⟩
    obtain ⟨bg, hbg⟩ : ∃ n, n = s.begun := ⟨_, rfl⟩
    obtain ⟨ow, how⟩ : ∃ n, n = s.owed := ⟨_, rfl⟩
    obtain ⟨vs, hvs⟩ : ∃ n, n = s.version := ⟨_, rfl⟩
    rw [← hnq, ← hbg, ← how, ← hvs] at hrow
    have c14 : w.cell? ⟨f, 14, none⟩ = some (.pointer none) := cell_of_row _ _ 14 _ _ (0, 0) hrow
    have c16 : w.cell? ⟨f, 16, none⟩ = some (.bool bg) := cell_of_row _ _ 16 _ _ (0, 0) hrow
    have c7 : w.cell? ⟨f, 7, none⟩ = some (.int .i64 vs) := cell_of_row _ _ 7 _ _ (0, 0) hrow
    have c11 : w.cell? ⟨f, 11, none⟩ = some (.slice Aq nq cq) := cell_of_row _ _ 11 _ _ (0, 0) hrow
    have c9 : w.cell? ⟨f, 9, none⟩ = some (.bool ow) := cell_of_row _ _ 9 _ _ (0, 0) hrow
    have HE := hide_ (show goOnF s = if bg = false ∨ 4611686018426339328 < vs ∨ (nq = 0 ∧ ow = false) then (s, []) else (openF s, resolveL (openF s) (openB s)) by rw [hnq, hbg, how, hvs]; unfold goOnF; rw [hcur])
    have HNO := hide_ (fun (hE : goOnF s = (s, [])) => (show TurnPost w f X (goOnF s).1 (goOnF s).2 (.returned (.slice none 0 0)) w by rw [hE]; exact turn_none h (Hits.refl _ _) (Fresh.refl _ _)))
    have HO := hide_ (fun (hv : vs ≤ 4611686018426339328) => open_any h hcur (hok.opn hcur (by rw [← hvs]; exact hv)))
    have flt := theap_lt hrow
    clear h hok hcur hp hX hnd hcu hrow eq hnq hbg how hvs
    cases bg with
    | false =>
      go_enter Tryz.func33, Tryz.ntmps33
      go_wp2_with fail
      go_ret
      exact HNO.out (HE.out.trans (if_pos (by simp)))
    | true =>
      by_cases hv : 4611686018426339328 < vs
      · go_enter Tryz.func33, Tryz.ntmps33
        go_wp2_with fail
        go_ret
        exact HNO.out (HE.out.trans (if_pos (.inr (.inl hv))))
      · have HO2 := hide_ (HO.out (by omega))
        clear HO
        by_cases hq : nq = 0
        · subst hq
          cases ow with
          | false =>
            go_enter Tryz.func33, Tryz.ntmps33
            go_wp2_with fail
            go_ret
            exact HNO.out (HE.out.trans (if_pos (by simp)))
          | true =>
            have HE2 := hide_ (HE.out.trans (if_neg (by rintro (h | h | ⟨_, h⟩); cases h; exact hv h; cases h)))
            go_enter Tryz.func33, Tryz.ntmps33
            go_wp2_with fail
            refine HO2.out.mono ?_
            rintro e w9 ⟨A9, n9, c9, Y, X', base, rfl, hL, hS, hY, hb, hX', hf, hh, hfr⟩
            go_wp2_with fail
            go_ret
            rw [HE2.out]
            exact ⟨A9, n9, c9, Y, X', base, rfl, hL, hS, hY, hb, hX', hf, hh, hfr⟩
        · have HE2 := hide_ (HE.out.trans (if_neg (by rintro (h | h | ⟨h, _⟩); cases h; exact hv h; exact hq h)))
          have hq2 : ¬ (nq : Int) = 0 := by omega
          go_enter Tryz.func33, Tryz.ntmps33
          go_wp2_with fail
          refine HO2.out.mono ?_
          rintro e w9 ⟨A9, n9, c9, Y, X', base, rfl, hL, hS, hY, hb, hX', hf, hh, hfr⟩
          go_wp2_with fail
          go_ret
          rw [HE2.out]
          exact ⟨A9, n9, c9, Y, X', base, rfl, hL, hS, hY, hb, hX', hf, hh, hfr⟩

end Go.Proofs.YtcmollfhlillfaaGreatDoor
/-
  front: a row of one's own grows by a whole row.
-/
namespace Go.Proofs.YtcmollfhlillfaaGreatDoor
open Go.RowKit
set_option linter.unusedVariables false
set_option linter.unusedSimpArgs false
theorem wpList_join {α : Type} {P : Program} {base base2 : Nat} {t e : TypeId} {r : Rep α} {w : World} {v : Value} {L L2 : List α} {X Y : List Nat} {ops : Array Oper} {rest : List Oper} {o : Oper} {a : Act} {Q : Exit → Act → World → Prop} {bytes n m : Nat}
    (hgd : o.guard = none) (s x : Operand) (ho : o.op = .call { callee := .builtin .append, args := #[s, x], argTypes := #[t, t] }) (E : ElemT P t e r.size bytes) (hs : a.eval s = v) (h : SliceP base e r w v L X) (hn : L.length = n)
    {A : Option Addr} {c : Nat} (hx : a.eval x = .slice A m c) (h2 : SliceP base2 e r w (.slice A m c) L2 Y) (hm : L2.length = m) (hY : ∀ k ∈ Y, v.ownBlock ≠ some k)
    (hbytes : (n + m) * bytes ≤ 140737488355328) (h63 : n + m ≤ maxLen) (hbase : base ≤ w.heap.size)
    (hK : ∀ A' c' w', SliceP base e r w' (.slice A' (n + m) c') (L ++ L2) (X ++ Y) → w.grownBy w' v.ownBlock → ((Value.slice A' (n + m) c').ownBlock = v.ownBlock ∨ (Value.slice A' (n + m) c').ownBlock = some w.heap.size) →
      wpList P ops Q rest (a.put o.dst (.slice A' (n + m) c')) w') : wpList P ops Q (o :: rest) a w := by
  subst hn hm
  obtain ⟨rows, xs, h1, hr1, rfl, h3⟩ := h
  obtain ⟨rows2, xs2, k1, kr1, rfl, k3⟩ := h2
  have hnil : A = none → L2.length = 0 := fun e => by
    subst e
    rcases k1.2 with ⟨_, h0⟩ | ⟨g, cap, cur, hv, _⟩
    · exact h0
    · cases hv
  refine wpList_append_rd w hgd s x t ho base e r.size bytes E v L.length rows.flatten hs h1 A L2.length c rows2.flatten hx (Rd.of_own k1) kr1.one hbytes h63 hbase hnil ?_
  intro v' w' hown hg hat
  obtain ⟨A', c', rfl⟩ := own_form hown
  have hh : Hits (fun k => v.ownBlock = some k) w w' := (Hits.refl _ w).grown hg fun g hg _ => hg
  refine hK A' c' w' ⟨rows ++ rows2, xs ++ xs2, ?_, ?_, by simp, ?_⟩ hg hat
  · rw [List.flatten_append, List.length_append]; exact hown
  · exact Rows.append (hr1.frame hh fun k hk hf => h3 k hk hf) (kr1.frame hh fun k hk hf => hY k hk hf)
  · intro k hk
    rcases List.mem_append.1 hk with hk2 | hk2
    · rcases hat with e1 | e1
      · rw [e1]; exact h3 k hk2
      · rw [e1]; intro e2; injection e2 with e2; have := hr1.lt k hk2; omega
    · rcases hat with e1 | e1
      · rw [e1]; exact hY k hk2
      · rw [e1]; intro e2; injection e2 with e2; have := kr1.lt k hk2; omega
end Go.Proofs.YtcmollfhlillfaaGreatDoor
/-
  front: one more chest has the batch; a batch that is done.
-/
namespace Go.Proofs.YtcmollfhlillfaaGreatDoor
open Go.RowKit
set_option linter.unusedVariables false
set_option linter.unusedSimpArgs false
theorem pushed_grow {w w1 : World} {f : Nat} {s : Fr} {X : List Nat} {cc : FrC} {bb : Nat} {b : Bt} {bc : BtC} {M : MP} {xs : List (List Nat)} (h : CurAt w f s X cc bb b bc M xs) {Ap : Option Addr} {kp : Nat} (hup : bc.up = .slice Ap b.pushed.length kp) {A' : Option Addr} {c' : Nat} (frm : Int)
    (ho : w1.ownsRow 0 3 1 (.slice A' (b.pushed.length + 1) c') (b.pushed.length + 1) (ints (b.pushed ++ [frm]))) (hg : w.grownBy w1 (Value.slice Ap b.pushed.length kp).ownBlock) (hat : (Value.slice A' (b.pushed.length + 1) c').ownBlock = (Value.slice Ap b.pushed.length kp).ownBlock ∨ (Value.slice A' (b.pushed.length + 1) c').ownBlock = some w.heap.size) :
    ∃ X' cc' bc', CurAt (w1.setCell ⟨bb, 7, none⟩ (.slice A' (b.pushed.length + 1) c')) f { s with cur := some { b with pushed := b.pushed ++ [frm] } } X' cc' bb { b with pushed := b.pushed ++ [frm] } bc' M xs ∧ Hits (· ∈ X) w (w1.setCell ⟨bb, 7, none⟩ (.slice A' (b.pushed.length + 1) c')) ∧ Fresh w X X' := by
  obtain ⟨hf, hbX, hmX, n1, n2, n3⟩ := h.mem
  have hp := h.p
  have hbt := h.bt
  have hlt := hp.lt
  obtain ⟨v0, e0, _, hxp⟩ := ints_holds.1 hbt.pushed
  injection e0 with e0
  rw [← e0, hup] at hxp
  have hcn : ∀ a, _ := h.cnt
  have hmem : ∀ k ∈ obL (.slice Ap b.pushed.length kp), k ∈ X := fun k hk => by
    rw [h.hX]; simp only [FrC.blocks, h.xp, BtC.blocks, hxp]; simp [hk]
  have hold : ∀ a, (obL (.slice Ap b.pushed.length kp)).count a = bc.Xp.count a := fun a => by rw [hxp]
  have hh1 : Hits (fun k => k ∈ obL (.slice Ap b.pushed.length kp)) w w1 := (Hits.refl _ w).grown hg fun k hk _ => mem_obL.2 hk
  have hh2 : Hits (· = bb) w1 (w1.setCell ⟨bb, 7, none⟩ (.slice A' (b.pushed.length + 1) c')) := (Hits.refl (· = bb) w1).setCell (g := bb) (fun _ => rfl) 7 _
  have hh : Hits (fun k => k = bb ∨ k ∈ obL (.slice Ap b.pushed.length kp)) w (w1.setCell ⟨bb, 7, none⟩ (.slice A' (b.pushed.length + 1) c')) := (hh1.mono fun _ _ h => .inr h).trans hh2 fun _ _ h => .inl h
  have hbo : bb ∉ obL (.slice Ap b.pushed.length kp) := fun hm => by
    have h1 := hcn bb
    have h2 := mem_count hm
    rw [hold] at h2
    rw [if_pos (show bb = bb from rfl)] at h1; omega
  have nf : ∀ Y : List Nat, (∀ a, Y.count a + ((if bb = a then 1 else 0) + bc.Xp.count a) ≤ 1) → ∀ k ∈ Y, ¬ (k = bb ∨ k ∈ obL (.slice Ap b.pushed.length kp)) := fun Y hY k hk hF => by
    have h1 := hY k
    have h2 := mem_count hk
    rcases hF with e | hm
    · rw [if_pos e.symm] at h1; omega
    · have h3 := mem_count hm
      rw [hold] at h3; omega
  have hr1 := hh1.row hbt.row hbo
  have hr2 := heap_setCell_same w1 bb 7 _ _ (.slice A' (b.pushed.length + 1) c') hr1
  have hbl : bb < w.heap.size := theap_lt hbt.row
  have ho2 := hh2.own ho fun k hk e => by
    rcases hat with h1 | h1
    · rw [h1] at hk; exact hbo (by rw [← e]; exact mem_obL.2 hk)
    · rw [h1] at hk; injection hk with hk; omega
  have hlen : (b.pushed ++ [frm]).length = b.pushed.length + 1 := by simp
  have hnew : ∀ a, (obL (.slice A' (b.pushed.length + 1) c')).count a ≤ bc.Xp.count a + (if a = w.heap.size then 1 else 0) := fun a => by
    rw [← hold]
    unfold obL
    rcases hat with h1 | h1
    · rw [h1]; omega
    · rw [h1]
      simp only [cnt_cons, List.count_nil]
      by_cases e : w.heap.size = a
      · rw [if_pos e, if_pos e.symm]; omega
      · rw [if_neg e]; omega
  have hbt2 : BtH (w1.setCell ⟨bb, 7, none⟩ (.slice A' (b.pushed.length + 1) c')) bb { b with pushed := b.pushed ++ [frm] } { bc with up := .slice A' (b.pushed.length + 1) c', Xp := obL (.slice A' (b.pushed.length + 1) c') } :=
    ⟨hr2, chgsR.frame hbt.chg hh (nf bc.Xc fun a => by have := hcn a; omega), jobsR.frame hbt.jobs hh (nf bc.Xj fun a => by have := hcn a; omega), hbt.told.frame hh (nf [bc.m] (fun a => by have := hcn a; simp only [cnt_cons, List.count_nil]; omega) _ (by simp)) (by rw [h.xm]; exact nf xs.flatten fun a => by have := hcn a; omega), hbt.verd.frame hh (nf bc.Xv fun a => by have := hcn a; omega), ints_holds.2 ⟨_, rfl, by rw [hlen]; exact ho2, rfl⟩⟩
  refine ⟨FrC.blocks f { cc with Xp := bb :: BtC.blocks { bc with up := .slice A' (b.pushed.length + 1) c', Xp := obL (.slice A' (b.pushed.length + 1) c') } }, { cc with Xp := bb :: BtC.blocks { bc with up := .slice A' (b.pushed.length + 1) c', Xp := obL (.slice A' (b.pushed.length + 1) c') } }, { bc with up := .slice A' (b.pushed.length + 1) c', Xp := obL (.slice A' (b.pushed.length + 1) c') }, ⟨?_, rfl, ?_, h.up, hbt2, rfl, ?_, h.keys, ?_, h.xm⟩, ?_, ?_⟩
  · refine ⟨hh.row hp.row (nf [f] (fun a => by have := hcn a; simp only [cnt_cons, List.count_nil]; omega) _ (by simp)), ?_, ?_, ?_, ?_, ?_, ?_, ⟨bb, _, h.up, hbt2, rfl⟩⟩
    · exact intsR.frame hp.chests hh (nf cc.Xc fun a => by have := hcn a; omega)
    · exact intsR.frame hp.refs hh (nf cc.Xr fun a => by have := hcn a; omega)
    · exact strsR.frame hp.bounds hh (nf cc.Xb fun a => by have := hcn a; omega)
    · exact hp.seen.hits hh (nf [cc.m] (fun a => by have := hcn a; simp only [cnt_cons, List.count_nil]; omega) _ (by simp))
    · exact jobsR.frame hp.queue hh (nf cc.Xq fun a => by have := hcn a; omega)
    · exact wishesR.frame hp.wishes hh (nf cc.Xw fun a => by have := hcn a; omega)
  · refine List.nodup_iff_count.2 fun a => ?_
    have h1 := hcn a
    have h3 := hnew a
    simp only [FrC.blocks, BtC.blocks, h.xm, cnt_cons, List.count_append] at h1 ⊢
    by_cases ha : a = w.heap.size
    · have hz : (FrC.blocks f cc).count a = 0 := List.count_eq_zero.2 fun hm => by have := hlt a hm; omega
      simp only [FrC.blocks, h.xp, BtC.blocks, h.xm, cnt_cons, List.count_append] at hz
      rw [if_pos ha] at h3
      omega
    · rw [if_neg ha] at h3; omega
  · exact h.mm.hits hh (nf [bc.m] (fun a => by have := hcn a; simp only [cnt_cons, List.count_nil]; omega) _ (by simp))
  · exact h.rs.frame hh (nf xs.flatten fun a => by have := hcn a; omega)
  · exact hh.mono fun k _ hk => by
      rcases hk with rfl | hk
      · exact hbX
      · exact hmem k hk
  · intro k hk
    by_cases hk2 : w.heap.size ≤ k
    · exact .inr hk2
    · left
      rw [h.hX]
      have h3 := mem_count hk
      have h4 := hnew k
      rw [if_neg (by omega)] at h4
      refine List.count_pos_iff.1 ?_
      simp only [FrC.blocks, h.xp, BtC.blocks, h.xm, cnt_cons, List.count_append] at h3 ⊢
      omega
/-- The batch is done. -/
theorem cur_done {w w' : World} {f : Nat} {s : Fr} {X : List Nat} {cc : FrC} {bb : Nat} {b : Bt} {bc : BtC} {M : MP} {xs : List (List Nat)} (h : CurAt w f s X cc bb b bc M xs) (kn : Int) (ow : Bool) (hw : w' = ((w.setCell ⟨f, 8, none⟩ (.int .i64 kn)).setCell ⟨f, 14, none⟩ (.pointer none)).setCell ⟨f, 9, none⟩ (.bool ow)) :
    ∃ X', FrH w' f { s with known := kn, cur := none, owed := ow } X' ∧ Hits (· = f) w w' ∧ (∀ k ∈ X', k ∈ X) := by
  obtain ⟨hf, hbX, hmX, n1, n2, n3⟩ := h.mem
  have hp := h.p
  have hcn : ∀ a, _ := h.cnt
  have hr1 := heap_setCell_same w f 8 _ _ (.int .i64 kn) hp.row
  have hr2 := heap_setCell_same _ f 14 _ _ (.pointer none) hr1
  have hr3 := heap_setCell_same _ f 9 _ _ (.bool ow) hr2
  rw [← hw] at hr3
  have hh : Hits (· = f) w w' := by rw [hw]; exact (((Hits.refl (· = f) w).setCell (g := f) (fun _ => rfl) 8 _).setCell (g := f) (fun _ => rfl) 14 _).setCell (g := f) (fun _ => rfl) 9 _
  have nf : ∀ Y : List Nat, (∀ a, Y.count a + (if f = a then 1 else 0) ≤ 1) → ∀ k ∈ Y, ¬ k = f := fun Y hY k hk e => by
    have h1 := hY k
    have h2 := mem_count hk
    rw [if_pos e.symm] at h1; omega
  refine ⟨FrC.blocks f { cc with up := .pointer none, Xp := [] }, ⟨{ cc with up := .pointer none, Xp := [] }, ⟨hr3, ?_, ?_, ?_, ?_, ?_, ?_, ⟨rfl, rfl⟩⟩, rfl, ?_⟩, hh, ?_⟩
  · exact intsR.frame hp.chests hh (nf cc.Xc fun a => by have := hcn a; omega)
  · exact intsR.frame hp.refs hh (nf cc.Xr fun a => by have := hcn a; omega)
  · exact strsR.frame hp.bounds hh (nf cc.Xb fun a => by have := hcn a; omega)
  · exact hp.seen.hits hh (nf [cc.m] (fun a => by have := hcn a; simp only [cnt_cons, List.count_nil]; omega) _ (by simp))
  · exact jobsR.frame hp.queue hh (nf cc.Xq fun a => by have := hcn a; omega)
  · exact wishesR.frame hp.wishes hh (nf cc.Xw fun a => by have := hcn a; omega)
  · refine List.nodup_iff_count.2 fun a => ?_
    have h1 := hcn a
    simp only [FrC.blocks, cnt_cons, List.count_append, List.count_nil] at h1 ⊢
    omega
  · intro k hk
    rw [h.hX]
    have h3 := mem_count hk
    refine List.count_pos_iff.1 ?_
    simp only [FrC.blocks, cnt_cons, List.count_append, List.count_nil] at h3 ⊢
    omega
end Go.Proofs.YtcmollfhlillfaaGreatDoor
