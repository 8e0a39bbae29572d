/-
  Texts of this seat in one: FrTkW, FrTake, FrTakB.
-/
import Derived.Test.YtcmollfhlillfaaGreatDoorM38
import Derived.Test.YtcmollfhlillfaaGreatDoorM39
/-
  front: a turn in parts; messages of two parts are joined.
-/
namespace Go.Proofs.YtcmollfhlillfaaGreatDoor
open Go.RowKit
set_option linter.unusedVariables false
set_option linter.unusedSimpArgs false
/-- What was turned so far, and the messages so far. -/
structure Mid (w : World) (f : Nat) (X : List Nat) (s : Fr) (v : Value) (L : List Msg) (w1 : World) (Y X1 : List Nat) : Prop where
  p : SliceP w.heap.size 53 msgR w1 v L Y
  y : ∀ k ∈ Y, w.heap.size ≤ k
  fr : FrH w1 f s X1
  hh : Hits (· ∈ X) w w1
  fs : Fresh w X X1
  ap : ∀ k ∈ X1, v.ownBlock ≠ some k ∧ k ∉ Y
section
variable {w w1 w2 w3 : World} {f : Nat} {X X1 X2 Y Y2 : List Nat} {s s2 : Fr} {v : Value} {L L2 : List Msg} {e : Ending}
theorem Mid.nil (h : FrH w f s X) : Mid w f X s (.slice none 0 0) [] w [] X := ⟨SliceP.nil _ _ _ _, fun k hk => (by cases hk), h, Hits.refl _ _, Fresh.refl _ _, fun k hk => ⟨fun e => (by cases e), fun e => (by cases e)⟩⟩
theorem Mid.later (h : Mid w f X s v L w1 Y X1) (hl : Later w1 w2) : Mid w f X s v L w2 Y X1 := ⟨h.p.later hl, h.y, h.fr.later hl, h.hh.thenLater hl, h.fs, h.ap⟩
theorem Mid.none (hf : FrH w1 f s X1) (hh : Hits (· ∈ X) w w1) (hs : Fresh w X X1) : Mid w f X s (.slice none 0 0) [] w1 [] X1 := ⟨SliceP.nil _ _ _ _, fun k hk => (by cases hk), hf, hh, hs, fun k hk => ⟨fun e => (by cases e), fun e => (by cases e)⟩⟩
def TurnW (w : World) (f : Nat) (X : List Nat) (s : Fr) (L : List Msg) (e : Ending) (w' : World) : Prop :=
  ∃ A n c Y X', e = .returned (.slice A n c) ∧ L.length = n ∧ Mid w f X s (.slice A n c) L w' Y X'
theorem TurnPost.mid (h : TurnPost w f X s L e w1) : TurnW w f X s L e w1 := by
  obtain ⟨A, n, c, Y, X', base, rfl, h1, h2, h3, h4, h5, h6, h7, h8⟩ := h
  refine ⟨A, n, c, Y, X', rfl, h1, h2.weaken h4, fun k hk => Nat.le_trans h4 (h3 k hk), h6, h7, h8, fun k hk => ⟨fun e => ?_, fun hy => ?_⟩⟩
  · have := (h2.block e).1; have := h5 k hk; omega
  · have := h3 k hy; have := h5 k hk; omega
theorem Mid.turn (h : Mid w f X s v L w1 Y X1) (k : TurnPost w1 f X1 s2 L2 e w2) : ∃ A n c Y2 X2, e = .returned (.slice A n c) ∧ L2.length = n ∧ Mid w f X s2 v L w2 Y X2 ∧ SliceP 0 53 msgR w2 (.slice A n c) L2 Y2 ∧ ∀ k ∈ Y2, w.heap.size ≤ k ∧ v.ownBlock ≠ some k ∧ k ∉ X2 := by
  obtain ⟨A, n, c, Y2, X2, base, rfl, h1, h2, h3, h4, h5, h6, h7, h8⟩ := k
  have hs := h.hh.size
  refine ⟨A, n, c, Y2, X2, rfl, h1, ⟨h.p.hits h7 (fun k hk hx => (h.ap k hx).1 hk) (fun k hk hx => (h.ap k hx).2 hk), h.y, h6, turn_step h.hh h.fs h7, h.fs.trans h8 hs, fun k hk => ?_⟩, h2.weaken (Nat.zero_le _), fun k hk => ⟨?_, fun e => ?_, fun hx => ?_⟩⟩
  · rcases h8 k hk with h9 | h9
    · exact h.ap k h9
    · refine ⟨fun e => ?_, fun hy => ?_⟩
      · have := (h.p.block e).2.1; omega
      · have := h.p.lt k hy; omega
  · have := h3 k hk; omega
  · have := (h.p.block e).2.1; have := h3 k hk; omega
  · have := h3 k hk; have := h5 k hx; omega
theorem Mid.msgs (h : Mid w f X s v L w1 Y X1) (k : MsgsPost w1 L2 e w2) : ∃ A n c Y2, e = .returned (.slice A n c) ∧ L2.length = n ∧ Mid w f X s v L w2 Y X1 ∧ SliceP 0 53 msgR w2 (.slice A n c) L2 Y2 ∧ ∀ k ∈ Y2, w.heap.size ≤ k ∧ v.ownBlock ≠ some k ∧ k ∉ X1 := by
  obtain ⟨A, n, c, Y2, rfl, h1, h2, h3, h4⟩ := k
  have hs := h.hh.size
  refine ⟨A, n, c, Y2, rfl, h1, h.later h4, h2.weaken (Nat.zero_le _), fun k hk => ⟨?_, fun e => ?_, fun hx => ?_⟩⟩
  · have := h3 k hk; omega
  · have := (h.p.block e).2.1; have := h3 k hk; omega
  · have := h3 k hk; have := h.fr.lt k hx; omega
theorem Mid.join {A : Option Addr} {n c : Nat} (h : Mid w f X s v L w2 Y X2) (hY2 : ∀ k ∈ Y2, w.heap.size ≤ k ∧ v.ownBlock ≠ some k ∧ k ∉ X2) (hp : SliceP w.heap.size 53 msgR w3 (.slice A n c) (L ++ L2) (Y ++ Y2)) (hg : w2.grownBy w3 v.ownBlock) (hat : (Value.slice A n c).ownBlock = v.ownBlock ∨ (Value.slice A n c).ownBlock = some w2.heap.size) :
    Mid w f X s (.slice A n c) (L ++ L2) w3 (Y ++ Y2) X2 := by
  have hh : Hits (fun k => v.ownBlock = some k) w2 w3 := (Hits.refl _ w2).grown hg fun g hg _ => hg
  refine ⟨hp, fun k hk => ?_, h.fr.frame hh fun k hk e => (h.ap k hk).1 e, h.hh.grown hg fun g hg hlt => ?_, h.fs, fun k hk => ⟨fun e => ?_, fun hy => ?_⟩⟩
  · rcases List.mem_append.1 hk with h1 | h1
    · exact h.y k h1
    · exact (hY2 k h1).1
  · have := (h.p.block hg).1; omega
  · rcases hat with h1 | h1
    · rw [h1] at e; exact (h.ap k hk).1 e
    · rw [h1] at e; injection e with e; have := h.fr.lt k hk; omega
  · rcases List.mem_append.1 hy with h1 | h1
    · exact (h.ap k hk).2 h1
    · exact (hY2 k h1).2.2 hk
end

end Go.Proofs.YtcmollfhlillfaaGreatDoor
/-
  front: Take, a message that says that a node is alive.
-/
namespace Go.Proofs.YtcmollfhlillfaaGreatDoor
open Go.RowKit
set_option linter.unusedVariables false
set_option linter.unusedSimpArgs false
def joinL (p : Fr × List Msg) : Fr × List Msg := ((goOnF p.1).1, p.2 ++ (goOnF p.1).2)
set_option maxHeartbeats 8000000 in
set_option maxRecDepth 100000 in
theorem take_alive {w : World} {f : Nat} {s : Fr} {X : List Nat} (h : FrH w f s X) (hok : WishOk s) (hG : OwnG w) (hGX : 0 ∉ X) {frm a : Int} (hgo : GoOk (aliveF s frm a).1) (hlen : (aliveF s frm a).2.length + (goOnF (aliveF s frm a).1).2.length ≤ 1000000)
    {nd ep : Int} (hnd : s.node = nd) (hep : s.epoch = ep) (b0 c0 : Int) (Av : Option Addr) (nv cv : Nat) :
    Calls Tryz.prog 15 #[.pointer (some ⟨f, 0, none⟩), .agg #[.int .i64 19, .int .i64 frm, .int .i64 nd, .int .i64 ep, .int .i64 a, .int .i64 b0, .int .i64 c0, .slice Av nv cv]] w (TurnW w f X (joinL (aliveF s frm a)).1 (joinL (aliveF s frm a)).2) := by
  obtain ⟨Wm, hW⟩ : ∃ Wm, Wm = w.alloc (.cells #[.int .i64 19, .int .i64 frm, .int .i64 nd, .int .i64 ep, .int .i64 a, .int .i64 b0, .int .i64 c0, .slice Av nv cv] 53) := ⟨_, rfl⟩
  have hl : Later w Wm := by rw [hW]; exact later_alloc _ _
  have hb : Wm.heap[w.heap.size]? = some (.cells #[.int .i64 19, .int .i64 frm, .int .i64 nd, .int .i64 ep, .int .i64 a, .int .i64 b0, .int .i64 c0, .slice Av nv cv] 53 (0, 0)) := by rw [hW]; exact heap_alloc_new _ _
  have hf := h.later hl
  obtain ⟨cc, hp, _⟩ := id hf
  have hrow := hp.row
  unfold frCells at hrow
  rw [hnd, hep] at hrow
  have HW := hide_ hW; have HB := hide_ hb; have HL := hide_ (hl.trans (Later.refl Wm).dr); have HH := hide_ h
  have HCA := hide_ (alive_any (hf.later (Later.refl Wm).dr) hok (hG.later (hl.trans (Later.refl Wm).dr)) hGX 19 frm nd ep a b0 c0 Av nv cv)
  have k0 := later_drew_cell (show Wm.cell? ⟨w.heap.size, 0, none⟩ = some (.int .i64 19) from cell_of_row _ _ 0 _ _ (0, 0) hb)
  have k2 := later_drew_cell (show Wm.cell? ⟨w.heap.size, 2, none⟩ = some (.int .i64 nd) from cell_of_row _ _ 2 _ _ (0, 0) hb)
  have k3 := later_drew_cell (show Wm.cell? ⟨w.heap.size, 3, none⟩ = some (.int .i64 ep) from cell_of_row _ _ 3 _ _ (0, 0) hb)
  have f0 := later_drew_cell (show Wm.cell? ⟨f, 0, none⟩ = some (.int .i64 nd) from cell_of_row _ _ 0 _ _ (0, 0) hrow)
  have f2 := later_drew_cell (show Wm.cell? ⟨f, 2, none⟩ = some (.int .i64 ep) from cell_of_row _ _ 2 _ _ (0, 0) hrow)
  have flt := theap_lt hrow
  obtain ⟨s1, hs1⟩ : ∃ s1, s1 = (aliveF s frm a).1 := ⟨_, rfl⟩
  obtain ⟨L1, hL1⟩ : ∃ L1, L1 = (aliveF s frm a).2 := ⟨_, rfl⟩
  rw [← hs1, ← hL1] at hlen HCA
  rw [← hs1] at hgo
  have HE := hide_ (show joinL (aliveF s frm a) = ((goOnF s1).1, L1 ++ (goOnF s1).2) by unfold joinL; rw [hs1, hL1])
  have HGO := hide_ hgo; have HLEN := hide_ hlen
  clear h hok hG hl hb hW hf hp hrow hnd hep hgo hlen hs1 hL1 hGX
  go_enter Tryz.func15, Tryz.ntmps15
  go_wp2_with (rw [← HW.out])
  refine wp_region_k (by kernel_rfl) ?_
  refine wKt 0 (v := ?_) rfl (by intro W hSw; go_simp; with_reducible rfl) ?_; try simp only [Act.put, qA, qZ, qS]
  refine wKt 1 (v := ?_) rfl (by intro W hSw; go_simp; with_reducible rfl) ?_; try simp only [Act.put, qA, qZ, qS]
  refine wKt 2 (v := ?_) rfl (by intro W hSw; go_simp; with_reducible rfl) ?_; try simp only [Act.put, qA, qZ, qS]
  refine wKt 3 (v := ?_) rfl (by intro W hSw; go_simp; with_reducible rfl) ?_; try simp only [Act.put, qA, qZ, qS]
  refine wKt 4 (v := ?_) rfl (by intro W hSw; go_simp; with_reducible rfl) ?_; try simp only [Act.put, qA, qZ, qS]
  refine wKt 5 (v := ?_) rfl (by intro W hSw; go_simp; with_reducible rfl) ?_; try simp only [Act.put, qA, qZ, qS]
  refine wKt 6 (v := ?_) rfl (by intro W hSw; go_simp; with_reducible rfl) ?_; try simp only [Act.put, qA, qZ, qS]
  refine wKt 7 (v := ?_) rfl (by intro W hSw; go_simp; with_reducible rfl) ?_; try simp only [Act.put, qA, qZ, qS]
  refine wKt 8 (v := ?_) rfl (by intro W hSw; go_simp; with_reducible rfl) ?_; try simp only [Act.put, qA, qZ, qS]
  refine wKt 9 (v := ?_) rfl (by intro W hSw; go_simp; with_reducible rfl) ?_; try simp only [Act.put, qA, qZ, qS]
  refine wKt 10 (v := ?_) rfl (by intro W hSw; go_simp; with_reducible rfl) ?_; try simp only [Act.put, qA, qZ, qS]
  refine wKt 11 (v := ?_) rfl (by intro W hSw; go_simp; with_reducible rfl) ?_; try simp only [Act.put, qA, qZ, qS]
  refine wKt 12 (v := ?_) rfl (by intro W hSw; go_simp; with_reducible rfl) ?_; try simp only [Act.put, qA, qZ, qS]
  refine wKt 13 (v := ?_) rfl (by intro W hSw; go_simp; with_reducible rfl) ?_; try simp only [Act.put, qA, qZ, qS]
  refine wKt 14 (v := ?_) rfl (by intro W hSw; go_simp; with_reducible rfl) ?_; try simp only [Act.put, qA, qZ, qS]
  refine wKt 15 (v := ?_) rfl (by intro W hSw; go_simp; with_reducible rfl) ?_; try simp only [Act.put, qA, qZ, qS]
  refine wKt 16 (v := ?_) rfl (by intro W hSw; go_simp; with_reducible rfl) ?_; try simp only [Act.put, qA, qZ, qS]
  refine wKt 17 (v := ?_) rfl (by intro W hSw; go_simp; with_reducible rfl) ?_; try simp only [Act.put, qA, qZ, qS]
  refine wKt 18 (v := ?_) rfl (by intro W hSw; go_simp; with_reducible rfl) ?_; try simp only [Act.put, qA, qZ, qS]
  refine wKt 19 (v := ?_) rfl (by intro W hSw; go_simp; with_reducible rfl) ?_; try simp only [Act.put, qA, qZ, qS]
  refine wKt 20 (v := ?_) rfl (by intro W hSw; go_simp; with_reducible rfl) ?_; try simp only [Act.put, qA, qZ, qS]
  refine wKt 21 (v := ?_) rfl (by intro W hSw; go_simp; with_reducible rfl) ?_; try simp only [Act.put, qA, qZ, qS]
  refine wKt 22 (v := ?_) rfl (by intro W hSw; go_simp; with_reducible rfl) ?_; try simp only [Act.put, qA, qZ, qS]
  refine wKt 23 (v := ?_) rfl (by intro W hSw; go_simp; with_reducible rfl) ?_; try simp only [Act.put, qA, qZ, qS]
  refine wKt 24 (v := ?_) rfl (by intro W hSw; go_simp; with_reducible rfl) ?_; try simp only [Act.put, qA, qZ, qS]
  refine wKt 25 (v := ?_) rfl (by intro W hSw; go_simp; with_reducible rfl) ?_; try simp only [Act.put, qA, qZ, qS]
  refine wpAnyK_done (by kernel_rfl) ?_ _
  clear k0 k2 k3 f0 f2
  have hb1 := later_row (Later.refl Wm).dr HB.out
  obtain ⟨W1, hW1⟩ : ∃ W1, W1 = Wm.drew := ⟨_, rfl⟩
  have HW1 := hide_ hW1
  rw [← hW1] at HCA HL hb1 ⊢
  clear hW1
  have k0 : W1.cell? ⟨w.heap.size, 0, none⟩ = some (.int .i64 19) := cell_of_row _ _ 0 _ _ (0, 0) hb1
  have k1 : W1.cell? ⟨w.heap.size, 1, none⟩ = some (.int .i64 frm) := cell_of_row _ _ 1 _ _ (0, 0) hb1
  have k2 : W1.cell? ⟨w.heap.size, 2, none⟩ = some (.int .i64 nd) := cell_of_row _ _ 2 _ _ (0, 0) hb1
  have k3 : W1.cell? ⟨w.heap.size, 3, none⟩ = some (.int .i64 ep) := cell_of_row _ _ 3 _ _ (0, 0) hb1
  have k4 : W1.cell? ⟨w.heap.size, 4, none⟩ = some (.int .i64 a) := cell_of_row _ _ 4 _ _ (0, 0) hb1
  have k5 : W1.cell? ⟨w.heap.size, 5, none⟩ = some (.int .i64 b0) := cell_of_row _ _ 5 _ _ (0, 0) hb1
  have k6 : W1.cell? ⟨w.heap.size, 6, none⟩ = some (.int .i64 c0) := cell_of_row _ _ 6 _ _ (0, 0) hb1
  have k7 : W1.cell? ⟨w.heap.size, 7, none⟩ = some (.slice Av nv cv) := cell_of_row _ _ 7 _ _ (0, 0) hb1
  clear hb1
  go_wp2_with fail
  refine HCA.out.mono ?_
  rintro e w2 h2
  obtain ⟨A2, n2, c2, Y2, X2, rfl, hn2, hm2⟩ := TurnPost.mid (h2.from (X0 := X) (w0 := w) (Hits.later HL.out) (Fresh.refl _ _) HH.out.lt)
  have HM2 := hide_ hm2
  have HN2 := hide_ hn2
  have HG := hide_ (goOn_any hm2.fr HGO.out)
  clear k0 k1 k2 k3 k4 k5 k6 k7 h2 hn2 hm2
  go_wp2_with fail
  refine HG.out.mono ?_
  rintro e w3 h3
  obtain ⟨A3, n3, c3, Y3, X3, rfl, hn3, hm3, hp3, hy3⟩ := HM2.out.turn h3
  have HM3 := hide_ hm3; have HP3 := hide_ hp3; have HY3 := hide_ hy3; have HN3 := hide_ hn3
  have hb3 : n2 + n3 ≤ 1000000 := by rw [← HN2.out, ← hn3]; exact HLEN.out
  clear h3 hn3 hm3 hp3 hy3
  go_wp2_with (at_builtin; refine wpList_join rfl (.tmp 54) (.tmp 56) rfl msgT rfl HM3.out.p HN2.out rfl HP3.out HN3.out (fun k hk => (HY3.out k hk).2.1) (by omega) (by unfold maxLen; omega) HM3.out.hh.size ?c8)
  case c8 =>
    intro A9 c9 w9 hp9 hg9 hat9
    have HM9 := hide_ (HM3.out.join HY3.out hp9 hg9 hat9)
    clear hp9 hg9 hat9
    go_wp2_with fail
    go_ret
    rw [HE.out]
    exact ⟨A9, n2 + n3, c9, _, _, rfl, by rw [List.length_append, HN2.out, HN3.out], HM9.out⟩

end Go.Proofs.YtcmollfhlillfaaGreatDoor
/-
  front: Take, what a chest or a referee answers.
-/
namespace Go.Proofs.YtcmollfhlillfaaGreatDoor
open Go.RowKit
set_option linter.unusedVariables false
set_option linter.unusedSimpArgs false
set_option maxHeartbeats 8000000 in
set_option maxRecDepth 100000 in
theorem take_pushed {w : World} {f : Nat} {s : Fr} {X : List Nat} (h : FrH w f s X) (hok : PsdOk s) {frm a : Int} (hgo : GoOk (pushedF s frm a).1) (hlen : (pushedF s frm a).2.length + (goOnF (pushedF s frm a).1).2.length ≤ 1000000)
    {nd ep : Int} (hnd : s.node = nd) (hep : s.epoch = ep) (b0 c0 : Int) (Av : Option Addr) (nv cv : Nat) :
    Calls Tryz.prog 15 #[.pointer (some ⟨f, 0, none⟩), .agg #[.int .i64 6, .int .i64 frm, .int .i64 nd, .int .i64 ep, .int .i64 a, .int .i64 b0, .int .i64 c0, .slice Av nv cv]] w (TurnW w f X (joinL (pushedF s frm a)).1 (joinL (pushedF s frm a)).2) := by
  obtain ⟨Wm, hW⟩ : ∃ Wm, Wm = w.alloc (.cells #[.int .i64 6, .int .i64 frm, .int .i64 nd, .int .i64 ep, .int .i64 a, .int .i64 b0, .int .i64 c0, .slice Av nv cv] 53) := ⟨_, rfl⟩
  have hl : Later w Wm := by rw [hW]; exact later_alloc _ _
  have hb : Wm.heap[w.heap.size]? = some (.cells #[.int .i64 6, .int .i64 frm, .int .i64 nd, .int .i64 ep, .int .i64 a, .int .i64 b0, .int .i64 c0, .slice Av nv cv] 53 (0, 0)) := by rw [hW]; exact heap_alloc_new _ _
  have hf := h.later hl
  obtain ⟨cc, hp, _⟩ := id hf
  have hrow := hp.row
  unfold frCells at hrow
  rw [hnd, hep] at hrow
  have HW := hide_ hW; have HB := hide_ hb; have HL := hide_ (hl.trans (Later.refl Wm).dr); have HH := hide_ h
  have HCA := hide_ (pushed_any (hf.later (Later.refl Wm).dr) hok 6 frm nd ep a b0 c0 Av nv cv)
  have k0 := later_drew_cell (show Wm.cell? ⟨w.heap.size, 0, none⟩ = some (.int .i64 6) from cell_of_row _ _ 0 _ _ (0, 0) hb)
  have k2 := later_drew_cell (show Wm.cell? ⟨w.heap.size, 2, none⟩ = some (.int .i64 nd) from cell_of_row _ _ 2 _ _ (0, 0) hb)
  have k3 := later_drew_cell (show Wm.cell? ⟨w.heap.size, 3, none⟩ = some (.int .i64 ep) from cell_of_row _ _ 3 _ _ (0, 0) hb)
  have f0 := later_drew_cell (show Wm.cell? ⟨f, 0, none⟩ = some (.int .i64 nd) from cell_of_row _ _ 0 _ _ (0, 0) hrow)
  have f2 := later_drew_cell (show Wm.cell? ⟨f, 2, none⟩ = some (.int .i64 ep) from cell_of_row _ _ 2 _ _ (0, 0) hrow)
  have flt := theap_lt hrow
  obtain ⟨s1, hs1⟩ : ∃ s1, s1 = (pushedF s frm a).1 := ⟨_, rfl⟩
  obtain ⟨L1, hL1⟩ : ∃ L1, L1 = (pushedF s frm a).2 := ⟨_, rfl⟩
  rw [← hs1, ← hL1] at hlen HCA
  rw [← hs1] at hgo
  have HE := hide_ (show joinL (pushedF s frm a) = ((goOnF s1).1, L1 ++ (goOnF s1).2) by unfold joinL; rw [hs1, hL1])
  have HGO := hide_ hgo; have HLEN := hide_ hlen
  clear h hok hl hb hW hf hp hrow hnd hep hgo hlen hs1 hL1
  go_enter Tryz.func15, Tryz.ntmps15
  go_wp2_with (rw [← HW.out])
  refine wp_region_k (by kernel_rfl) ?_
  refine wKt 0 (v := ?_) rfl (by intro W hSw; go_simp; with_reducible rfl) ?_; try simp only [Act.put, qA, qZ, qS]
  refine wKt 1 (v := ?_) rfl (by intro W hSw; go_simp; with_reducible rfl) ?_; try simp only [Act.put, qA, qZ, qS]
  refine wKt 2 (v := ?_) rfl (by intro W hSw; go_simp; with_reducible rfl) ?_; try simp only [Act.put, qA, qZ, qS]
  refine wKt 3 (v := ?_) rfl (by intro W hSw; go_simp; with_reducible rfl) ?_; try simp only [Act.put, qA, qZ, qS]
  refine wKt 4 (v := ?_) rfl (by intro W hSw; go_simp; with_reducible rfl) ?_; try simp only [Act.put, qA, qZ, qS]
  refine wKt 5 (v := ?_) rfl (by intro W hSw; go_simp; with_reducible rfl) ?_; try simp only [Act.put, qA, qZ, qS]
  refine wKt 6 (v := ?_) rfl (by intro W hSw; go_simp; with_reducible rfl) ?_; try simp only [Act.put, qA, qZ, qS]
  refine wKt 7 (v := ?_) rfl (by intro W hSw; go_simp; with_reducible rfl) ?_; try simp only [Act.put, qA, qZ, qS]
  refine wKt 8 (v := ?_) rfl (by intro W hSw; go_simp; with_reducible rfl) ?_; try simp only [Act.put, qA, qZ, qS]
  refine wKt 9 (v := ?_) rfl (by intro W hSw; go_simp; with_reducible rfl) ?_; try simp only [Act.put, qA, qZ, qS]
  refine wKt 10 (v := ?_) rfl (by intro W hSw; go_simp; with_reducible rfl) ?_; try simp only [Act.put, qA, qZ, qS]
  refine wKt 11 (v := ?_) rfl (by intro W hSw; go_simp; with_reducible rfl) ?_; try simp only [Act.put, qA, qZ, qS]
  refine wKt 12 (v := ?_) rfl (by intro W hSw; go_simp; with_reducible rfl) ?_; try simp only [Act.put, qA, qZ, qS]
  refine wKt 13 (v := ?_) rfl (by intro W hSw; go_simp; with_reducible rfl) ?_; try simp only [Act.put, qA, qZ, qS]
  refine wKt 14 (v := ?_) rfl (by intro W hSw; go_simp; with_reducible rfl) ?_; try simp only [Act.put, qA, qZ, qS]
  refine wKt 15 (v := ?_) rfl (by intro W hSw; go_simp; with_reducible rfl) ?_; try simp only [Act.put, qA, qZ, qS]
  refine wKt 16 (v := ?_) rfl (by intro W hSw; go_simp; with_reducible rfl) ?_; try simp only [Act.put, qA, qZ, qS]
  refine wKt 17 (v := ?_) rfl (by intro W hSw; go_simp; with_reducible rfl) ?_; try simp only [Act.put, qA, qZ, qS]
  refine wKt 18 (v := ?_) rfl (by intro W hSw; go_simp; with_reducible rfl) ?_; try simp only [Act.put, qA, qZ, qS]
  refine wKt 19 (v := ?_) rfl (by intro W hSw; go_simp; with_reducible rfl) ?_; try simp only [Act.put, qA, qZ, qS]
  refine wKt 20 (v := ?_) rfl (by intro W hSw; go_simp; with_reducible rfl) ?_; try simp only [Act.put, qA, qZ, qS]
  refine wKt 21 (v := ?_) rfl (by intro W hSw; go_simp; with_reducible rfl) ?_; try simp only [Act.put, qA, qZ, qS]
  refine wKt 22 (v := ?_) rfl (by intro W hSw; go_simp; with_reducible rfl) ?_; try simp only [Act.put, qA, qZ, qS]
  refine wKt 23 (v := ?_) rfl (by intro W hSw; go_simp; with_reducible rfl) ?_; try simp only [Act.put, qA, qZ, qS]
  refine wKt 24 (v := ?_) rfl (by intro W hSw; go_simp; with_reducible rfl) ?_; try simp only [Act.put, qA, qZ, qS]
  refine wKt 25 (v := ?_) rfl (by intro W hSw; go_simp; with_reducible rfl) ?_; try simp only [Act.put, qA, qZ, qS]
  refine wpAnyK_done (by kernel_rfl) ?_ _
  clear k0 k2 k3 f0 f2
  have hb1 := later_row (Later.refl Wm).dr HB.out
  obtain ⟨W1, hW1⟩ : ∃ W1, W1 = Wm.drew := ⟨_, rfl⟩
  have HW1 := hide_ hW1
  rw [← hW1] at HCA HL hb1 ⊢
  clear hW1
  have k0 : W1.cell? ⟨w.heap.size, 0, none⟩ = some (.int .i64 6) := cell_of_row _ _ 0 _ _ (0, 0) hb1
  have k1 : W1.cell? ⟨w.heap.size, 1, none⟩ = some (.int .i64 frm) := cell_of_row _ _ 1 _ _ (0, 0) hb1
  have k2 : W1.cell? ⟨w.heap.size, 2, none⟩ = some (.int .i64 nd) := cell_of_row _ _ 2 _ _ (0, 0) hb1
  have k3 : W1.cell? ⟨w.heap.size, 3, none⟩ = some (.int .i64 ep) := cell_of_row _ _ 3 _ _ (0, 0) hb1
  have k4 : W1.cell? ⟨w.heap.size, 4, none⟩ = some (.int .i64 a) := cell_of_row _ _ 4 _ _ (0, 0) hb1
  have k5 : W1.cell? ⟨w.heap.size, 5, none⟩ = some (.int .i64 b0) := cell_of_row _ _ 5 _ _ (0, 0) hb1
  have k6 : W1.cell? ⟨w.heap.size, 6, none⟩ = some (.int .i64 c0) := cell_of_row _ _ 6 _ _ (0, 0) hb1
  have k7 : W1.cell? ⟨w.heap.size, 7, none⟩ = some (.slice Av nv cv) := cell_of_row _ _ 7 _ _ (0, 0) hb1
  clear hb1
  go_wp2_with fail
  refine HCA.out.mono ?_
  rintro e w2 h2
  obtain ⟨A2, n2, c2, Y2, X2, rfl, hn2, hm2⟩ := TurnPost.mid (h2.from (X0 := X) (w0 := w) (Hits.later HL.out) (Fresh.refl _ _) HH.out.lt)
  have HM2 := hide_ hm2
  have HN2 := hide_ hn2
  have HG := hide_ (goOn_any hm2.fr HGO.out)
  clear k0 k1 k2 k3 k4 k5 k6 k7 h2 hn2 hm2
  go_wp2_with fail
  refine HG.out.mono ?_
  rintro e w3 h3
  obtain ⟨A3, n3, c3, Y3, X3, rfl, hn3, hm3, hp3, hy3⟩ := HM2.out.turn h3
  have HM3 := hide_ hm3; have HP3 := hide_ hp3; have HY3 := hide_ hy3; have HN3 := hide_ hn3
  have hb3 : n2 + n3 ≤ 1000000 := by rw [← HN2.out, ← hn3]; exact HLEN.out
  clear h3 hn3 hm3 hp3 hy3
  go_wp2_with (at_builtin; refine wpList_join rfl (.tmp 54) (.tmp 56) rfl msgT rfl HM3.out.p HN2.out rfl HP3.out HN3.out (fun k hk => (HY3.out k hk).2.1) (by omega) (by unfold maxLen; omega) HM3.out.hh.size ?c8)
  case c8 =>
    intro A9 c9 w9 hp9 hg9 hat9
    have HM9 := hide_ (HM3.out.join HY3.out hp9 hg9 hat9)
    clear hp9 hg9 hat9
    go_wp2_with fail
    go_ret
    rw [HE.out]
    exact ⟨A9, n2 + n3, c9, _, _, rfl, by rw [List.length_append, HN2.out, HN3.out], HM9.out⟩
set_option maxHeartbeats 8000000 in
set_option maxRecDepth 100000 in
theorem take_verdict {w : World} {f : Nat} {s : Fr} {X : List Nat} (h : FrH w f s X) (hok : VerOk s) {frm a : Int} (hfr : I64 frm) {l : List UInt8} (hgo : GoOk (verdictF s frm a l)) (hlen : (goOnF (verdictF s frm a l)).2.length ≤ 1000000)
    {nd ep : Int} (hnd : s.node = nd) (hep : s.epoch = ep) (b0 c0 : Int) {Av : Option Addr} {nv cv : Nat} (hbd : BodyAt w Av cv l) (hnv : l.length = nv) :
    Calls Tryz.prog 15 #[.pointer (some ⟨f, 0, none⟩), .agg #[.int .i64 4, .int .i64 frm, .int .i64 nd, .int .i64 ep, .int .i64 a, .int .i64 b0, .int .i64 c0, .slice Av nv cv]] w (TurnW w f X (joinL (verdictF s frm a l, [])).1 (joinL (verdictF s frm a l, [])).2) := by
  subst hnv
  obtain ⟨nv, hnv⟩ : ∃ nv, nv = l.length := ⟨_, rfl⟩
  obtain ⟨Wm, hW⟩ : ∃ Wm, Wm = w.alloc (.cells #[.int .i64 4, .int .i64 frm, .int .i64 nd, .int .i64 ep, .int .i64 a, .int .i64 b0, .int .i64 c0, .slice Av l.length cv] 53) := ⟨_, rfl⟩
  have hl : Later w Wm := by rw [hW]; exact later_alloc _ _
  have hb : Wm.heap[w.heap.size]? = some (.cells #[.int .i64 4, .int .i64 frm, .int .i64 nd, .int .i64 ep, .int .i64 a, .int .i64 b0, .int .i64 c0, .slice Av l.length cv] 53 (0, 0)) := by rw [hW]; exact heap_alloc_new _ _
  have hf := h.later hl
  obtain ⟨cc, hp, _⟩ := id hf
  have hrow := hp.row
  unfold frCells at hrow
  rw [hnd, hep] at hrow
  have HL := hide_ (hl.trans (Later.refl Wm).dr); have HH := hide_ h
  have HCA := hide_ (verdict_any (hf.later (Later.refl Wm).dr) hok 4 frm nd ep a b0 c0 hfr (hbd.later (hl.trans (Later.refl Wm).dr)))
  rw [← hnv] at hb hW HCA
  rw [← hnv]
  have HW := hide_ hW; have HB := hide_ hb
  have k0 := later_drew_cell (show Wm.cell? ⟨w.heap.size, 0, none⟩ = some (.int .i64 4) from cell_of_row _ _ 0 _ _ (0, 0) hb)
  have k2 := later_drew_cell (show Wm.cell? ⟨w.heap.size, 2, none⟩ = some (.int .i64 nd) from cell_of_row _ _ 2 _ _ (0, 0) hb)
  have k3 := later_drew_cell (show Wm.cell? ⟨w.heap.size, 3, none⟩ = some (.int .i64 ep) from cell_of_row _ _ 3 _ _ (0, 0) hb)
  have f0 := later_drew_cell (show Wm.cell? ⟨f, 0, none⟩ = some (.int .i64 nd) from cell_of_row _ _ 0 _ _ (0, 0) hrow)
  have f2 := later_drew_cell (show Wm.cell? ⟨f, 2, none⟩ = some (.int .i64 ep) from cell_of_row _ _ 2 _ _ (0, 0) hrow)
  have flt := theap_lt hrow
  obtain ⟨s1, hs1⟩ : ∃ s1, s1 = verdictF s frm a l := ⟨_, rfl⟩
  rw [← hs1] at hlen HCA hgo
  have HE := hide_ (show joinL (verdictF s frm a l, []) = ((goOnF s1).1, [] ++ (goOnF s1).2) by unfold joinL; rw [hs1])
  have HGO := hide_ hgo; have HLEN := hide_ hlen
  clear h hok hl hb hW hf hp hrow hnd hep hgo hlen hs1 hfr hbd hnv
  go_enter Tryz.func15, Tryz.ntmps15
  go_wp2_with (rw [← HW.out])
  refine wp_region_k (by kernel_rfl) ?_
  refine wKt 0 (v := ?_) rfl (by intro W hSw; go_simp; with_reducible rfl) ?_; try simp only [Act.put, qA, qZ, qS]
  refine wKt 1 (v := ?_) rfl (by intro W hSw; go_simp; with_reducible rfl) ?_; try simp only [Act.put, qA, qZ, qS]
  refine wKt 2 (v := ?_) rfl (by intro W hSw; go_simp; with_reducible rfl) ?_; try simp only [Act.put, qA, qZ, qS]
  refine wKt 3 (v := ?_) rfl (by intro W hSw; go_simp; with_reducible rfl) ?_; try simp only [Act.put, qA, qZ, qS]
  refine wKt 4 (v := ?_) rfl (by intro W hSw; go_simp; with_reducible rfl) ?_; try simp only [Act.put, qA, qZ, qS]
  refine wKt 5 (v := ?_) rfl (by intro W hSw; go_simp; with_reducible rfl) ?_; try simp only [Act.put, qA, qZ, qS]
  refine wKt 6 (v := ?_) rfl (by intro W hSw; go_simp; with_reducible rfl) ?_; try simp only [Act.put, qA, qZ, qS]
  refine wKt 7 (v := ?_) rfl (by intro W hSw; go_simp; with_reducible rfl) ?_; try simp only [Act.put, qA, qZ, qS]
  refine wKt 8 (v := ?_) rfl (by intro W hSw; go_simp; with_reducible rfl) ?_; try simp only [Act.put, qA, qZ, qS]
  refine wKt 9 (v := ?_) rfl (by intro W hSw; go_simp; with_reducible rfl) ?_; try simp only [Act.put, qA, qZ, qS]
  refine wKt 10 (v := ?_) rfl (by intro W hSw; go_simp; with_reducible rfl) ?_; try simp only [Act.put, qA, qZ, qS]
  refine wKt 11 (v := ?_) rfl (by intro W hSw; go_simp; with_reducible rfl) ?_; try simp only [Act.put, qA, qZ, qS]
  refine wKt 12 (v := ?_) rfl (by intro W hSw; go_simp; with_reducible rfl) ?_; try simp only [Act.put, qA, qZ, qS]
  refine wKt 13 (v := ?_) rfl (by intro W hSw; go_simp; with_reducible rfl) ?_; try simp only [Act.put, qA, qZ, qS]
  refine wKt 14 (v := ?_) rfl (by intro W hSw; go_simp; with_reducible rfl) ?_; try simp only [Act.put, qA, qZ, qS]
  refine wKt 15 (v := ?_) rfl (by intro W hSw; go_simp; with_reducible rfl) ?_; try simp only [Act.put, qA, qZ, qS]
  refine wKt 16 (v := ?_) rfl (by intro W hSw; go_simp; with_reducible rfl) ?_; try simp only [Act.put, qA, qZ, qS]
  refine wKt 17 (v := ?_) rfl (by intro W hSw; go_simp; with_reducible rfl) ?_; try simp only [Act.put, qA, qZ, qS]
  refine wKt 18 (v := ?_) rfl (by intro W hSw; go_simp; with_reducible rfl) ?_; try simp only [Act.put, qA, qZ, qS]
  refine wKt 19 (v := ?_) rfl (by intro W hSw; go_simp; with_reducible rfl) ?_; try simp only [Act.put, qA, qZ, qS]
  refine wKt 20 (v := ?_) rfl (by intro W hSw; go_simp; with_reducible rfl) ?_; try simp only [Act.put, qA, qZ, qS]
  refine wKt 21 (v := ?_) rfl (by intro W hSw; go_simp; with_reducible rfl) ?_; try simp only [Act.put, qA, qZ, qS]
  refine wKt 22 (v := ?_) rfl (by intro W hSw; go_simp; with_reducible rfl) ?_; try simp only [Act.put, qA, qZ, qS]
  refine wKt 23 (v := ?_) rfl (by intro W hSw; go_simp; with_reducible rfl) ?_; try simp only [Act.put, qA, qZ, qS]
  refine wKt 24 (v := ?_) rfl (by intro W hSw; go_simp; with_reducible rfl) ?_; try simp only [Act.put, qA, qZ, qS]
  refine wKt 25 (v := ?_) rfl (by intro W hSw; go_simp; with_reducible rfl) ?_; try simp only [Act.put, qA, qZ, qS]
  refine wpAnyK_done (by kernel_rfl) ?_ _
  clear k0 k2 k3 f0 f2
  have hb1 := later_row (Later.refl Wm).dr HB.out
  obtain ⟨W1, hW1⟩ : ∃ W1, W1 = Wm.drew := ⟨_, rfl⟩
  have HW1 := hide_ hW1
  rw [← hW1] at HCA HL hb1 ⊢
  clear hW1
  have k0 : W1.cell? ⟨w.heap.size, 0, none⟩ = some (.int .i64 4) := cell_of_row _ _ 0 _ _ (0, 0) hb1
  have k1 : W1.cell? ⟨w.heap.size, 1, none⟩ = some (.int .i64 frm) := cell_of_row _ _ 1 _ _ (0, 0) hb1
  have k2 : W1.cell? ⟨w.heap.size, 2, none⟩ = some (.int .i64 nd) := cell_of_row _ _ 2 _ _ (0, 0) hb1
  have k3 : W1.cell? ⟨w.heap.size, 3, none⟩ = some (.int .i64 ep) := cell_of_row _ _ 3 _ _ (0, 0) hb1
  have k4 : W1.cell? ⟨w.heap.size, 4, none⟩ = some (.int .i64 a) := cell_of_row _ _ 4 _ _ (0, 0) hb1
  have k5 : W1.cell? ⟨w.heap.size, 5, none⟩ = some (.int .i64 b0) := cell_of_row _ _ 5 _ _ (0, 0) hb1
  have k6 : W1.cell? ⟨w.heap.size, 6, none⟩ = some (.int .i64 c0) := cell_of_row _ _ 6 _ _ (0, 0) hb1
  have k7 : W1.cell? ⟨w.heap.size, 7, none⟩ = some (.slice Av nv cv) := cell_of_row _ _ 7 _ _ (0, 0) hb1
  clear hb1
  go_wp2_with fail
  refine HCA.out.mono ?_
  rintro e w2 h2
  obtain ⟨X2, rfl, hfx, hhx, hsx⟩ := h2
  have hm2 : Mid w f X s1 (.slice none 0 0) [] w2 [] X2 := Mid.none hfx ((Hits.later HL.out).trans hhx fun _ _ h => h) fun k hk => (hsx k hk).elim .inl fun h => .inr (Nat.le_trans HL.out.size h)
  have HM2 := hide_ hm2
  have HN2 := hide_ (show ([] : List Msg).length = 0 from rfl)
  have HG := hide_ (goOn_any hm2.fr HGO.out)
  clear k0 k1 k2 k3 k4 k5 k6 k7 hfx hhx hsx hm2
  go_wp2_with fail
  refine HG.out.mono ?_
  rintro e w3 h3
  obtain ⟨A3, n3, c3, Y3, X3, rfl, hn3, hm3, hp3, hy3⟩ := HM2.out.turn h3
  have HM3 := hide_ hm3; have HP3 := hide_ hp3; have HY3 := hide_ hy3; have HN3 := hide_ hn3
  have hb3 : n3 ≤ 1000000 := by rw [← hn3]; exact HLEN.out
  clear h3 hn3 hm3 hp3 hy3
  go_wp2_with (at_builtin; refine wpList_join rfl (.tmp 54) (.tmp 56) rfl msgT rfl HM3.out.p HN2.out rfl HP3.out HN3.out (fun k hk => (HY3.out k hk).2.1) (by omega) (by unfold maxLen; omega) HM3.out.hh.size ?c8)
  case c8 =>
    intro A9 c9 w9 hp9 hg9 hat9
    have HM9 := hide_ (HM3.out.join HY3.out hp9 hg9 hat9)
    clear hp9 hg9 hat9
    go_wp2_with fail
    go_ret
    rw [HE.out]
    exact ⟨A9, n3, c9, _, _, rfl, by rw [List.nil_append]; exact HN3.out, by simpa using HM9.out⟩

end Go.Proofs.YtcmollfhlillfaaGreatDoor
