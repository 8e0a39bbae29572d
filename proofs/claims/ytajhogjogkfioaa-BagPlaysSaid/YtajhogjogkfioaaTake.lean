/-
  The walk of the bag's Take.
-/
import Derived.Test.YtajhogjogkfioaaBagB
import Derived.Test.YtajhogjogkfioaaDelete
namespace Go.Proofs.Ytajhogjogkfioaa
open Go.RowKit Go.Conc
set_option linter.unusedVariables false
set_option linter.unusedSimpArgs false
/-- What Take leaves. -/
theorem take_close {w w2 : World} {B p c room : Nat} {g cap : Nat} {L : List Ltr} {buf : Array Value} {s r i : Nat}
    (hB : BagAt w B p c (.slice (some ⟨g, 0, none⟩) L.length cap) room L) (hi : i < L.length) (hroom : buf.size + L.length = room) (hc : w.heap[c]? = some (.chan room buf false s r false))
    (ho2 : w2.ownsRow B 54 3 (.slice (some ⟨g, 0, none⟩) (L.length - 1) cap) (L.length - 1) (rowOf (L.eraseIdx i))) (hb : Below B w w2) (hk : ∀ k, k ≠ g → w2.heap[k]? = w.heap[k]?) :
    BagAt ((w2.setCell ⟨p, 0, none⟩ (.slice (some ⟨g, 0, none⟩) (L.length - 1) cap)).setChan c room (buf.push unit0) false (s + 1) r false) B p c (.slice (some ⟨g, 0, none⟩) (L.length - 1) cap) room (L.eraseIdx i) ∧
    Below B w ((w2.setCell ⟨p, 0, none⟩ (.slice (some ⟨g, 0, none⟩) (L.length - 1) cap)).setChan c room (buf.push unit0) false (s + 1) r false) ∧
    Kept isBag w ((w2.setCell ⟨p, 0, none⟩ (.slice (some ⟨g, 0, none⟩) (L.length - 1) cap)).setChan c room (buf.push unit0) false (s + 1) r false) := by
  obtain ⟨hp, hBp, hBc, _, ho, hL, hpw⟩ := hB
  obtain ⟨cur, hBg, hg, _⟩ := own_row ho
  have hpg : p ≠ g := by rintro rfl; rw [hp] at hg; injection hg with hg; injection hg with _ hg; cases hg
  have hcg : c ≠ g := by rintro rfl; rw [hc] at hg; cases hg
  have hpc : p ≠ c := by rintro rfl; rw [hp] at hc; cases hc
  generalize hsv : (Value.slice (some ⟨g, 0, none⟩) (L.length - 1) cap) = sv at *
  have hp2 := (hk p hpg).trans hp
  have hc2 := (hk c hcg).trans hc
  have hc3 : (w2.setCell ⟨p, 0, none⟩ sv).heap[c]? = some (.chan room buf false s r false) := (Below.heap_setCell w2 _ _ c (Ne.symm hpc)).trans hc2
  have hp3 := heap_setCell_same w2 p 0 _ _ sv hp2
  have hb3 : Below B w (w2.setCell ⟨p, 0, none⟩ sv) := hb.setCell hBp _
  have hkk : Kept isBag w (w2.setCell ⟨p, 0, none⟩ sv) := fun k o h1 hn => by
    have hkg : k ≠ g := by rintro rfl; rw [hg] at h1; injection h1 with h1; subst h1; exact hn (isBag_row _ _)
    have hkp : k ≠ p := by rintro rfl; rw [hp] at h1; injection h1 with h1; subst h1; exact hn (isBag_bag _ _)
    exact (Below.heap_setCell w2 _ _ k hkp).trans ((hk k hkg).trans h1)
  have hk4 := hkk.trans (Kept.setChan _ c room (buf.push unit0) false (s + 1) r false (fun o h => by rw [hc3] at h; injection h with h; subst h; trivial))
  have ho3 : (w2.setCell ⟨p, 0, none⟩ sv).ownsRow B 54 3 sv (L.length - 1) (rowOf (L.eraseIdx i)) := by
    refine ⟨ho2.1, ?_⟩
    rcases ho2.2 with h0 | ⟨g', cap', cur', hv, hb', hh, hr⟩
    · exact .inl h0
    · have hne : g' ≠ p := by rintro rfl; rw [hh] at hp2; injection hp2 with hp2; injection hp2 with _ hp2; cases hp2
      exact .inr ⟨g', cap', cur', hv, hb', (Below.heap_setCell w2 _ _ g' hne).trans hh, hr⟩
  have hle : (L.eraseIdx i).length = L.length - 1 := List.length_eraseIdx_of_lt hi
  refine ⟨⟨?_, hBp, hBc, ⟨_, _, _, heap_setChan _ _ _ _ _ _ _ _ (heap_lt hc3), ?_⟩, ?_, fun x hx => own_of_kept (hL x (List.mem_of_mem_eraseIdx hx)) hk4 fun cs => not_isBag_byte cs _, hpw.sublist (List.eraseIdx_sublist _ _)⟩, below_setChan hb3 hBc _ _ _ _ _ _, hk4⟩
  · simp only [World.setChan]; rw [Array.getElem?_setIfInBounds_ne (Ne.symm hpc)]; exact hp3
  · rw [hle]; simp; omega
  · rw [hle]; exact own_setChan ho3 hc3 _ _ _ _ _ _
set_option maxHeartbeats 400000 in
theorem take_none {w : World} {B p c room : Nat} {sv : Value} {L : List Ltr} (hB : BagAt w B p c sv room L) (i : Int) (hi : ¬ (0 ≤ i ∧ i < L.length)) :
    Calls Try.prog 10 #[.pointer (some ⟨p, 0, none⟩), .int .i64 i] w fun e w' => e = .returned (.tuple #[.int .i64 0, .slice none 0 0, .int .i64 4]) ∧ w = w' := by
  have HT := hide_ (look_none hB i hi)
  clear hi
  go_enter Try.func10, Try.ntmps10
  go_wp2_with (go_at_call 8; refine HT.out.mono ?_; rintro e w' ⟨rfl, rfl⟩)
  go_ret3
  exact ⟨rfl, rfl⟩
set_option maxHeartbeats 1000000 in
theorem take_any {w : World} {B p c room : Nat} {sv : Value} {L : List Ltr} (hB : BagAt w B p c sv room L) (hr4 : room ≤ 4096) (hBw : B ≤ w.heap.size) (i : Nat) (x : Ltr) (hi : L[i]? = some x) (hx : x.text.length ≤ 140737488351232) :
    Calls Try.prog 10 #[.pointer (some ⟨p, 0, none⟩), .int .i64 (i : Int)] w fun e w' =>
      ∃ v, e = .returned (.tuple #[.int .i64 x.dest, v, .int .i64 0]) ∧ w'.ownsRow w.heap.size 5 1 v x.text.length (bvs x.text) ∧ (∃ sv', BagAt w' B p c sv' room (L.eraseIdx i)) ∧ Below B w w' ∧ Kept isBag w w' := by
  have hil := (List.getElem?_eq_some_iff.1 hi).1
  obtain ⟨hp, hBp, hBc, ⟨buf, s, r, hc, hroom⟩, ho, hL, hpw⟩ := id hB
  have hLl : L.length ≤ 4096 := by omega
  obtain ⟨g, cap, rfl, _, hgl⟩ := ho.form (by omega)
  have HK := hide_ (look_any hB hr4 i x hi hx)
  have HB := hide_ hB
  have HC : w.heap[c]? = some (.chan room buf false s r false) ∧ c < w.heap.size := ⟨hc, heap_lt hc⟩
  have HPG : p ≠ g ∧ c ≠ p ∧ c ≠ g := by
    obtain ⟨cur, _, hg, _⟩ := own_row ho
    refine ⟨?_, ?_, ?_⟩
    · rintro rfl; rw [hp] at hg; injection hg with hg; injection hg with _ hg; cases hg
    · rintro rfl; rw [hp] at hc; cases hc
    · rintro rfl; rw [hc] at hg; cases hg
  clear hp hc ho hL hpw hi hB
  go_enter Try.func10, Try.ntmps10
  go_upto_region 5 with (first
    | (go_at_call 8; refine HK.out.mono ?_; rintro e w1 ⟨v1, rfl, ho1, hb1⟩; have HB1 := hide_ (HB.out.later hb1); have hk1 : w1.cell? ⟨p, 0, none⟩ = some (.slice (some ⟨g, 0, none⟩) L.length cap) := cell_of_row _ _ 0 _ _ (0, 0) HB1.out.1)
    | (go_at_call 20; refine (delete_any HB1.out.2.2.2.2.1 HB1.out.2.2.2.2.2.1 i hil (by omega)).mono ?_; rintro e w2 ⟨rfl, ho2, hb2, hk2, hs2⟩; have hp2 := (hk2 p HPG.1).trans HB1.out.1; have hfz2 := frozen_of_row _ _ 0 _ _ hp2; have hkk2 := cell_of_row _ _ 0 _ _ (0, 0) hp2))
  have hc1 := (hb1.block c HC.2).trans HC.1
  have hCL := take_close HB1.out hil hroom hc1 ho2 hb2 hk2
  obtain ⟨w3, hw3⟩ : ∃ w3, w3 = w2.setCell ⟨p, 0, none⟩ (.slice (some ⟨g, 0, none⟩) (L.length - 1) cap) := ⟨_, rfl⟩
  rw [← hw3]
  rw [← hw3] at hCL
  have hp3 := heap_setCell_same w2 p 0 _ _ (.slice (some ⟨g, 0, none⟩) (L.length - 1) cap) hp2
  have hc3 : w3.heap[c]? = some (.chan room buf false s r false) := by
    rw [hw3]
    exact (Below.heap_setCell w2 _ _ c HPG.2.1).trans ((hk2 c HPG.2.2).trans hc1)
  rw [← hw3] at hp3
  have hk3 : w3.cell? ⟨p, 1, none⟩ = some (.chan (some c)) := cell_of_row _ _ 1 _ _ (0, 0) hp3
  have HCL := hide_ hCL
  have HO1 := hide_ ho1
  have HBB := hide_ hb1
  clear hCL hw3 hp3 hp2 hfz2 hkk2 hk1 ho2 hb2 hk2 hs2 HB1 HB HPG ho1 hb1 HC hc1
  have zv : ∀ W, (zeroValue 50).run Try.prog W = .ok (.agg #[]) W := fun W => by kernel_rfl
  go_upto_region 7 with (fail)
  refine wp_of_inReg ?_
  simp only [List.size_toArray, List.length_cons, List.length_nil, Nat.reduceAdd, Nat.zero_add, List.range, List.range.loop]
  refine inReg_put 0 (c := c) (cap := room) (v := unit0) (z := .agg #[]) rfl (by rfl) (by simp [execOp, scase, zv, Act.eval, unit0]) hc3 (by omega) ?_
  simp only [Act.put, List.setIfInBounds_toArray, List.set_cons_zero, List.set_cons_succ]
  refine inReg_same 1 (v := ?_) rfl (by rfl) (by go_simp; with_reducible rfl) ?_
  simp only [Act.put, List.setIfInBounds_toArray, List.set_cons_zero, List.set_cons_succ]
  refine inReg_same 2 (v := ?_) rfl (by rfl) (by go_simp; with_reducible rfl) ?_
  simp only [Act.put, List.setIfInBounds_toArray, List.set_cons_zero, List.set_cons_succ]
  refine inReg_nil ?_
  go_wp2_with fail
  go_ret3
  obtain ⟨h1, h2, h3⟩ := HCL.out
  exact ⟨v1, rfl, own_of_kept HO1.out h3 fun cs => not_isBag_byte cs _, ⟨_, h1⟩, (HBB.out.mono hBw).trans h2, (Kept.of_later HBB.out).trans h3⟩
end Go.Proofs.Ytajhogjogkfioaa
