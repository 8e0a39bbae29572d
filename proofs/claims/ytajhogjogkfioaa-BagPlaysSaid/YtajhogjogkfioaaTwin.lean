/-
  The walk of the bag's Twin.
-/
import Derived.Test.YtajhogjogkfioaaTake
namespace Go.Proofs.Ytajhogjogkfioaa
open Go.RowKit Go.Conc
set_option linter.unusedVariables false
set_option linter.unusedSimpArgs false
set_option maxHeartbeats 400000 in
theorem twin_none {w : World} {B p c room : Nat} {sv : Value} {L : List Ltr} (hB : BagAt w B p c sv room L) (i : Int) (hi : ¬ (0 ≤ i ∧ i < L.length)) :
    Calls Try.prog 12 #[.pointer (some ⟨p, 0, none⟩), .int .i64 i] w fun e w' => e = .returned (.int .i64 4) ∧ w = w' := by
  have ht := there_any hB i
  rw [if_neg hi] at ht
  have HT := hide_ ht
  clear ht hi
  go_enter Try.func12, Try.ntmps12
  go_wp2_with (go_at_call 19; refine HT.out.mono ?_; rintro e w' ⟨rfl, rfl⟩)
  go_ret
  exact ⟨rfl, rfl⟩
set_option maxHeartbeats 1000000 in
theorem twin_any {w : World} {B p c room : Nat} {sv : Value} {L : List Ltr} (hB : BagAt w B p c sv room L) (hr4 : room ≤ 4096) (hBw : B ≤ w.heap.size) (i : Nat) (x : Ltr) (hi : L[i]? = some x) (hx : x.text.length ≤ 140737488351232) (hf : L.length < room) :
    Calls Try.prog 12 #[.pointer (some ⟨p, 0, none⟩), .int .i64 (i : Int)] w fun e w' =>
      e = .returned (.int .i64 0) ∧ (∃ sv' v, BagAt w' B p c sv' room (L ++ [⟨x.dest, v, x.text, x.spoilt⟩])) ∧ Below B w w' ∧ Kept isBag w w' := by
  have hil := (List.getElem?_eq_some_iff.1 hi).1
  have ht := there_any hB (i : Int)
  rw [if_pos ⟨by omega, by omega⟩] at ht
  have HT := hide_ ht
  have HB := hide_ hB
  obtain ⟨hp, _, _, ⟨buf, s, r, hc, hroom⟩, ho, hL, _⟩ := hB
  have hLl : L.length ≤ 4096 := by omega
  have hxo := hL x (List.mem_of_getElem? hi)
  obtain ⟨g, cap, rfl, _, hgl⟩ := ho.form (by omega)
  obtain ⟨A, cx, hxv⟩ := own_form hxo
  have hxn : A = none → x.text.length = 0 := by rw [hxv] at hxo; exact own_nil hxo
  have hxr : Rd w 1 A x.text.length (bvs x.text) := by rw [hxv] at hxo; exact Rd.of_own hxo
  have hk0 : w.cell? ⟨p, 0, none⟩ = some (.slice (some ⟨g, 0, none⟩) L.length cap) := cell_of_row _ _ 0 _ _ (0, 0) hp
  have hc0 : w.cell? ⟨g, i * 3, none⟩ = some (.int .i64 x.dest) := (ho.cellAt (i * 3) (by omega)).trans (row_at hi 0 (by omega))
  have hc1 : w.cell? ⟨g, i * 3 + 1, none⟩ = some (.slice A x.text.length cx) := by rw [← hxv]; exact (ho.cellAt (i * 3 + 1) (by omega)).trans (row_at hi 1 (by omega))
  have hc2 : w.cell? ⟨g, i * 3 + 2, none⟩ = some (.bool x.spoilt) := (ho.cellAt (i * 3 + 2) (by omega)).trans (row_at hi 2 (by omega))
  have q1 : (i : Int) < (L.length : Int) := by omega
  have q0 : (0 : Int) ≤ (i : Int) := by omega
  have HX := Lib.hid hxn
  clear ht hp hc ho hL hxo hxv hi hxn
  go_enter Try.func12, Try.ntmps12
  go_wp2_with (go_at_call 19; refine HT.out.mono ?_; rintro e w' ⟨rfl, rfl⟩)
  refine (clone_any A x.text.length cx x.text _ rfl hx HX.out (hxr.alloc _)).mono ?_
  rintro e w2 ⟨v2, rfl, ho2, hb2⟩
  obtain ⟨A2, c2, rfl⟩ := own_form ho2
  have hbx : w2.heap[w.heap.size]? = some (.cells #[.int .i64 x.dest, .slice A x.text.length cx, .bool x.spoilt] 54 (0, 0)) :=
    (hb2.block _ (by simp)).trans (heap_alloc_new w _)
  have hfz := frozen_of_row _ _ 1 _ _ hbx
  have hbb : Below w.heap.size w w2 := ((Below.refl _ _).alloc (Nat.le_refl _) _).trans (hb2.mono (by simp))
  obtain ⟨w3, hw3⟩ : ∃ w3, w3 = w2.setCell ⟨w.heap.size, 1, none⟩ (.slice A2 x.text.length c2) := ⟨_, rfl⟩
  have hb3 : Below w.heap.size w w3 := by rw [hw3]; exact hbb.setCell (Nat.le_refl _) _
  have hbx3 := heap_setCell_same w2 w.heap.size 1 _ _ (.slice A2 x.text.length c2) hbx
  rw [← hw3] at hbx3
  have hd0 : w3.cell? ⟨w.heap.size, 0, none⟩ = some (.int .i64 x.dest) := cell_of_row _ _ 0 _ _ (0, 0) hbx3
  have hd1 : w3.cell? ⟨w.heap.size, 1, none⟩ = some (.slice A2 x.text.length c2) := cell_of_row _ _ 1 _ _ (0, 0) hbx3
  have hd2 : w3.cell? ⟨w.heap.size, 2, none⟩ = some (.bool x.spoilt) := cell_of_row _ _ 2 _ _ (0, 0) hbx3
  have HO2 := hide_ ho2
  have HB2 := hide_ hb2
  have hk1 : w2.cell? ⟨w.heap.size, 1, none⟩ = some (.slice A x.text.length cx) := cell_of_row _ _ 1 _ _ (0, 0) hbx
  clear ho2 hb2 hbb hbx hbx3
  rw [hw3] at hd0 hd1 hd2
  have hO3 : w3.ownsRow w.heap.size 5 1 (.slice A2 x.text.length c2) x.text.length (bvs x.text) := by
    have h := HO2.out
    refine ⟨h.1, ?_⟩
    rcases h.2 with h0 | ⟨g', cap', cur', hv, hb', hh, hr⟩
    · exact .inl h0
    · have hb'' : w.heap.size + 1 ≤ g' := by simpa using hb'
      have hne : g' ≠ w.heap.size := by omega
      exact .inr ⟨g', cap', cur', hv, by omega, by rw [hw3]; exact (Below.heap_setCell w2 _ _ g' hne).trans hh, hr⟩
  have HO3 := hide_ hO3
  have HB3 := hide_ (HB.out.later hb3)
  have HBE := hide_ hb3
  have HW3 := hide_ hw3
  clear hO3 hb3 HO2 HB2 hw3
  go_wp2_with (go_at_call 17; rw [← HW3.out]; refine (put_any x.dest (.slice A2 x.text.length c2) x.text x.spoilt HB3.out hf hr4 (Nat.le_trans hBw HBE.out.size) (own_base HO3.out hBw) (fun y hy g1 hg1 hg2 => absurd (own_lt (HB.out.2.2.2.2.2.1 y hy) hg1) (Nat.not_lt.2 (own_ge HO3.out hg2)))).mono ?_; rintro e w4 ⟨rfl, ⟨sv4, hB4⟩, hb4, hk4⟩; have HB4 := hide_ hB4; have HD := hide_ hb4; have HK4 := hide_ hk4; clear hB4 hb4 hk4)
  go_ret
  exact ⟨rfl, ⟨sv4, _, HB4.out⟩, (HBE.out.mono hBw).trans HD.out, (Kept.of_later HBE.out).trans HK4.out⟩
set_option maxHeartbeats 1000000 in
theorem twin_full {w : World} {B p c room : Nat} {sv : Value} {L : List Ltr} (hB : BagAt w B p c sv room L) (hr4 : room ≤ 4096) (hBw : B ≤ w.heap.size) (i : Nat) (x : Ltr) (hi : L[i]? = some x) (hx : x.text.length ≤ 140737488351232) (hf : L.length = room) :
    Calls Try.prog 12 #[.pointer (some ⟨p, 0, none⟩), .int .i64 (i : Int)] w fun e w' => e = .returned (.int .i64 10) ∧ Below w.heap.size w w' := by
  have hil := (List.getElem?_eq_some_iff.1 hi).1
  have ht := there_any hB (i : Int)
  rw [if_pos ⟨by omega, by omega⟩] at ht
  have HT := hide_ ht
  have HB := hide_ hB
  have HF := hide_ hf
  clear hf
  obtain ⟨hp, _, _, ⟨buf, s, r, hc, hroom⟩, ho, hL, _⟩ := hB
  have hLl : L.length ≤ 4096 := by omega
  have hxo := hL x (List.mem_of_getElem? hi)
  obtain ⟨g, cap, rfl, _, hgl⟩ := ho.form (by omega)
  obtain ⟨A, cx, hxv⟩ := own_form hxo
  have hxn : A = none → x.text.length = 0 := by rw [hxv] at hxo; exact own_nil hxo
  have hxr : Rd w 1 A x.text.length (bvs x.text) := by rw [hxv] at hxo; exact Rd.of_own hxo
  have hk0 : w.cell? ⟨p, 0, none⟩ = some (.slice (some ⟨g, 0, none⟩) L.length cap) := cell_of_row _ _ 0 _ _ (0, 0) hp
  have hc0 : w.cell? ⟨g, i * 3, none⟩ = some (.int .i64 x.dest) := (ho.cellAt (i * 3) (by omega)).trans (row_at hi 0 (by omega))
  have hc1 : w.cell? ⟨g, i * 3 + 1, none⟩ = some (.slice A x.text.length cx) := by rw [← hxv]; exact (ho.cellAt (i * 3 + 1) (by omega)).trans (row_at hi 1 (by omega))
  have hc2 : w.cell? ⟨g, i * 3 + 2, none⟩ = some (.bool x.spoilt) := (ho.cellAt (i * 3 + 2) (by omega)).trans (row_at hi 2 (by omega))
  have q1 : (i : Int) < (L.length : Int) := by omega
  have q0 : (0 : Int) ≤ (i : Int) := by omega
  have HX := Lib.hid hxn
  clear ht hp hc ho hL hxo hxv hi hxn
  go_enter Try.func12, Try.ntmps12
  go_wp2_with (go_at_call 19; refine HT.out.mono ?_; rintro e w' ⟨rfl, rfl⟩)
  refine (clone_any A x.text.length cx x.text _ rfl hx HX.out (hxr.alloc _)).mono ?_
  rintro e w2 ⟨v2, rfl, ho2, hb2⟩
  obtain ⟨A2, c2, rfl⟩ := own_form ho2
  have hbx : w2.heap[w.heap.size]? = some (.cells #[.int .i64 x.dest, .slice A x.text.length cx, .bool x.spoilt] 54 (0, 0)) :=
    (hb2.block _ (by simp)).trans (heap_alloc_new w _)
  have hfz := frozen_of_row _ _ 1 _ _ hbx
  have hbb : Below w.heap.size w w2 := ((Below.refl _ _).alloc (Nat.le_refl _) _).trans (hb2.mono (by simp))
  obtain ⟨w3, hw3⟩ : ∃ w3, w3 = w2.setCell ⟨w.heap.size, 1, none⟩ (.slice A2 x.text.length c2) := ⟨_, rfl⟩
  have hb3 : Below w.heap.size w w3 := by rw [hw3]; exact hbb.setCell (Nat.le_refl _) _
  have hbx3 := heap_setCell_same w2 w.heap.size 1 _ _ (.slice A2 x.text.length c2) hbx
  rw [← hw3] at hbx3
  have hd0 : w3.cell? ⟨w.heap.size, 0, none⟩ = some (.int .i64 x.dest) := cell_of_row _ _ 0 _ _ (0, 0) hbx3
  have hd1 : w3.cell? ⟨w.heap.size, 1, none⟩ = some (.slice A2 x.text.length c2) := cell_of_row _ _ 1 _ _ (0, 0) hbx3
  have hd2 : w3.cell? ⟨w.heap.size, 2, none⟩ = some (.bool x.spoilt) := cell_of_row _ _ 2 _ _ (0, 0) hbx3
  have HO2 := hide_ ho2
  have HB2 := hide_ hb2
  have hk1 : w2.cell? ⟨w.heap.size, 1, none⟩ = some (.slice A x.text.length cx) := cell_of_row _ _ 1 _ _ (0, 0) hbx
  clear ho2 hb2 hbb hbx hbx3
  rw [hw3] at hd0 hd1 hd2
  have HB3 := hide_ (HB.out.later hb3)
  have HBE := hide_ hb3
  have HW3 := hide_ hw3
  clear hb3 HO2 HB2 hw3
  go_wp2_with (go_at_call 17; rw [← HW3.out]; refine (put_full ⟨x.dest, .slice A2 x.text.length c2, x.text, x.spoilt⟩ HB3.out HF.out).mono ?_; rintro e w4 ⟨rfl, hb4⟩; have HD := hide_ hb4; clear hb4)
  go_ret
  exact ⟨rfl, HBE.out.trans (HD.out.mono HBE.out.size)⟩
end Go.Proofs.Ytajhogjogkfioaa
