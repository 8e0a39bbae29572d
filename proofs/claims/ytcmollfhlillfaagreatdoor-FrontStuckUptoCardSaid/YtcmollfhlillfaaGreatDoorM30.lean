/-
  Texts of this seat in one: FrTick1, FrAw, FrLst.
-/
import Derived.Test.YtcmollfhlillfaaGreatDoorM29
/-
  front: the first moment of a front.
-/
namespace Go.Proofs.YtcmollfhlillfaaGreatDoor
open Go.RowKit
set_option linter.unusedVariables false
set_option linter.unusedSimpArgs false
theorem TurnPost.from {w0 w : World} {f : Nat} {X : List Nat} {s : Fr} {L : List Msg} {e : Ending} {w' : World} {X0 : List Nat} (h : TurnPost w f X s L e w') (hh : Hits (· ∈ X0) w0 w) (hX : Fresh w0 X0 X) (hlt : ∀ k ∈ X0, k < w0.heap.size) : TurnPost w0 f X0 s L e w' := by
  obtain ⟨A, n, c, Y, X', base, rfl, h1, h2, h3, h4, h5, h6, h7, h8⟩ := h
  have hs := hh.size
  refine ⟨A, n, c, Y, X', base, rfl, h1, h2, h3, by omega, h5, h6, hh.trans h7 fun i hi hx => ?_, hX.trans h8 hs⟩
  rcases hX i hx with h | h
  · exact h
  · omega
set_option maxHeartbeats 4000000 in
set_option maxRecDepth 100000 in
theorem tick_first {w : World} {f : Nat} {s : Fr} {X : List Nat} (h : FrH w f s X) (hb : s.begun = false) (hcur : s.cur = none) (hok : FrOk s) :
    Calls Tryz.prog 16 #[.pointer (some ⟨f, 0, none⟩)] w (TurnPost w f X (openF { s with begun := true }) (resolveL (openF { s with begun := true }) (openB { s with begun := true }))) := by
  obtain ⟨c, h1, _⟩ := id h
  have hr : w.heap[f]? = some (.cells #[.int .i64 s.node, .int .i64 s.gen, .int .i64 s.epoch, .int .i64 s.rec_, c.uc, c.ur, c.ub, .int .i64 s.version, .int .i64 s.known, .bool s.owed, .map (some c.m), c.uq, c.uw, .int .i64 s.number, c.up, .int .i64 s.stuck, .bool false] 75 (0, 0)) := by
    have := h1.row; unfold frCells at this; rw [hb] at this; exact this
  have hp := h.put (s' := { s with begun := true }) 16 (.bool true) ⟨rfl, rfl, rfl, rfl, rfl, rfl, rfl⟩ (fun c => rfl)
  have c16 : w.cell? ⟨f, 16, none⟩ = some (.bool false) := cell_of_row _ _ 16 _ _ (0, 0) hr
  have f16 := frozen_of_row _ _ 16 _ _ hr
  have d7 : (w.setCell ⟨f, 16, none⟩ (.bool true)).cell? ⟨f, 7, none⟩ = some (.int .i64 s.version) := cell_of_row _ _ 7 _ _ (0, 0) (heap_setCell_same w f 16 _ _ (.bool true) hr)
  have hv := hok.v1
  have HH := hide_ h
  have HO := hide_ (open_any hp.1 hcur (show FrOk { s with begun := true } from ⟨hok.bnd, hok.len, hok.sound, hok.refs, hok.many, hok.v0, hok.v1⟩))
  have HP := hide_ hp
  clear h h1 hr hp hok hcur hb
  go_enter Tryz.func16, Tryz.ntmps16
  go_wp2_with fail
  refine (HO.out.mono fun e w9 h9 => h9.from HP.out.2 (Fresh.refl _ _) HH.out.lt).mono ?_
  rintro e w9 ⟨A9, n9, c9, Y, X', base, rfl, hL, hS, hY, hb, hX', hf, hh, hfr⟩
  go_wp2_with fail
  go_ret
  exact ⟨A9, n9, c9, Y, X', base, rfl, hL, hS, hY, hb, hX', hf, hh, hfr⟩

end Go.Proofs.YtcmollfhlillfaaGreatDoor
/-
  FrontArgs: the simplest facts of a front.
-/
namespace Go.Proofs.YtcmollfhlillfaaGreatDoor
open Go.RowKit
set_option linter.unusedVariables false
set_option linter.unusedSimpArgs false
/-- The cells of a message of a row. -/
theorem msg_cells {base : Nat} {w : World} {A : Option Addr} {n c : Nat} {L : List Msg} {X : List Nat} (h : SliceP base 53 msgR w (.slice A n c) L X) {i : Nat} {m : Msg} (hi : L[i]? = some m) :
    ∃ g u x, A = some ⟨g, 0, none⟩ ∧ w.cell? ⟨g, i * 8, none⟩ = some (.int .i64 m.kind) ∧ w.cell? ⟨g, i * 8 + 1, none⟩ = some (.int .i64 m.frm) ∧ w.cell? ⟨g, i * 8 + 2, none⟩ = some (.int .i64 m.to_) ∧ w.cell? ⟨g, i * 8 + 3, none⟩ = some (.int .i64 m.epoch) ∧ w.cell? ⟨g, i * 8 + 4, none⟩ = some (.int .i64 m.a) ∧ w.cell? ⟨g, i * 8 + 5, none⟩ = some (.int .i64 m.b) ∧ w.cell? ⟨g, i * 8 + 6, none⟩ = some (.int .i64 m.c) ∧ w.cell? ⟨g, i * 8 + 7, none⟩ = some u ∧ bodyR.holds w [u] m.body x := by
  obtain ⟨hn, g, cells, x, hA, hc, u, rfl, h1⟩ := slice_cells h.holds hi (by decide)
  have z := hc 0 _ rfl
  rw [Nat.add_zero] at z
  exact ⟨g, u, x, hA, z, hc 1 _ rfl, hc 2 _ rfl, hc 3 _ rfl, hc 4 _ rfl, hc 5 _ rfl, hc 6 _ rfl, hc 7 _ rfl, h1⟩
theorem cell_later {w w' : World} {b o : Nat} {u : Value} (h : w.cell? ⟨b, o, none⟩ = some u) (hl : Later w w') : w'.cell? ⟨b, o, none⟩ = some u := (hl.cell (cell_lt h)).trans h
def awS : Fr := fr0 60 1 5 7 7 [20] [80] []
theorem aw_ok : FrOk { awS with begun := true } := ⟨by decide, rfl, fun j hj => (by cases hj), fun r hr => (by rw [List.mem_singleton.1 hr]; unfold I64; decide), (by decide), (by decide), (by decide)⟩
theorem aw_ok0 : FrOk awS := ⟨by decide, rfl, fun j hj => (by cases hj), fun r hr => (by rw [List.mem_singleton.1 hr]; unfold I64; decide), (by decide), (by decide), (by decide)⟩
theorem aw_list : resolveL (openF { awS with begun := true }) (openB { awS with begun := true }) = [⟨3, 60, 80, 5, 7, 1007, 0, []⟩] := by rfl
set_option maxHeartbeats 4000000 in
set_option maxRecDepth 100000 in
theorem awake_any (w : World) : Calls Tryz.prog 8 #[] w fun e w' => e = .returned (.bool true) ∧ Later w w' := by
  obtain ⟨W2, hW2⟩ : ∃ W2, W2 = (w.alloc (.cells #[.int .i64 20] 3)).alloc (.cells #[.int .i64 80] 3) := ⟨_, rfl⟩
  have hl2 : Later w W2 := by rw [hW2]; exact (later_alloc _ _).al _
  go_enter Tryz.func8, Tryz.ntmps8
  go_wp2_with fail
  rw [← hW2]
  have ho1 : W2.ownsRow w.heap.size 3 1 (.slice (some ⟨w.heap.size, 0, none⟩) 1 1) 1 (ints [20]) := by rw [hW2]; exact (own_new w #[.int .i64 20] 3 1 1 _ rfl (by unfold maxLen; omega) (Nat.le_refl _)).alloc _
  have ho2 : W2.ownsRow w.heap.size 3 1 (.slice (some ⟨w.heap.size + 1, 0, none⟩) 1 1) 1 (ints [80]) := by
    have h := own_new (w.alloc (.cells #[.int .i64 20] 3)) #[.int .i64 80] 3 1 1 w.heap.size rfl (by unfold maxLen; omega) (by simp)
    rw [show (w.alloc (.cells #[.int .i64 20] 3)).heap.size = w.heap.size + 1 by simp] at h
    rw [hW2]; exact h
  have ha : NewArgs W2 (some ⟨w.heap.size, 0, none⟩) (some ⟨w.heap.size + 1, 0, none⟩) none 1 1 0 [20] [80] [] := ⟨Rd.of_own ho1, Rd.of_own ho2, Rd.of_own (base := 0) (e := 9) (c := 0) (World.ownsRow_nil _ _ _ _), by decide, by decide, by decide, fun h => (by cases h), fun h => (by cases h), fun _ => rfl⟩
  refine (new_ok ha 60 1 5 7 7 (by unfold newBad; decide) (by decide)).mono ?_
  rintro e w3 ⟨f, X, rfl, hf, hX, hl3⟩
  have hl3 := hl2.trans hl3
  have HF := hide_ hf; have HL3 := hide_ hl3
  have HX := hide_ (show ∀ k ∈ X, w.heap.size ≤ k from fun k hk => by have := hX k hk; have := hl2.size; omega)
  clear ho1 ho2 ha hf hl3 hX
  clear hW2 hl2
  go_wp2_with fail
  refine (tick_first HF.out rfl rfl aw_ok0).mono ?_
  rintro e w4 ⟨A9, n9, c9, Y, X', base, rfl, hL, hS, hY, hb, hX', hf4, hh, hfr⟩
  have hl4 : Later w w4 := Below.trans HL3.out (hh.below (B := w.heap.size) HL3.out.size HX.out)
  obtain rfl : n9 = 1 := hL.symm.trans (congrArg List.length aw_list)
  have hS2 := hS
  rw [show resolveL (openF { fr0 60 1 5 7 7 [20] [80] [] with begun := true }) (openB { fr0 60 1 5 7 7 [20] [80] [] with begun := true }) = [⟨3, 60, 80, 5, 7, 1007, 0, []⟩] from aw_list] at hS2
  obtain ⟨g, u, x, rfl, m0, m1, m2, m3, m4, m5, m6, m7, _⟩ := msg_cells (i := 0) hS2 rfl
  have HL4 := hide_ hl4; have HF4 := hide_ hf4
  clear hS hS2 hY hb hX' hf4 hh hfr hl4 hL
  go_wp2_with fail
  refine (ends_any HF4.out).mono ?_
  rintro e w5 ⟨rfl, hl5⟩
  have m0 := cell_later m0 hl5
  have m2 := cell_later m2 hl5
  have m4 := cell_later m4 hl5
  have m5 := cell_later m5 hl5
  have HL5 := hide_ (HL4.out.trans hl5)
  have ev : (openF { fr0 60 1 5 7 7 [20] [80] [] with begun := true }).version = 1007 := rfl
  have ek : (openF { fr0 60 1 5 7 7 [20] [80] [] with begun := true }).known = 7 := rfl
  rw [ev, ek]
  clear hl5 ev ek
  go_wp2_with fail
  go_ret
  exact ⟨rfl, HL5.out⟩

end Go.Proofs.YtcmollfhlillfaaGreatDoor
/-
  The document's least: is none of numbers below 0?
-/
namespace Go.Proofs.YtcmollfhlillfaaGreatDoor
open Go.RowKit
set_option linter.unusedVariables false
set_option linter.unusedSimpArgs false
def leastB (L : List Int) : Bool := L.all fun n => decide (0 ≤ n)
theorem leastB_next {L : List Int} {k : Nat} {x : Int} (h : L[k]? = some x) : leastB (L.take (k + 1)) = (leastB (L.take k) && decide (0 ≤ x)) := by
  unfold leastB; rw [take_snoc h, List.all_append]; simp
theorem leastB_bad {L : List Int} {k : Nat} {x : Int} (h : L[k]? = some x) (hx : x < 0) : leastB L = false := by
  unfold leastB; rw [List.all_eq_false]; exact ⟨x, List.mem_of_getElem? h, by simp; omega⟩
theorem least_any {w : World} {A : Option Addr} {n c : Nat} {L : List Int} (hr : Rd w 1 A n (ints L)) (hl : L.length = n) (hn : n ≤ 4398046511104) :
    Calls Tryz.prog 38 #[.slice A n c] w fun e w' => e = .returned (.bool (leastB L)) ∧ w' = w := by
  have HR := hide_ hr; have HL := hide_ hl
  have hn2 : (n : Int) ≤ 4398046511104 := by omega
  clear hr hl
  go_enter Tryz.func38, Tryz.ntmps38
  go_wp2_with fail
  go_loop [3] (fun s3 => ∃ (k : Nat), k ≤ n ∧ s3 = .int .i64 k ∧ Hid (leastB (L.take k) = true)) (fun i => n - (intOf i).toNat)
  case atStart => exact ⟨0, Nat.zero_le _, rfl, hide_ (by simp [leastB])⟩
  case round =>
    obtain ⟨k, hk, rfl, HN⟩ := hrel
    by_cases hlt : k < n
    · have q1 : (k : Int) < (n : Int) := by omega
      have q2 : (k : Int) ≤ 4398046511104 := by omega
      obtain ⟨m, hm⟩ : ∃ m, L[k]? = some m := ⟨_, List.getElem?_eq_getElem (by rw [HL.out]; exact hlt)⟩
      obtain ⟨b, o, rfl, l0⟩ := HR.out.int hm
      by_cases hx : m < 0
      · have HF := hide_ (leastB_bad hm hx)
        clear hm
        go_wp2_with fail
        go_ret
        exact ⟨ret_val (congrArg Value.bool HF.out.symm), rfl⟩
      · have HF := hide_ (show leastB (L.take (k + 1)) = true by rw [leastB_next hm, HN.out]; simp; omega)
        clear hm
        go_wp2_with fail
        go_round
        case rel => exact ⟨k + 1, by omega, by go_num, HF⟩
        case measure => simp [intOf]; omega
    · obtain rfl : k = n := by omega
      have HF := hide_ (show leastB L = true by have := HN.out; rwa [← HL.out, List.take_length] at this)
      go_wp2_with fail
      go_ret
      exact ⟨ret_val (congrArg Value.bool HF.out.symm), rfl⟩
end Go.Proofs.YtcmollfhlillfaaGreatDoor
