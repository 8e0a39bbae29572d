/-
  front: the first moment of a front.
-/
import Derived.Test.YtcmollfhlillfaaGreatDoorFrPut
namespace Go.Proofs.YtcmollfhlillfaaGreatDoor
open Go.RowKit
set_option linter.unusedVariables false
set_option linter.unusedSimpArgs false
theorem TurnPost.from {w0 w : World} {f : Nat} {X : List Nat} {s : Fr} {L : List Msg} {e : Ending} {w' : World} {X0 : List Nat} (h : TurnPost w f X s L e w') (hh : Hits (· ∈ X0) w0 w) (hX : Fresh w0 X0 X) (hlt : ∀ k ∈ X0, k < w0.heap.size) : TurnPost w0 f X0 s L e w' := by
  obtain ⟨A, n, c, Y, X', base, rfl, h1, h2, h3, h4, h5, h6, h7, h8⟩ := h
  have hs := hh.size
  refine ⟨A, n, c, Y, X', base, rfl, h1, h2, h3, by omega, h5, h6, hh.trans h7 fun i hi hx => ?_, hX.trans h8 hs⟩
  rcases hX i hx with h | h
  · exact h
  · omega
set_option maxHeartbeats 4000000 in
set_option maxRecDepth 100000 in
theorem tick_first {w : World} {f : Nat} {s : Fr} {X : List Nat} (h : FrH w f s X) (hb : s.begun = false) (hcur : s.cur = none) (hok : FrOk s) :
    Calls Tryz.prog 16 #[.pointer (some ⟨f, 0, none⟩)] w (TurnPost w f X (openF { s with begun := true }) (resolveL (openF { s with begun := true }) (openB { s with begun := true }))) := by
  obtain ⟨c, h1, _⟩ := id h
  have hr : w.heap[f]? = some (.cells #[.int .i64 s.node, .int .i64 s.gen, .int .i64 s.epoch, .int .i64 s.rec_, c.uc, c.ur, c.ub, .int .i64 s.version, .int .i64 s.known, .bool s.owed, .map (some c.m), c.uq, c.uw, .int .i64 s.number, c.up, .int .i64 s.stuck, .bool false] 75 (0, 0)) := by
    have := h1.row; unfold frCells at this; rw [hb] at this; exact this
  have hp := h.put (s' := { s with begun := true }) 16 (.bool true) ⟨rfl, rfl, rfl, rfl, rfl, rfl, rfl⟩ (fun c => rfl)
  have c16 : w.cell? ⟨f, 16, none⟩ = some (.bool false) := cell_of_row _ _ 16 _ _ (0, 0) hr
  have f16 := frozen_of_row _ _ 16 _ _ hr
  have d7 : (w.setCell ⟨f, 16, none⟩ (.bool true)).cell? ⟨f, 7, none⟩ = some (.int .i64 s.version) := cell_of_row _ _ 7 _ _ (0, 0) (heap_setCell_same w f 16 _ _ (.bool true) hr)
  have hv := hok.v1
  have HH := hide_ h
  have HO := hide_ (open_any hp.1 hcur (show FrOk { s with begun := true } from ⟨hok.bnd, hok.len, hok.sound, hok.refs, hok.many, hok.v0, hok.v1⟩))
  have HP := hide_ hp
  clear h h1 hr hp hok hcur hb
  go_enter Tryz.func16, Tryz.ntmps16
  go_wp2_with fail
  refine (HO.out.mono fun e w9 h9 => h9.from HP.out.2 (Fresh.refl _ _) HH.out.lt).mono ?_
  rintro e w9 ⟨A9, n9, c9, Y, X', base, rfl, hL, hS, hY, hb, hX', hf, hh, hfr⟩
  go_wp2_with fail
  go_ret
  exact ⟨A9, n9, c9, Y, X', base, rfl, hL, hS, hY, hb, hX', hf, hh, hfr⟩

end Go.Proofs.YtcmollfhlillfaaGreatDoor
