/-
  The walk of the law's own 'awake': it answers true.
-/
import Derived.Test.YtajhogjogkfioaaBagB
namespace Go.Proofs.Ytajhogjogkfioaa
open Go.RowKit Go.Conc
set_option linter.unusedVariables false
set_option maxHeartbeats 400000 in
theorem awake_any (w : World) :
    Calls Try.prog 5 #[] w fun e w' => e = .returned (.bool true) ∧ Below w.heap.size w w' := by
  have kc := fun (w : World) (C : Array Value) (n c : Nat) => Lib.run_convert_bytes_const (P := Try.prog) w 32 5 C n c Try.underlying32 Try.underlying5
  go_enter Try.func5, Try.ntmps5
  go_wp2_with fail
  refine (new_any 2 (by omega) w).mono ?_
  rintro e w1 ⟨p, c, rfl, hB1, hb1⟩
  go_wp2_with fail
  have hB2 := hB1.later ((Below.refl w1.heap.size w1).alloc (Nat.le_refl _) (.cells #[.int .u8 120] 5 (1, 2)))
  refine (send_any hB2 (by omega) (by have := hb1.size; simp; omega) 3 _ 1 1 [120] (by omega) (by omega) (by omega) rfl (by simp) (Rd.new w1 _ _ 1 _ rfl) (by simp)).mono ?_
  rintro e w3 ⟨rfl, ⟨sv, v, hB3⟩, hb3, hk3⟩
  have HB3 := Lib.hid hB3
  have HB := Lib.hid ((hb1.alloc hb1.size _).trans hb3)
  clear hB1 hB2 hb3 hk3 hB3
  go_wp2_with fail
  refine (look_any HB3.out (by omega) 0 ⟨3, v, [120], false⟩ rfl (by simp)).mono ?_
  rintro e w4 ⟨v4, rfl, ho4, hb4⟩
  obtain ⟨A4, c4, rfl⟩ := own_form ho4
  have hs : (convert 32 9 (.slice A4 1 c4)).run Try.prog w4 = .ok (.string ⟨#[120]⟩) w4 := run_str_rd 32 9 5 c4 (w := w4) (l := [120]) Try.underlying32 Try.underlying5 Try.underlying9 (own_nil ho4) (Rd.of_own ho4)
  have HB4 := Lib.hid (HB.out.trans (hb4.mono HB.out.size))
  have hl := len_any (HB3.out.later hb4)
  have HL := hide_ hl
  clear hl ho4 hb4 HB
  go_wp2_with (go_at_call 16; refine HL.out.mono ?_; rintro e w5 ⟨rfl, rfl⟩)
  go_ret
  exact ⟨rfl, HB4.out⟩
set_option maxHeartbeats 400000 in
theorem take_nil (i : Int) (w : World) :
    Calls Try.prog 10 #[.pointer none, .int .i64 i] w fun e w' => e = .returned (.tuple #[.int .i64 0, .slice none 0 0, .int .i64 1]) ∧ w = w' := by
  go_enter Try.func10, Try.ntmps10
  go_wp2_with (go_at_call 8; refine (look_nil _ _).mono ?_; rintro e w' ⟨rfl, rfl⟩)
  go_ret3
  exact ⟨rfl, rfl⟩
set_option maxHeartbeats 400000 in
theorem twin_nil (i : Int) (w : World) :
    Calls Try.prog 12 #[.pointer none, .int .i64 i] w fun e w' => e = .returned (.int .i64 1) ∧ w = w' := by
  go_enter Try.func12, Try.ntmps12
  go_wp2_with (go_at_call 19; refine (there_nil _ _).mono ?_; rintro e w' ⟨rfl, rfl⟩)
  go_ret
  exact ⟨rfl, rfl⟩
set_option maxHeartbeats 400000 in
theorem spoil_nil (i at_ t : Int) (w : World) :
    Calls Try.prog 14 #[.pointer none, .int .i64 i, .int .i64 at_, .int .u8 t] w fun e w' => e = .returned (.int .i64 1) ∧ w = w' := by
  go_enter Try.func14, Try.ntmps14
  go_wp2_with (go_at_call 19; refine (there_nil _ _).mono ?_; rintro e w' ⟨rfl, rfl⟩)
  go_ret
  exact ⟨rfl, rfl⟩
end Go.Proofs.Ytajhogjogkfioaa
