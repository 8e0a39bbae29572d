/-
  awake: the simplest facts.
-/
import Derived.Test.YtjkopohmcabfjaaGreatDoorTAwA
import Derived.Test.YtjkopohmcabfjaaGreatDoorSplit
namespace Go.Proofs.YtjkopohmcabfjaaGreatDoor
open Go.RowKit
set_option linter.unusedVariables false
set_option maxHeartbeats 1000000 in
set_option maxRecDepth 100000 in
theorem awake_any {B : Nat} {w : World} (h : Env B w) : Calls Tryz.prog 6 #[] w fun e w' => e = .returned (.bool true) ∧ Later w w' := by
  have HE := hide_ h
  have HLN := hide_ (show Calls Tryz.prog 17 #[.agg #[.int .i64 11, .int .i64 2, .int .i64 0, .int .i64 0, .string ⟨#[97, 32, 98]⟩, .string ⟨#[39]⟩]] w fun e w' => e = .returned (.tuple #[.string ⟨#[112, 117, 116, 32, 50, 32, 39, 97, 126, 48, 51, 50, 98, 32, 39, 126, 48, 51, 57]⟩, .int .i64 0]) ∧ Later w w' by
    have h := line_any h ⟨11, 2, 0, 0, [97, 32, 98], [39]⟩ ⟨by simp, by simp, by simp, by simp, by simp, by simp⟩
    unfold LinePost at h
    rw [awake_line] at h
    exact h)
  have HAC := hide_ (show ∀ W, Later w W → Calls Tryz.prog 9 #[.string ⟨#[112, 117, 116, 32, 50, 32, 39, 97, 126, 48, 51, 50, 98, 32, 39, 126, 48, 51, 57]⟩] W fun e w' => e = .returned (.tuple #[.agg #[.int .i64 11, .int .i64 2, .int .i64 0, .int .i64 0, .string ⟨#[97, 32, 98]⟩, .string ⟨#[39]⟩], .int .i64 0]) ∧ Later W w' from fun W hW => by
    have h := act_any (h.later hW) [112, 117, 116, 32, 50, 32, 39, 97, 126, 48, 51, 50, 98, 32, 39, 126, 48, 51, 57] (by simp)
    unfold ActPost at h
    rw [awake_act] at h
    exact h)
  clear h
  go_enter Tryz.func6, Tryz.ntmps6
  go_wp2_with fail
  refine HLN.out.mono ?_; rintro e w1 ⟨rfl, hl1⟩
  go_wp2_with fail
  refine (HAC.out w1 hl1).mono ?_; rintro e w2 ⟨rfl, hl2⟩
  have HL2 := hide_ (hl1.trans hl2)
  clear hl1 hl2
  go_wp2_with fail
  go_ret
  exact ⟨rfl, HL2.out.trans (later_alloc _ _)⟩

end Go.Proofs.YtjkopohmcabfjaaGreatDoor
