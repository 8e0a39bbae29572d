/-
  code.Writer's Bytes: all, or nothing and the error.
-/
import Derived.Test.YtcmollfhlillfaaGreatDoorKWrite
import Derived.Test.YtcmollfhlillfaaGreatDoorSplit
namespace Go.Proofs.YtcmollfhlillfaaGreatDoor
open Go.RowKit
set_option linter.unusedVariables false
set_option linter.unusedSimpArgs false
set_option maxHeartbeats 2000000 in
set_option maxRecDepth 100000 in
/-- A writer without an error hands back its row. -/
theorem wbytes_any {w : World} {B p : Nat} {v : Value} {l : List UInt8} (h : WrAt w B p v (l, 0)) :
    Calls Tryz.prog 69 #[.pointer (some ⟨p, 0, none⟩)] w fun e w' => e = .returned (.tuple #[v, .int .i64 0]) ∧ w' = w := by
  obtain ⟨A1, c1, hv1⟩ := own_form h.2.2
  subst hv1
  have d0 := cell_of_row _ _ 0 _ _ (0, 0) h.2.1
  have d1 := cell_of_row _ _ 1 _ _ (0, 0) h.2.1
  clear h
  go_enter Tryz.func69, Tryz.ntmps69
  go_wp2_with fail
  go_ret2
  exact ⟨rfl, rfl⟩

end Go.Proofs.YtcmollfhlillfaaGreatDoor
