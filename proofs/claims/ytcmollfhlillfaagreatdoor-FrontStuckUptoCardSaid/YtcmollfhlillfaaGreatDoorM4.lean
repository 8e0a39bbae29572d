/-
  Texts of this seat in one: KRS.
-/
import Derived.Test.YtcmollfhlillfaaGreatDoorM3
/-
  A reader's state as plain functions.
-/
namespace Go.Proofs.YtcmollfhlillfaaGreatDoor
set_option linter.unusedVariables false
/-- A reader: what was not read, the first error. -/
abbrev RS := List UInt8 × Nat
def rNum (s : RS) : Nat × RS := if s.2 ≠ 0 then (0, s) else ((numF s.1).1, (s.1.drop (numF s.1).2.1, (numF s.1).2.2))
def rText (s : RS) : List UInt8 × RS := if s.2 ≠ 0 then ([], s) else ((textF s.1).1, (s.1.drop (textF s.1).2.1, (textF s.1).2.2))
def rCount (most : Nat) (s : RS) : Nat × RS := if most < (rNum s).1 then (0, ((rNum s).2.1, 2)) else rNum s
def rDone (s : RS) : Bool := decide (s.2 = 0) && decide (s.1 = [])
theorem rNum_put {n : Nat} (hn : n < 9223372036854775808) (r : List UInt8) : rNum (putN n ++ r, 0) = (n, (r, 0)) := by
  unfold rNum
  rw [if_neg (by simp)]
  simp only [numF_put hn, List.drop_left]
theorem rText_put {t : List UInt8} (ht : t.length ≤ 65536) (r : List UInt8) : rText (putT t ++ r, 0) = (t, (r, 0)) := by
  unfold rText
  rw [if_neg (by simp)]
  simp only [textF_put ht, List.drop_left]
end Go.Proofs.YtcmollfhlillfaaGreatDoor
