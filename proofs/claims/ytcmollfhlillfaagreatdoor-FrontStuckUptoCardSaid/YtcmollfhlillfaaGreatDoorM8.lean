/-
  Texts of this seat in one: Str.
-/
import Derived.Test.YtcmollfhlillfaaGreatDoorM3
import Derived.Test.YtcmollfhlillfaaGreatDoorM1
import Derived.Lib.Strings
import Derived.Test.YtcmollfhlillfaaGreatDoorProg
/-
  Strings as keys: their order, and how the model's comparisons read in it.
-/
namespace Go.Proofs.YtcmollfhlillfaaGreatDoor
open Go.RowKit
instance : LT ByteArray := ⟨fun a b => a.data.toList < b.data.toList⟩
instance : LE ByteArray := ⟨fun a b => a.data.toList ≤ b.data.toList⟩
instance (a b : ByteArray) : Decidable (a < b) := inferInstanceAs (Decidable (a.data.toList < b.data.toList))
instance (a b : ByteArray) : Decidable (a ≤ b) := inferInstanceAs (Decidable (a.data.toList ≤ b.data.toList))
theorem ba_ext {a b : ByteArray} (h : a.data.toList = b.data.toList) : a = b := by
  cases a; cases b; congr 1; exact Array.ext' h
theorem ba_antisymm (a b : ByteArray) (h : a ≤ b) (k : b ≤ a) : a = b :=
  ba_ext (List.le_antisymm (show a.data.toList ≤ b.data.toList from h) (show b.data.toList ≤ a.data.toList from k))
theorem ba_trans (a b c : ByteArray) (h : a ≤ b) (k : b ≤ c) : a ≤ c :=
  List.le_trans (show a.data.toList ≤ b.data.toList from h) (show b.data.toList ≤ c.data.toList from k)
theorem ba_lt_iff (a b : ByteArray) : a < b ↔ a ≤ b ∧ ¬ b ≤ a := by
  show a.data.toList < b.data.toList ↔ a.data.toList ≤ b.data.toList ∧ ¬ b.data.toList ≤ a.data.toList
  rw [List.not_le]
  exact ⟨fun h => ⟨List.le_of_lt h, h⟩, fun h => h.2⟩
instance : Std.IsLinearOrder ByteArray := { le_refl := fun a => List.le_refl a.data.toList, le_trans := ba_trans, le_antisymm := ba_antisymm, le_total := fun a b => List.le_total a.data.toList b.data.toList }
instance : Std.LawfulOrderLT ByteArray := { lt_iff := ba_lt_iff }
theorem bytesLess_lt : ∀ (x y : List UInt8), Op.bytesLess x y = decide (x < y)
  | [], [] => by simp [Op.bytesLess]
  | _ :: _, [] => by simp [Op.bytesLess]
  | [], _ :: _ => by simp [Op.bytesLess]
  | a :: x, b :: y => by
    rw [Op.bytesLess, bytesLess_lt x y, Bool.eq_iff_iff]
    simp [List.cons_lt_cons_iff]
theorem bl (a b : ByteArray) : Op.bytesLess a.toList b.toList = decide (a < b) := by
  rw [bytesLess_lt, Lib.toList_data, Lib.toList_data]; rfl
theorem beq_ba (a b : ByteArray) : (a.toList == b.toList) = decide (a = b) := by
  rw [Lib.toList_data, Lib.toList_data, Bool.eq_iff_iff]
  simp only [beq_iff_eq, decide_eq_true_eq]
  exact ⟨fun h => ba_ext h, fun h => by rw [h]⟩
theorem ble (a b : ByteArray) : (Op.bytesLess a.toList b.toList || a.toList == b.toList) = decide (a ≤ b) := by
  rw [bl, beq_ba, Bool.eq_iff_iff]
  simp only [Bool.or_eq_true, decide_eq_true_eq]
  grind
theorem run_max_str {P : Program} (ts : Array TypeId) (t : TypeId) (a b : ByteArray) (w : World) : (Builtin.max_ ts t #[.string a, .string b]).run P w = .ok (.string (if a < b then b else a)) w := by
  have h := bl a b
  by_cases hab : a < b
  · simp [Builtin.max_, Builtin.max2, Op.stringOp, asBool, h, hab]
  · simp [Builtin.max_, Builtin.max2, Op.stringOp, asBool, h, hab]
theorem run_min_str {P : Program} (ts : Array TypeId) (t : TypeId) (a b : ByteArray) (w : World) : (Builtin.min_ ts t #[.string a, .string b]).run P w = .ok (.string (if b < a then b else a)) w := by
  have h := ble a b
  by_cases hab : b < a
  · have h' : ¬ a ≤ b := by grind
    simp [Builtin.min_, Builtin.min2, Op.stringOp, asBool, h, hab, h']
  · have h' : a ≤ b := by grind
    simp [Builtin.min_, Builtin.min2, Op.stringOp, asBool, h, hab, h']
/-- cmp.Compare. -/
def cmpS (a b : ByteArray) : Int := if a < b then -1 else if b < a then 1 else 0
theorem cmpS_neg (a b : ByteArray) : decide (cmpS a b < 0) = decide (a < b) := by
  unfold cmpS
  by_cases h : a < b
  · simp [h]
  · by_cases h2 : b < a <;> simp [h, h2]
end Go.Proofs.YtcmollfhlillfaaGreatDoor
