/-
  Has and Empty as a region meets them; the document's Has.
-/
import Derived.Test.YtidlkomgondkiaaKSpanOpen
namespace Go.Proofs.Ytidlkomgondkiaa
open Go.RowKit
set_option linter.unusedVariables false
set_option linter.unusedSimpArgs false
theorem later_step {w w1 : World} {p : Addr} {u : Value} (l : ∀ W, Later w W → W.cell? p = some u) (h : Later w w1) : ∀ W, Later w1 W → W.cell? p = some u := fun W hW => l W (h.trans hW)
theorem below_step {w w1 w2 : World} (h : Below w.heap.size w w1) (hb : Later w1 w2) : Below w.heap.size w w2 := h.trans (Below.mono hb h.size)
theorem empty_b (s : Spn) (w : World) : Calls Try.prog 42 #[.agg #[.string s.1, .string s.2]] w fun e w' => e = .returned (.bool (decide (s.2 ≤ s.1))) ∧ Later w w' :=
  (empty_any s.1 s.2 w).mono fun e w' ⟨he, hw⟩ => ⟨he, by rw [hw]; exact (Below.refl _ _).alloc (Nat.le_refl _) _⟩
set_option maxHeartbeats 400000 in
theorem rhas_b (s : Spn) (k : ByteArray) (c : Bool) (hc : c = true ↔ InS s k) (w : World) : Calls Try.prog 93 #[.agg #[.string s.1, .string s.2], .string k] w fun e w' => e = .returned (.bool c) ∧ Later w w' := by
  have hin : InS s k ↔ s.1 ≤ k ∧ k < s.2 := Iff.rfl
  rw [hin] at hc
  clear hin
  by_cases h : k < s.1
  · obtain rfl : c = false := by rw [Bool.eq_false_iff]; intro h2; have := (hc.1 h2).1; grind
    have h1 : Op.bytesLess k.toList s.1.toList = true := by rw [bl]; simpa
    clear h hc
    go_enter Try.func93, Try.ntmps93
    go_wp2
    go_ret
    exact ⟨rfl, (Below.refl _ _).alloc (Nat.le_refl _) _⟩
  · have h1 : Op.bytesLess k.toList s.1.toList = false := by rw [bl]; simpa
    by_cases h2 : k < s.2
    · obtain rfl : c = true := hc.2 ⟨by grind, h2⟩
      have h3 : Op.bytesLess k.toList s.2.toList = true := by rw [bl]; simpa
      clear h h2 hc
      go_enter Try.func93, Try.ntmps93
      go_wp2
      go_ret
      exact ⟨rfl, (Below.refl _ _).alloc (Nat.le_refl _) _⟩
    · obtain rfl : c = false := by rw [Bool.eq_false_iff]; intro h3; exact h2 (hc.1 h3).2
      have h3 : Op.bytesLess k.toList s.2.toList = false := by rw [bl]; simpa
      clear h h2 hc
      go_enter Try.func93, Try.ntmps93
      go_wp2
      go_ret
      exact ⟨rfl, (Below.refl _ _).alloc (Nat.le_refl _) _⟩
theorem stoList_inj (a b : ByteArray) : a.toList = b.toList ↔ a = b := by
  rw [Lib.toList_data, Lib.toList_data]
  exact ⟨ba_ext, fun h => by rw [h]⟩
/-- '==' of two spans. -/
theorem eq_span (x y : Spn) (W : World) : (binOp .eql 24 (.agg #[.string x.1, .string x.2]) (.agg #[.string y.1, .string y.2])).run Try.prog W = .ok (.bool (decide (x = y))) W := by
  have hS : Try.prog.underlying 24 = some (.struct (Try.prog.fieldsOf 24)) := by kernel_rfl
  have hp : Try.prog.stoodInHeld 24 = false := by kernel_rfl
  rw [run_eql_struct, show (10000 : Nat) = 9999 + 1 from rfl, run_equalIn_agg W 9999 24 _ _ hS hp]
  simp only [Program.fieldsOf, Try.underlying24]
  go_simp
  simp only [stoList_inj]
  obtain ⟨x1, x2⟩ := x
  obtain ⟨y1, y2⟩ := y
  by_cases h1 : x1 = y1 <;> by_cases h2 : x2 = y2 <;> simp [h1, h2]
theorem neq_span (x y : Spn) (W : World) : (binOp .neq 24 (.agg #[.string x.1, .string x.2]) (.agg #[.string y.1, .string y.2])).run Try.prog W = .ok (.bool (!decide (x = y))) W := by
  have hS : Try.prog.underlying 24 = some (.struct (Try.prog.fieldsOf 24)) := by kernel_rfl
  have hp : Try.prog.stoodInHeld 24 = false := by kernel_rfl
  rw [run_neq_struct, show (10000 : Nat) = 9999 + 1 from rfl, run_equalIn_agg W 9999 24 _ _ hS hp]
  simp only [Program.fieldsOf, Try.underlying24]
  go_simp
  simp only [stoList_inj]
  obtain ⟨x1, x2⟩ := x
  obtain ⟨y1, y2⟩ := y
  by_cases h1 : x1 = y1 <;> by_cases h2 : x2 = y2 <;> simp [h1, h2]
theorem guard_span (op : BinOp) (x y : Operand) (xs ys : Array Value) (W : World) : (eqGuard op 24 x y (.agg xs) (.agg ys)).run Try.prog W = .ok () W := run_eqGuard_agg W op 24 x y xs ys (by kernel_rfl)
theorem inS_dec (s : Spn) (k : ByteArray) : ∃ c : Bool, c = true ↔ InS s k := by
  by_cases h : InS s k
  · exact ⟨true, by simp [h]⟩
  · exact ⟨false, by simp [h]⟩
end Go.Proofs.Ytidlkomgondkiaa
