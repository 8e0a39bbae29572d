/-
  The document's Span and Has as its One meets them.
-/
import Derived.Test.YtblljpdlmllceaaKRefPairs
import Derived.Test.YtblljpdlmllceaaG4
namespace Go.Proofs.Ytblljpdlmllceaa
open Go.RowKit
set_option linter.unusedVariables false
set_option linter.unusedSimpArgs false
set_option maxHeartbeats 400000 in
theorem rhas_c (s : ByteArray × ByteArray) (k : ByteArray) (c : Bool) (hc : c = true ↔ InS s k) (w : World) : Calls Try.prog 28 #[.agg #[.string s.1, .string s.2], .string k] w fun e w' => e = .returned (.bool c) ∧ Later w w' := by
  have hin : InS s k ↔ s.1 ≤ k ∧ k < s.2 := Iff.rfl
  rw [hin] at hc
  clear hin
  by_cases h : k < s.1
  · obtain rfl : c = false := by rw [Bool.eq_false_iff]; intro h2; have := (hc.1 h2).1; grind
    have h1 : Op.bytesLess k.toList s.1.toList = true := by rw [bl]; simpa
    clear h hc
    go_enter Try.func28, Try.ntmps28
    go_wp2
    go_ret
    exact ⟨rfl, (Below.refl _ _).alloc (Nat.le_refl _) _⟩
  · have h1 : Op.bytesLess k.toList s.1.toList = false := by rw [bl]; simpa
    by_cases h2 : k < s.2
    · obtain rfl : c = true := hc.2 ⟨by grind, h2⟩
      have h3 : Op.bytesLess k.toList s.2.toList = true := by rw [bl]; simpa
      clear h h2 hc
      go_enter Try.func28, Try.ntmps28
      go_wp2
      go_ret
      exact ⟨rfl, (Below.refl _ _).alloc (Nat.le_refl _) _⟩
    · obtain rfl : c = false := by rw [Bool.eq_false_iff]; intro h3; exact h2 (hc.1 h3).2
      have h3 : Op.bytesLess k.toList s.2.toList = false := by rw [bl]; simpa
      clear h h2 hc
      go_enter Try.func28, Try.ntmps28
      go_wp2
      go_ret
      exact ⟨rfl, (Below.refl _ _).alloc (Nat.le_refl _) _⟩
/-- The span that a change names. -/
def spanC (kind : Int) (k v : ByteArray) : ByteArray × ByteArray := if kind = 3 then (k, v) else (k, k ++ ⟨#[0]⟩)
set_option maxHeartbeats 400000 in
theorem rspan_any (kind : Int) (k v : ByteArray) (hs : k.size ≤ 4611686018427387904) (w : World) : Calls Try.prog 17 #[.agg #[.int .i64 kind, .string k, .string v]] w fun e w' => e = .returned (.agg #[.string (spanC kind k v).1, .string (spanC kind k v).2]) ∧ Later w w' := by
  by_cases h : kind = 3
  · subst h
    go_enter Try.func17, Try.ntmps17
    go_wp2
    go_returns
    exact ⟨rfl, ((Below.refl _ _).alloc (Nat.le_refl _) _).alloc (by simp) _⟩
  · have h' : ¬ (3 : Int) = kind := fun e => h e.symm
    have e1 : spanC kind k v = (k, k ++ ⟨#[0]⟩) := by unfold spanC; rw [if_neg h]
    rw [e1]
    have hcat : ∀ W, (Op.stringOp .add k ⟨#[0]⟩).run Try.prog W = .ok (.string (k ++ ⟨#[0]⟩)) W := fun W => run_string_add_sum W k ⟨#[0]⟩ (by show k.size + 1 ≤ 9223372036854775807; omega)
    clear hs
    go_enter Try.func17, Try.ntmps17
    go_wp2
    go_returns
    exact ⟨rfl, ((Below.refl _ _).alloc (Nat.le_refl _) _).alloc (by simp) _⟩
end Go.Proofs.Ytblljpdlmllceaa
