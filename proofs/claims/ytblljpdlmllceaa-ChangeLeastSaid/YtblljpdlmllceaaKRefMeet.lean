/-
  The document's Meet, as the laws of changes meet it.
-/
import Derived.Test.YtblljpdlmllceaaKRefNamed
namespace Go.Proofs.Ytblljpdlmllceaa
open Go.RowKit
set_option linter.unusedVariables false
set_option linter.unusedSimpArgs false
/-- What two spans have both. -/
def meetS (a b : Pr) : Pr :=
  let f := if a.1 < b.1 then b.1 else a.1
  let t := if b.2 < a.2 then b.2 else a.2
  if t ≤ f then (ByteArray.empty, ByteArray.empty) else (f, t)
theorem meet_comm (a b : Pr) : meetS a b = meetS b a := by
  unfold meetS
  have e1 : (if a.1 < b.1 then b.1 else a.1) = (if b.1 < a.1 then a.1 else b.1) := by split <;> split <;> grind
  have e2 : (if b.2 < a.2 then b.2 else a.2) = (if a.2 < b.2 then a.2 else b.2) := by split <;> split <;> grind
  simp only [e1, e2]
theorem empty_lo (k : ByteArray) : ByteArray.empty ≤ k := List.nil_le _
theorem meet_in (a b : Pr) (k : ByteArray) : InS (meetS a b) k ↔ InS a k ∧ InS b k := by
  unfold meetS InS
  simp only
  have he := empty_lo k
  by_cases h : (if b.2 < a.2 then b.2 else a.2) ≤ (if a.1 < b.1 then b.1 else a.1)
  · rw [if_pos h]
    simp only
    constructor
    · rintro ⟨h1, h2⟩; grind
    · rintro ⟨⟨h1, h2⟩, h3, h4⟩
      split at h <;> split at h <;> grind
  · rw [if_neg h]
    simp only
    split at h <;> split at h <;> split <;> grind
set_option maxHeartbeats 2000000 in
theorem rmeet_any (a b : Pr) (w : World) : Calls Try.prog 16 #[.agg #[.string a.1, .string a.2], .agg #[.string b.1, .string b.2]] w fun e w' => e = .returned (.agg #[.string (meetS a b).1, .string (meetS a b).2]) ∧ Later w w' := by
  obtain ⟨f, hf⟩ : ∃ f, f = if a.1 < b.1 then b.1 else a.1 := ⟨_, rfl⟩
  obtain ⟨t, ht⟩ : ∃ t, t = if b.2 < a.2 then b.2 else a.2 := ⟨_, rfl⟩
  have hm : meetS a b = if t ≤ f then (ByteArray.empty, ByteArray.empty) else (f, t) := by unfold meetS; rw [hf, ht]
  have HM := hide_ hm
  have g1 := ble b.1 a.1
  have g2 := bl b.2 a.2
  have g3 := bl f t
  clear hm
  by_cases h1 : a.1 < b.1
  all_goals by_cases h2 : b.2 < a.2
  all_goals by_cases h3 : t ≤ f
  all_goals simp only [h1, h2, if_true, if_false] at hf ht
  all_goals subst hf ht
  all_goals have k1 := hide_ h3
  all_goals first | rw [decide_eq_false (show ¬ b.1 ≤ a.1 by grind)] at g1 | rw [decide_eq_true (show b.1 ≤ a.1 by grind)] at g1
  all_goals first | rw [decide_eq_true h2] at g2 | rw [decide_eq_false h2] at g2
  all_goals first | rw [decide_eq_true (by grind)] at g3 | rw [decide_eq_false (by grind)] at g3
  all_goals clear h1 h2 h3
  all_goals
    go_enter Try.func16, Try.ntmps16
    go_wp2_with fail
    go_returns
    refine ⟨?_, ?_⟩
    · rw [HM.out]
      first
      | (rw [if_pos k1.out]; rfl)
      | (rw [if_neg k1.out])
    · exact ((((Below.refl _ _).alloc (Nat.le_refl _) _).alloc (by simp) _).alloc (by simp; omega) _).alloc (by simp; omega) _
end Go.Proofs.Ytblljpdlmllceaa
