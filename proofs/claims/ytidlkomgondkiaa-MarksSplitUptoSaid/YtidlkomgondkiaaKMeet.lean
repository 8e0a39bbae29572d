/-
  Meet: what two spans have both; the document's Meet.
-/
import Derived.Test.YtidlkomgondkiaaKSpanE
namespace Go.Proofs.Ytidlkomgondkiaa
open Go.RowKit
set_option linter.unusedVariables false
set_option linter.unusedSimpArgs false
/-- What two spans have both. -/
def smeetS (a b : Spn) : Spn :=
  let f := if a.1 < b.1 then b.1 else a.1
  let t := if b.2 < a.2 then b.2 else a.2
  if t ≤ f then (ByteArray.empty, ByteArray.empty) else (f, t)
theorem smeet_comm (a b : Spn) : smeetS a b = smeetS b a := by
  unfold smeetS
  have e1 : (if a.1 < b.1 then b.1 else a.1) = (if b.1 < a.1 then a.1 else b.1) := by split <;> split <;> grind
  have e2 : (if b.2 < a.2 then b.2 else a.2) = (if a.2 < b.2 then a.2 else b.2) := by split <;> split <;> grind
  simp only [e1, e2]
theorem sempty_lo (k : ByteArray) : ByteArray.empty ≤ k := List.nil_le _
theorem smeet_in (a b : Spn) (k : ByteArray) : InS (smeetS a b) k ↔ InS a k ∧ InS b k := by
  unfold smeetS InS
  simp only
  have he := sempty_lo k
  by_cases h : (if b.2 < a.2 then b.2 else a.2) ≤ (if a.1 < b.1 then b.1 else a.1)
  · rw [if_pos h]
    simp only
    constructor
    · rintro ⟨h1, h2⟩; grind
    · rintro ⟨⟨h1, h2⟩, h3, h4⟩
      split at h <;> split at h <;> grind
  · rw [if_neg h]
    simp only
    split at h <;> split at h <;> split <;> grind
set_option maxHeartbeats 1000000 in
theorem meet_any (a b : Spn) (w : World) : Calls Try.prog 43 #[.agg #[.string a.1, .string a.2], .agg #[.string b.1, .string b.2]] w fun e w' => e = .returned (.agg #[.string (smeetS a b).1, .string (smeetS a b).2]) ∧ Later w w' := by
  obtain ⟨f, hf⟩ : ∃ f, f = if a.1 < b.1 then b.1 else a.1 := ⟨_, rfl⟩
  obtain ⟨t, ht⟩ : ∃ t, t = if b.2 < a.2 then b.2 else a.2 := ⟨_, rfl⟩
  have hm : smeetS a b = if t ≤ f then (ByteArray.empty, ByteArray.empty) else (f, t) := by unfold smeetS; rw [hf, ht]
  have m1 : ∀ ts ty W, (Builtin.max_ ts ty #[.string a.1, .string b.1]).run Try.prog W = .ok (.string f) W := fun ts ty W => by rw [run_max_str, hf]
  have m2 : ∀ ts ty W, (Builtin.min_ ts ty #[.string a.2, .string b.2]).run Try.prog W = .ok (.string t) W := fun ts ty W => by rw [run_min_str, ht]
  clear hf ht
  by_cases h : t ≤ f
  · rw [if_pos h] at hm
    have HM := hide_ hm
    have he := fun W => empty_any f t W
    rw [decide_eq_true h] at he
    clear h hm
    go_enter Try.func43, Try.ntmps43
    go_wp2_with (go_at_call 42; refine (he _).mono ?_; rintro e w' ⟨rfl, rfl⟩)
    go_returns
    refine ⟨by rw [HM.out]; rfl, ?_⟩
    exact ((((((Below.refl _ _).alloc (Nat.le_refl _) _).alloc (by simp) _).alloc (by simp; omega) _).alloc (by simp; omega) _).alloc (by simp; omega) _)
  · rw [if_neg h] at hm
    have HM := hide_ hm
    have he := fun W => empty_any f t W
    rw [decide_eq_false h] at he
    clear h hm
    go_enter Try.func43, Try.ntmps43
    go_wp2_with (go_at_call 42; refine (he _).mono ?_; rintro e w' ⟨rfl, rfl⟩)
    go_returns
    refine ⟨by rw [HM.out], ?_⟩
    exact ((((((Below.refl _ _).alloc (Nat.le_refl _) _).alloc (by simp) _).alloc (by simp; omega) _).alloc (by simp; omega) _).alloc (by simp; omega) _)
set_option maxHeartbeats 2000000 in
theorem srmeet_any (a b : Spn) (w : World) : Calls Try.prog 45 #[.agg #[.string a.1, .string a.2], .agg #[.string b.1, .string b.2]] w fun e w' => e = .returned (.agg #[.string (smeetS a b).1, .string (smeetS a b).2]) ∧ Later w w' := by
  obtain ⟨f, hf⟩ : ∃ f, f = if a.1 < b.1 then b.1 else a.1 := ⟨_, rfl⟩
  obtain ⟨t, ht⟩ : ∃ t, t = if b.2 < a.2 then b.2 else a.2 := ⟨_, rfl⟩
  have hm : smeetS a b = if t ≤ f then (ByteArray.empty, ByteArray.empty) else (f, t) := by unfold smeetS; rw [hf, ht]
  have HM := hide_ hm
  have g1 := ble b.1 a.1
  have g2 := bl b.2 a.2
  have g3 := bl f t
  clear hm
  by_cases h1 : a.1 < b.1
  all_goals by_cases h2 : b.2 < a.2
  all_goals by_cases h3 : t ≤ f
  all_goals simp only [h1, h2, if_true, if_false] at hf ht
  all_goals subst hf ht
  all_goals have k1 := hide_ h3
  all_goals first | rw [decide_eq_false (show ¬ b.1 ≤ a.1 by grind)] at g1 | rw [decide_eq_true (show b.1 ≤ a.1 by grind)] at g1
  all_goals first | rw [decide_eq_true h2] at g2 | rw [decide_eq_false h2] at g2
  all_goals first | rw [decide_eq_true (by grind)] at g3 | rw [decide_eq_false (by grind)] at g3
  all_goals clear h1 h2 h3
  all_goals
    go_enter Try.func45, Try.ntmps45
    go_wp2_with fail
    go_returns
    refine ⟨?_, ?_⟩
    · rw [HM.out]
      first
      | (rw [if_pos k1.out]; rfl)
      | (rw [if_neg k1.out])
    · exact ((((Below.refl _ _).alloc (Nat.le_refl _) _).alloc (by simp) _).alloc (by simp; omega) _).alloc (by simp; omega) _
end Go.Proofs.Ytidlkomgondkiaa
