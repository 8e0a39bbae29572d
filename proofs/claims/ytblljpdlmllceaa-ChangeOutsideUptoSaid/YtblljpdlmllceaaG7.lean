/-
  Texts of this seat in one: OutMath.
-/
import Derived.Test.YtblljpdlmllceaaKRefCut
/-
  Plain facts: changes turn no key that they do not name; cut to a span they do to its keys what all do, and nothing else.
-/
namespace Go.Proofs.Ytblljpdlmllceaa
open Go.RowKit
set_option linter.unusedVariables false
theorem app_not_named {C : List Chg} : ∀ {L M : List Pr} {p : Pr}, AppOf L C M → p ∈ L → ¬ InL (spansC C) p.1 → p ∈ M := by
  induction C with
  | nil => intro L M p h hp _; obtain rfl := h; exact hp
  | cons c C ih =>
    intro L M p h hp hn
    obtain ⟨N, h1, h2⟩ := h
    have hn2 : ¬ InS (spanC c.1 c.2.1 c.2.2) p.1 ∧ ¬ InL (spansC C) p.1 := by
      constructor
      · intro h; exact hn ⟨_, by simp [spansC], h⟩
      · rintro ⟨s, hs, h⟩; exact hn ⟨s, by simp only [spansC, List.map_cons, List.mem_cons]; exact .inr hs, h⟩
    refine ih h2 ((h1.2 p).2 (.inl ⟨hp, fun h => hn2.1 ((named_has _ _ _).2 h)⟩)) hn2.2
theorem smeet_spanC {s : Spn} {k v x : ByteArray} : Named 3 (smeetS s (k, v)).1 (smeetS s (k, v)).2 x ↔ InS s x ∧ Named 3 k v x := by
  have h := smeet_in s (k, v) x
  unfold Named
  simp only [if_true]
  exact h
/-- One change, cut: what it does to a pair of the span. -/
theorem cut1_in {s : Spn} {c : Chg} {L L' M M' : List Pr} {p : Pr} (hs : InS s p.1) (hL : p ∈ L ↔ p ∈ L') (h1 : OneOf L c.1 c.2.1 c.2.2 M) (h2 : AppOf L' (cut1 s c) M') : p ∈ M ↔ p ∈ M' := by
  obtain ⟨kd, k, v⟩ := c
  rw [h1.2 p]
  by_cases hk : kd = 3
  · subst hk
    have hne : ¬ ((3 : Int) = 1) := by decide
    by_cases hm : (smeetS s (k, v)).2 ≤ (smeetS s (k, v)).1
    · rw [cut1_wipe_no hm] at h2
      obtain rfl := h2
      have hnn : ¬ Named 3 k v p.1 := fun h => by
        have := (smeet_spanC (s := s)).2 ⟨hs, h⟩
        unfold Named at this
        simp only [if_true] at this
        grind
      simp only [hne, false_and, or_false]
      rw [hL]
      exact ⟨fun h => h.1, fun h => ⟨h, hnn⟩⟩
    · rw [cut1_wipe hm] at h2
      obtain ⟨N, h3, rfl⟩ := h2
      rw [h3.2 p, hL]
      simp only [hne, false_and, or_false]
      rw [smeet_spanC]
      constructor
      · rintro ⟨a, b⟩; exact ⟨a, fun h => b h.2⟩
      · rintro ⟨a, b⟩; exact ⟨a, fun h => b ⟨hs, h⟩⟩
  · by_cases hin : InS s k
    · rw [cut1_has (c := (kd, k, v)) hk hin] at h2
      obtain ⟨N, h3, rfl⟩ := h2
      rw [h3.2 p, hL]
    · rw [cut1_no (c := (kd, k, v)) hk hin] at h2
      obtain rfl := h2
      rw [hL]
      have hne : p.1 ≠ k := fun h => hin (h ▸ hs)
      have hnn : ¬ Named kd k v p.1 := by unfold Named; rw [if_neg hk]; exact hne
      constructor
      · rintro (h | ⟨_, rfl⟩)
        · exact h.1
        · exact absurd rfl hne
      · intro h; exact .inl ⟨h, hnn⟩
theorem cut1_out {s : Spn} {c : Chg} {L' M' : List Pr} {p : Pr} (hs : ¬ InS s p.1) (hL : p ∈ L') (h2 : AppOf L' (cut1 s c) M') : p ∈ M' := by
  obtain ⟨kd, k, v⟩ := c
  by_cases hk : kd = 3
  · subst hk
    by_cases hm : (smeetS s (k, v)).2 ≤ (smeetS s (k, v)).1
    · rw [cut1_wipe_no hm] at h2; obtain rfl := h2; exact hL
    · rw [cut1_wipe hm] at h2
      obtain ⟨N, h3, rfl⟩ := h2
      exact (h3.2 p).2 (.inl ⟨hL, fun h => hs (smeet_spanC.1 h).1⟩)
  · by_cases hin : InS s k
    · rw [cut1_has (c := (kd, k, v)) hk hin] at h2
      obtain ⟨N, h3, rfl⟩ := h2
      refine (h3.2 p).2 (.inl ⟨hL, fun h => hs ?_⟩)
      unfold Named at h
      rw [if_neg hk] at h
      rw [h]; exact hin
    · rw [cut1_no (c := (kd, k, v)) hk hin] at h2; obtain rfl := h2; exact hL
theorem app_split {A B : List Chg} : ∀ {L N : List Pr}, AppOf L (A ++ B) N → ∃ M, AppOf L A M ∧ AppOf M B N := by
  induction A with
  | nil => intro L N h; exact ⟨L, rfl, h⟩
  | cons c A ih =>
    intro L N h
    obtain ⟨K, h1, h2⟩ := h
    obtain ⟨M, h3, h4⟩ := ih h2
    exact ⟨M, ⟨K, h1, h3⟩, h4⟩
theorem cut_in {s : Spn} {C : List Chg} : ∀ {L L' M M' : List Pr} {p : Pr}, InS s p.1 → (p ∈ L ↔ p ∈ L') → AppOf L C M → AppOf L' (cutC s C) M' → (p ∈ M ↔ p ∈ M') := by
  induction C with
  | nil => intro L L' M M' p hs hL h1 h2; obtain rfl := h1; obtain rfl := h2; exact hL
  | cons c C ih =>
    intro L L' M M' p hs hL h1 h2
    obtain ⟨N, h3, h4⟩ := h1
    rw [show cutC s (c :: C) = cut1 s c ++ cutC s C from rfl] at h2
    obtain ⟨N', h5, h6⟩ := app_split h2
    exact ih hs (cut1_in hs hL h3 h5) h4 h6
theorem cut_out {s : Spn} {C : List Chg} : ∀ {L' M' : List Pr} {p : Pr}, ¬ InS s p.1 → p ∈ L' → AppOf L' (cutC s C) M' → p ∈ M' := by
  induction C with
  | nil => intro L' M' p hs hL h2; obtain rfl := h2; exact hL
  | cons c C ih =>
    intro L' M' p hs hL h2
    rw [show cutC s (c :: C) = cut1 s c ++ cutC s C from rfl] at h2
    obtain ⟨N', h5, h6⟩ := app_split h2
    exact ih hs (cut1_out hs hL h5) h6
/-- The cut changes are changes. -/
theorem chk_three {k v : ByteArray} : chk 3 k v = 0 ↔ v.size ≤ 17 ∧ k.size ≤ 17 ∧ ¬ v < k := by
  unfold chk
  rw [if_pos rfl]
  by_cases h1 : 17 < v.size
  · rw [if_pos h1]; constructor
    · intro h; cases h
    · intro h; omega
  · rw [if_neg h1]
    by_cases h2 : 17 < k.size
    · rw [if_pos h2]; constructor
      · intro h; cases h
      · intro h; omega
    · rw [if_neg h2]
      by_cases h3 : v < k
      · rw [if_pos h3]; constructor
        · intro h; cases h
        · intro h; exact absurd h3 h.2.2
      · rw [if_neg h3]
        exact ⟨fun _ => ⟨by omega, by omega, h3⟩, fun _ => rfl⟩
theorem smeet_size {s : Spn} {k v : ByteArray} (h1 : s.1.size ≤ 17) (h2 : s.2.size ≤ 17) (h3 : k.size ≤ 17) (h4 : v.size ≤ 17) : (smeetS s (k, v)).1.size ≤ 17 ∧ (smeetS s (k, v)).2.size ≤ 17 := by
  have e0 : ByteArray.empty.size = 0 := rfl
  have hf : (if s.1 < k then k else s.1).size ≤ 17 := by split <;> assumption
  have ht : (if v < s.2 then v else s.2).size ≤ 17 := by split <;> assumption
  unfold smeetS
  simp only
  generalize (if s.1 < k then k else s.1) = f at *
  generalize (if v < s.2 then v else s.2) = t at *
  by_cases h : t ≤ f
  · rw [if_pos h]; exact ⟨by simp only [e0]; omega, by simp only [e0]; omega⟩
  · rw [if_neg h]; exact ⟨hf, ht⟩
theorem cut_sound {s : Spn} (h1 : s.1.size ≤ 17) (h2 : s.2.size ≤ 17) {C : List Chg} (hC : chkAll C = 0) : chkAll (cutC s C) = 0 := by
  induction C with
  | nil => rfl
  | cons c C ih =>
    have hc := chkAll_mem hC c (List.mem_cons_self ..)
    have hC2 : chkAll C = 0 := by rw [chkAll_cons, if_pos hc] at hC; exact hC
    rw [show cutC s (c :: C) = cut1 s c ++ cutC s C from rfl, chkAll_append]
    refine ⟨?_, ih hC2⟩
    obtain ⟨kd, k, v⟩ := c
    by_cases hk : kd = 3
    · subst hk
      by_cases hm : (smeetS s (k, v)).2 ≤ (smeetS s (k, v)).1
      · rw [cut1_wipe_no hm]; rfl
      · rw [cut1_wipe hm, chkAll_cons]
        have h3 := chk_three.1 hc
        have hz := smeet_size h1 h2 h3.2.1 h3.1
        rw [if_pos (chk_three.2 ⟨hz.2, hz.1, by grind⟩)]
        rfl
    · by_cases hin : InS s k
      · rw [cut1_has (c := (kd, k, v)) hk hin, chkAll_cons, if_pos hc]; rfl
      · rw [cut1_no (c := (kd, k, v)) hk hin]; rfl
end Go.Proofs.Ytblljpdlmllceaa
