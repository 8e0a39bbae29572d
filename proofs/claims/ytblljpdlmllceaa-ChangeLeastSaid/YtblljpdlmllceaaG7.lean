/-
  Texts of this seat in one: OutMath, LeastMath, LeastEnds.
-/
import Derived.Test.YtblljpdlmllceaaKRefCut
/-
  Plain facts: changes turn no key that they do not name; cut to a span they do to its keys what all do, and nothing else.
-/
namespace Go.Proofs.Ytblljpdlmllceaa
open Go.RowKit
set_option linter.unusedVariables false
theorem app_not_named {C : List Chg} : ∀ {L M : List Pr} {p : Pr}, AppOf L C M → p ∈ L → ¬ InL (spansC C) p.1 → p ∈ M := by
  induction C with
  | nil => intro L M p h hp _; obtain rfl := h; exact hp
  | cons c C ih =>
    intro L M p h hp hn
    obtain ⟨N, h1, h2⟩ := h
    have hn2 : ¬ InS (spanC c.1 c.2.1 c.2.2) p.1 ∧ ¬ InL (spansC C) p.1 := by
      constructor
      · intro h; exact hn ⟨_, by simp [spansC], h⟩
      · rintro ⟨s, hs, h⟩; exact hn ⟨s, by simp only [spansC, List.map_cons, List.mem_cons]; exact .inr hs, h⟩
    refine ih h2 ((h1.2 p).2 (.inl ⟨hp, fun h => hn2.1 ((named_has _ _ _).2 h)⟩)) hn2.2
theorem smeet_spanC {s : Spn} {k v x : ByteArray} : Named 3 (smeetS s (k, v)).1 (smeetS s (k, v)).2 x ↔ InS s x ∧ Named 3 k v x := by
  have h := smeet_in s (k, v) x
  unfold Named
  simp only [if_true]
  exact h
/-- One change, cut: what it does to a pair of the span. -/
theorem cut1_in {s : Spn} {c : Chg} {L L' M M' : List Pr} {p : Pr} (hs : InS s p.1) (hL : p ∈ L ↔ p ∈ L') (h1 : OneOf L c.1 c.2.1 c.2.2 M) (h2 : AppOf L' (cut1 s c) M') : p ∈ M ↔ p ∈ M' := by
  obtain ⟨kd, k, v⟩ := c
  rw [h1.2 p]
  by_cases hk : kd = 3
  · subst hk
    have hne : ¬ ((3 : Int) = 1) := by decide
    by_cases hm : (smeetS s (k, v)).2 ≤ (smeetS s (k, v)).1
    · rw [cut1_wipe_no hm] at h2
      obtain rfl := h2
      have hnn : ¬ Named 3 k v p.1 := fun h => by
        have := (smeet_spanC (s := s)).2 ⟨hs, h⟩
        unfold Named at this
        simp only [if_true] at this
        grind
      simp only [hne, false_and, or_false]
      rw [hL]
      exact ⟨fun h => h.1, fun h => ⟨h, hnn⟩⟩
    · rw [cut1_wipe hm] at h2
      obtain ⟨N, h3, rfl⟩ := h2
      rw [h3.2 p, hL]
      simp only [hne, false_and, or_false]
      rw [smeet_spanC]
      constructor
      · rintro ⟨a, b⟩; exact ⟨a, fun h => b h.2⟩
      · rintro ⟨a, b⟩; exact ⟨a, fun h => b ⟨hs, h⟩⟩
  · by_cases hin : InS s k
    · rw [cut1_has (c := (kd, k, v)) hk hin] at h2
      obtain ⟨N, h3, rfl⟩ := h2
      rw [h3.2 p, hL]
    · rw [cut1_no (c := (kd, k, v)) hk hin] at h2
      obtain rfl := h2
      rw [hL]
      have hne : p.1 ≠ k := fun h => hin (h ▸ hs)
      have hnn : ¬ Named kd k v p.1 := by unfold Named; rw [if_neg hk]; exact hne
      constructor
      · rintro (h | ⟨_, rfl⟩)
        · exact h.1
        · exact absurd rfl hne
      · intro h; exact .inl ⟨h, hnn⟩
theorem cut1_out {s : Spn} {c : Chg} {L' M' : List Pr} {p : Pr} (hs : ¬ InS s p.1) (hL : p ∈ L') (h2 : AppOf L' (cut1 s c) M') : p ∈ M' := by
  obtain ⟨kd, k, v⟩ := c
  by_cases hk : kd = 3
  · subst hk
    by_cases hm : (smeetS s (k, v)).2 ≤ (smeetS s (k, v)).1
    · rw [cut1_wipe_no hm] at h2; obtain rfl := h2; exact hL
    · rw [cut1_wipe hm] at h2
      obtain ⟨N, h3, rfl⟩ := h2
      exact (h3.2 p).2 (.inl ⟨hL, fun h => hs (smeet_spanC.1 h).1⟩)
  · by_cases hin : InS s k
    · rw [cut1_has (c := (kd, k, v)) hk hin] at h2
      obtain ⟨N, h3, rfl⟩ := h2
      refine (h3.2 p).2 (.inl ⟨hL, fun h => hs ?_⟩)
      unfold Named at h
      rw [if_neg hk] at h
      rw [h]; exact hin
    · rw [cut1_no (c := (kd, k, v)) hk hin] at h2; obtain rfl := h2; exact hL
theorem app_split {A B : List Chg} : ∀ {L N : List Pr}, AppOf L (A ++ B) N → ∃ M, AppOf L A M ∧ AppOf M B N := by
  induction A with
  | nil => intro L N h; exact ⟨L, rfl, h⟩
  | cons c A ih =>
    intro L N h
    obtain ⟨K, h1, h2⟩ := h
    obtain ⟨M, h3, h4⟩ := ih h2
    exact ⟨M, ⟨K, h1, h3⟩, h4⟩
theorem cut_in {s : Spn} {C : List Chg} : ∀ {L L' M M' : List Pr} {p : Pr}, InS s p.1 → (p ∈ L ↔ p ∈ L') → AppOf L C M → AppOf L' (cutC s C) M' → (p ∈ M ↔ p ∈ M') := by
  induction C with
  | nil => intro L L' M M' p hs hL h1 h2; obtain rfl := h1; obtain rfl := h2; exact hL
  | cons c C ih =>
    intro L L' M M' p hs hL h1 h2
    obtain ⟨N, h3, h4⟩ := h1
    rw [show cutC s (c :: C) = cut1 s c ++ cutC s C from rfl] at h2
    obtain ⟨N', h5, h6⟩ := app_split h2
    exact ih hs (cut1_in hs hL h3 h5) h4 h6
theorem cut_out {s : Spn} {C : List Chg} : ∀ {L' M' : List Pr} {p : Pr}, ¬ InS s p.1 → p ∈ L' → AppOf L' (cutC s C) M' → p ∈ M' := by
  induction C with
  | nil => intro L' M' p hs hL h2; obtain rfl := h2; exact hL
  | cons c C ih =>
    intro L' M' p hs hL h2
    rw [show cutC s (c :: C) = cut1 s c ++ cutC s C from rfl] at h2
    obtain ⟨N', h5, h6⟩ := app_split h2
    exact ih hs (cut1_out hs hL h5) h6
/-- The cut changes are changes. -/
theorem chk_three {k v : ByteArray} : chk 3 k v = 0 ↔ v.size ≤ 17 ∧ k.size ≤ 17 ∧ ¬ v < k := by
  unfold chk
  rw [if_pos rfl]
  by_cases h1 : 17 < v.size
  · rw [if_pos h1]; constructor
    · intro h; cases h
    · intro h; omega
  · rw [if_neg h1]
    by_cases h2 : 17 < k.size
    · rw [if_pos h2]; constructor
      · intro h; cases h
      · intro h; omega
    · rw [if_neg h2]
      by_cases h3 : v < k
      · rw [if_pos h3]; constructor
        · intro h; cases h
        · intro h; exact absurd h3 h.2.2
      · rw [if_neg h3]
        exact ⟨fun _ => ⟨by omega, by omega, h3⟩, fun _ => rfl⟩
theorem smeet_size {s : Spn} {k v : ByteArray} (h1 : s.1.size ≤ 17) (h2 : s.2.size ≤ 17) (h3 : k.size ≤ 17) (h4 : v.size ≤ 17) : (smeetS s (k, v)).1.size ≤ 17 ∧ (smeetS s (k, v)).2.size ≤ 17 := by
  have e0 : ByteArray.empty.size = 0 := rfl
  have hf : (if s.1 < k then k else s.1).size ≤ 17 := by split <;> assumption
  have ht : (if v < s.2 then v else s.2).size ≤ 17 := by split <;> assumption
  unfold smeetS
  simp only
  generalize (if s.1 < k then k else s.1) = f at *
  generalize (if v < s.2 then v else s.2) = t at *
  by_cases h : t ≤ f
  · rw [if_pos h]; exact ⟨by simp only [e0]; omega, by simp only [e0]; omega⟩
  · rw [if_neg h]; exact ⟨hf, ht⟩
theorem cut_sound {s : Spn} (h1 : s.1.size ≤ 17) (h2 : s.2.size ≤ 17) {C : List Chg} (hC : chkAll C = 0) : chkAll (cutC s C) = 0 := by
  induction C with
  | nil => rfl
  | cons c C ih =>
    have hc := chkAll_mem hC c (List.mem_cons_self ..)
    have hC2 : chkAll C = 0 := by rw [chkAll_cons, if_pos hc] at hC; exact hC
    rw [show cutC s (c :: C) = cut1 s c ++ cutC s C from rfl, chkAll_append]
    refine ⟨?_, ih hC2⟩
    obtain ⟨kd, k, v⟩ := c
    by_cases hk : kd = 3
    · subst hk
      by_cases hm : (smeetS s (k, v)).2 ≤ (smeetS s (k, v)).1
      · rw [cut1_wipe_no hm]; rfl
      · rw [cut1_wipe hm, chkAll_cons]
        have h3 := chk_three.1 hc
        have hz := smeet_size h1 h2 h3.2.1 h3.1
        rw [if_pos (chk_three.2 ⟨hz.2, hz.1, by grind⟩)]
        rfl
    · by_cases hin : InS s k
      · rw [cut1_has (c := (kd, k, v)) hk hin, chkAll_cons, if_pos hc]; rfl
      · rw [cut1_no (c := (kd, k, v)) hk hin]; rfl
end Go.Proofs.Ytblljpdlmllceaa
/-
  Plain facts: the fewest changes that do the same.
-/
namespace Go.Proofs.Ytblljpdlmllceaa
open Go.RowKit
set_option linter.unusedVariables false
/-- How many of the spans hold a key. -/
def mult (L : List Spn) (x : ByteArray) : Nat := L.countP fun s => decide (s.1 ≤ x ∧ x < s.2)
theorem mult_append (A B : List Spn) (x : ByteArray) : mult (A ++ B) x = mult A x + mult B x := List.countP_append
theorem mult_nil (x : ByteArray) : mult [] x = 0 := rfl
theorem mult_yes {g : Spn} {x : ByteArray} (h : InS g x) : mult [g] x = 1 := by
  unfold mult
  rw [List.countP_singleton, if_pos (by simpa [InS] using h)]
theorem mult_no {g : Spn} {x : ByteArray} (h : ¬ InS g x) : mult [g] x = 0 := by
  unfold mult
  rw [List.countP_singleton, if_neg (by simpa [InS] using h)]
theorem mult_le (L : List Spn) (x : ByteArray) : mult L x ≤ L.length := List.countP_le_length
theorem mult_none {L : List Spn} {x : ByteArray} (h : ¬ InL L x) : mult L x = 0 := by
  unfold mult
  rw [List.countP_eq_zero]
  intro s hs
  simp only [decide_eq_true_eq]
  exact fun hx => h ⟨s, hs, hx⟩
theorem mult_canon {R : List Spn} (hR : Canon R) (x : ByteArray) : mult R x ≤ 1 := by
  induction R with
  | nil => exact Nat.zero_le _
  | cons s R ih =>
    have h1 : mult (s :: R) x = mult [s] x + mult R x := mult_append [s] R x
    rw [h1]
    by_cases hx : InS s x
    · rw [mult_yes hx, mult_none]
      · exact Nat.le_refl _
      · rintro ⟨t, ht, htx⟩
        have := hR.2.1 t ht
        unfold InS at hx htx
        grind
    · rw [mult_no hx]
      have := ih hR.2.2
      omega
theorem mult_take {L : List Spn} {j : Nat} {g : Spn} (h : L[j]? = some g) (x : ByteArray) : mult (L.take (j + 1)) x = mult (L.take j) x + mult [g] x := by
  rw [take_next h, mult_append]
/-- What Without leaves of one span: few. -/
theorem without_few {g : Spn} {x : ByteArray} {R : List Spn} (hc : Canon R) (hk : ∀ k, InL R k ↔ InS g k ∧ ¬ k = x) (hl : R.length ≤ 2) : R.length ≤ 1 + mult [g] x ∧ ∀ y, mult R y ≤ mult [g] y := by
  constructor
  · by_cases hx : InS g x
    · rw [mult_yes hx]; omega
    · rw [mult_no hx]
      by_cases hg : g.1 < g.2
      · obtain rfl : R = [g] := canon_uniq hc ⟨hg, fun t ht => (by cases ht), trivial⟩ fun k => by
          rw [hk, InL.cons]
          simp only [InL.nil, or_false]
          exact ⟨fun h => h.1, fun h => ⟨h, fun e => hx (e ▸ h)⟩⟩
        exact Nat.le_refl _
      · obtain rfl : R = [] := canon_uniq hc trivial fun k => by
          rw [hk]
          exact ⟨fun h => absurd h.1 (by unfold InS; grind), fun h => absurd h InL.nil⟩
        exact Nat.zero_le _
  · intro y
    by_cases hy : InS g y
    · rw [mult_yes hy]; exact mult_canon hc y
    · rw [mult_none (fun h => hy ((hk y).1 h).1)]; exact Nat.zero_le _
/-- The keys that are gone behind changes. -/
def goneStep (G : ByteArray → Prop) (c : Chg) : ByteArray → Prop := fun x => if c.1 = 1 then G x ∧ ¬ x = c.2.1 else G x ∨ Named c.1 c.2.1 c.2.2 x
def goneOf (C : List Chg) : ByteArray → Prop := C.foldl goneStep (fun _ => False)
theorem goneOf_snoc (C : List Chg) (c : Chg) : goneOf (C ++ [c]) = goneStep (goneOf C) c := by simp [goneOf]
theorem gone_put (G : ByteArray → Prop) (k v x : ByteArray) : goneStep G (1, k, v) x ↔ G x ∧ ¬ x = k := by unfold goneStep; simp
theorem gone_other {G : ByteArray → Prop} {c : Chg} (h : ¬ c.1 = 1) (x : ByteArray) : goneStep G c x ↔ G x ∨ Named c.1 c.2.1 c.2.2 x := by unfold goneStep; simp [h]
/-- What memory holds of the keys that are gone, behind the first k changes: not too many spans. -/
def GoneInv (C : List Chg) (k : Nat) (L : List Spn) : Prop := L.length ≤ k * k ∧ (∀ x, mult L x ≤ k) ∧ ∀ x, InL L x ↔ goneOf (C.take k) x
theorem gone_start (C : List Chg) : GoneInv C 0 [] := ⟨Nat.le_refl _, fun _ => Nat.le_refl _, fun x => ⟨fun h => absurd h InL.nil, fun h => h.elim⟩⟩
theorem gone_wipe {C : List Chg} {k : Nat} {L : List Spn} {c : Chg} (h : GoneInv C k L) (hc : C[k]? = some c) (hp : ¬ c.1 = 1) : GoneInv C (k + 1) (L ++ [spanC c.1 c.2.1 c.2.2]) := by
  obtain ⟨h1, h2, h3⟩ := h
  refine ⟨by rw [List.length_append, List.length_singleton, Nat.add_mul, Nat.mul_add]; omega, fun x => ?_, fun x => ?_⟩
  · rw [mult_append]
    have := h2 x
    have := mult_le [spanC c.1 c.2.1 c.2.2] x
    rw [List.length_singleton] at this
    omega
  · rw [take_snoc hc, goneOf_snoc, gone_other hp, InL.append, InL.cons, h3, named_has]
    simp [InL.nil]
/-- The pieces that are left of the first j spans. -/
def LeftInv (L : List Spn) (x : ByteArray) (j : Nat) (O : List Spn) : Prop := O.length ≤ j + mult (L.take j) x ∧ (∀ y, mult O y ≤ mult (L.take j) y) ∧ ∀ y, InL O y ↔ InL (L.take j) y ∧ ¬ y = x
theorem left_start (L : List Spn) (x : ByteArray) : LeftInv L x 0 [] := ⟨Nat.zero_le _, fun _ => Nat.zero_le _, fun y => by simp [InL.nil]⟩
theorem left_next {L : List Spn} {x : ByteArray} {j : Nat} {O R : List Spn} {g : Spn} (h : LeftInv L x j O) (hg : L[j]? = some g) (hc : Canon R) (hk : ∀ k, InL R k ↔ InS g k ∧ ¬ k = x) (hl : R.length ≤ 2) : LeftInv L x (j + 1) (O ++ R) := by
  obtain ⟨h1, h2, h3⟩ := h
  obtain ⟨h4, h5⟩ := without_few hc hk hl
  refine ⟨by rw [List.length_append, mult_take hg]; omega, fun y => ?_, fun y => ?_⟩
  · rw [mult_append, mult_take hg]
    have := h2 y; have := h5 y
    omega
  · rw [InL.append, h3, hk, take_next hg, InL.append, InL.cons]
    simp only [InL.nil, or_false]
    constructor
    · rintro (⟨a, b⟩ | ⟨a, b⟩)
      · exact ⟨.inl a, b⟩
      · exact ⟨.inr a, b⟩
    · rintro ⟨a | a, b⟩
      · exact .inl ⟨a, b⟩
      · exact .inr ⟨a, b⟩
theorem gone_left {C : List Chg} {k : Nat} {L O : List Spn} {x v : ByteArray} (h : GoneInv C k L) (hc : C[k]? = some (1, x, v)) (hL : LeftInv L x L.length O) : GoneInv C (k + 1) O := by
  obtain ⟨h1, h2, h3⟩ := h
  obtain ⟨h4, h5, h6⟩ := hL
  rw [List.take_length] at h4
  refine ⟨?_, fun y => ?_, fun y => ?_⟩
  · have := h2 x
    rw [Nat.add_mul, Nat.mul_add]; omega
  · have := h5 y; rw [List.take_length] at this
    have := h2 y
    omega
  · rw [h6, List.take_length, h3, take_snoc hc, goneOf_snoc, gone_put]
/-- The keys that changes name. -/
def Touched (C : List Chg) (x : ByteArray) : Prop := ∃ c, c ∈ C ∧ Named c.1 c.2.1 c.2.2 x
theorem touched_cons (c : Chg) (C : List Chg) (x : ByteArray) : Touched (c :: C) x ↔ Named c.1 c.2.1 c.2.2 x ∨ Touched C x := by
  unfold Touched
  simp only [List.mem_cons]
  constructor
  · rintro ⟨d, rfl | hd, h⟩
    · exact .inl h
    · exact .inr ⟨d, hd, h⟩
  · rintro (h | ⟨d, hd, h⟩)
    · exact ⟨c, .inl rfl, h⟩
    · exact ⟨d, .inr hd, h⟩
theorem touched_snoc (c : Chg) (C : List Chg) (x : ByteArray) : Touched (C ++ [c]) x ↔ Touched C x ∨ Named c.1 c.2.1 c.2.2 x := by
  induction C with
  | nil => rw [List.nil_append, touched_cons]; simp [Touched]
  | cons d C ih => rw [List.cons_append, touched_cons, touched_cons, ih, or_assoc]
theorem touched_append (A B : List Chg) (x : ByteArray) : Touched (A ++ B) x ↔ Touched A x ∨ Touched B x := by
  induction A with
  | nil => simp [Touched]
  | cons d A ih => rw [List.cons_append, touched_cons, touched_cons, ih, or_assoc]
/-- What changes do, told by what they make of nothing. -/
theorem app_touched {C : List Chg} : ∀ {L L' A M : List Pr} {Z : Pr → Prop} {T : ByteArray → Prop}, (∀ p, p ∈ L ↔ p ∈ L' ∨ (Z p ∧ ¬ T p.1)) → AppOf L C A → AppOf L' C M → ∀ p, p ∈ A ↔ p ∈ M ∨ (Z p ∧ ¬ T p.1 ∧ ¬ Touched C p.1) := by
  induction C with
  | nil =>
    intro L L' A M Z T h h1 h2 p
    obtain rfl := h1; obtain rfl := h2
    rw [h p]
    simp [Touched]
  | cons c C ih =>
    intro L L' A M Z T h h1 h2 p
    obtain ⟨N, h3, h4⟩ := h1
    obtain ⟨N', h5, h6⟩ := h2
    have := ih (Z := Z) (T := fun x => T x ∨ Named c.1 c.2.1 c.2.2 x) (fun q => by
      rw [h3.2 q, h5.2 q, h q]
      constructor
      · rintro (⟨a | ⟨a, b⟩, d⟩ | a)
        · exact .inl (.inl ⟨a, d⟩)
        · exact .inr ⟨a, fun e => e.elim b d⟩
        · exact .inl (.inr a)
      · rintro ((⟨a, d⟩ | a) | ⟨a, b⟩)
        · exact .inl ⟨.inl a, d⟩
        · exact .inr a
        · exact .inl ⟨.inr ⟨a, fun e => b (.inl e)⟩, fun e => b (.inr e)⟩) h4 h6 p
    rw [this, touched_cons]
    constructor
    · rintro (a | ⟨a, b, d⟩)
      · exact .inl a
      · exact .inr ⟨a, fun e => b (.inl e), fun e => e.elim (fun e => b (.inr e)) d⟩
    · rintro (a | ⟨a, b, d⟩)
      · exact .inl a
      · exact .inr ⟨a, fun e => e.elim b (fun e => d (.inl e)), fun e => d (.inr e)⟩
theorem app_from {C : List Chg} {L A M : List Pr} (h1 : AppOf L C A) (h2 : AppOf [] C M) (p : Pr) : p ∈ A ↔ p ∈ M ∨ (p ∈ L ∧ ¬ Touched C p.1) := by
  have := app_touched (L := L) (L' := []) (Z := fun p => p ∈ L) (T := fun _ => False) (fun q => by simp) h1 h2 p
  simpa using this
theorem app_ris {C : List Chg} : ∀ {L A : List Pr}, Ris L → AppOf L C A → Ris A := by
  induction C with
  | nil => intro L A hL h; obtain rfl := h; exact hL
  | cons c C ih => intro L A hL h; obtain ⟨N, h3, h4⟩ := h; exact ih h3.1 h4
theorem app_unsnoc {C : List Chg} {c : Chg} {L N : List Pr} (h : AppOf L (C ++ [c]) N) : ∃ M, AppOf L C M ∧ OneOf M c.1 c.2.1 c.2.2 N := by
  obtain ⟨M, h1, K, h2, rfl⟩ := app_split h
  exact ⟨M, h1, h2⟩
/-- The keys named are gone, or put. -/
theorem touched_iff {C : List Chg} {M : List Pr} (h : AppOf [] C M) (x : ByteArray) : (Touched C x ↔ goneOf C x ∨ ∃ p, p ∈ M ∧ p.1 = x) ∧ (goneOf C x → ¬ ∃ p, p ∈ M ∧ p.1 = x) := by
  have gen : ∀ n, n ≤ C.length → ∀ M, AppOf [] (C.take n) M → ∀ x, (Touched (C.take n) x ↔ goneOf (C.take n) x ∨ ∃ p, p ∈ M ∧ p.1 = x) ∧ (goneOf (C.take n) x → ¬ ∃ p, p ∈ M ∧ p.1 = x) := by
    intro n
    induction n with
    | zero =>
      intro _ M hM x
      rw [List.take_zero] at hM ⊢
      obtain rfl := hM
      simp [Touched, goneOf]
    | succ n ih =>
      intro hn M hM x
      obtain ⟨c, hc⟩ : ∃ c, C[n]? = some c := ⟨_, List.getElem?_eq_getElem (by omega)⟩
      rw [take_snoc hc] at hM ⊢
      obtain ⟨K, h1, h2⟩ := app_unsnoc hM
      have h3 := ih (by omega) K h1 x
      rw [touched_snoc, goneOf_snoc]
      by_cases hp : c.1 = 1
      · have hnm : Named c.1 c.2.1 c.2.2 x ↔ x = c.2.1 := by unfold Named; rw [if_neg (by omega)]
        have hst : goneStep (goneOf (C.take n)) c x ↔ goneOf (C.take n) x ∧ ¬ x = c.2.1 := by unfold goneStep; rw [if_pos hp]
        have hmem : (∃ p, p ∈ M ∧ p.1 = x) ↔ (x = c.2.1) ∨ ((∃ p, p ∈ K ∧ p.1 = x) ∧ ¬ x = c.2.1) := by
          constructor
          · rintro ⟨p, hpM, rfl⟩
            rcases (h2.2 p).1 hpM with ⟨a, b⟩ | ⟨_, rfl⟩
            · by_cases e : p.1 = c.2.1
              · exact .inl e
              · exact .inr ⟨⟨p, a, rfl⟩, e⟩
            · exact .inl rfl
          · rintro (rfl | ⟨⟨p, a, rfl⟩, b⟩)
            · exact ⟨_, (h2.2 (c.2.1, c.2.2)).2 (.inr ⟨hp, rfl⟩), rfl⟩
            · exact ⟨p, (h2.2 p).2 (.inl ⟨a, fun e => b (hnm.1 e)⟩), rfl⟩
        rw [hnm, hst, hmem, h3.1]
        have h4 := h3.2
        refine ⟨?_, ?_⟩
        · by_cases e : x = c.2.1
          · exact ⟨fun _ => .inr (.inl e), fun _ => .inr e⟩
          · constructor
            · rintro ((a | a) | a)
              · exact .inl ⟨a, e⟩
              · exact .inr (.inr ⟨a, e⟩)
              · exact absurd a e
            · rintro (⟨a, _⟩ | a | ⟨a, _⟩)
              · exact .inl (.inl a)
              · exact absurd a e
              · exact .inl (.inr a)
        · rintro ⟨a, b⟩ (e | ⟨e, _⟩)
          · exact b e
          · exact h4 a e
      · have hst : goneStep (goneOf (C.take n)) c x ↔ goneOf (C.take n) x ∨ Named c.1 c.2.1 c.2.2 x := gone_other hp x
        have hmem : (∃ p, p ∈ M ∧ p.1 = x) ↔ (∃ p, p ∈ K ∧ p.1 = x) ∧ ¬ Named c.1 c.2.1 c.2.2 x := by
          constructor
          · rintro ⟨p, hpM, rfl⟩
            rcases (h2.2 p).1 hpM with ⟨a, b⟩ | ⟨h, _⟩
            · exact ⟨⟨p, a, rfl⟩, b⟩
            · exact absurd h hp
          · rintro ⟨⟨p, a, rfl⟩, b⟩
            exact ⟨p, (h2.2 p).2 (.inl ⟨a, b⟩), rfl⟩
        rw [hst, hmem, h3.1]
        have h4 := h3.2
        refine ⟨?_, ?_⟩
        · by_cases e : Named c.1 c.2.1 c.2.2 x
          · exact ⟨fun _ => .inl (.inr e), fun _ => .inr e⟩
          · constructor
            · rintro ((a | a) | a)
              · exact .inl (.inl a)
              · exact .inr ⟨a, e⟩
              · exact absurd a e
            · rintro ((a | a) | ⟨a, _⟩)
              · exact .inl (.inl a)
              · exact absurd a e
              · exact .inl (.inr a)
        · rintro (a | a) ⟨e, f⟩
          · exact h4 a e
          · exact f a
  have := gen C.length (Nat.le_refl _) M (by rw [List.take_length]; exact h) x
  rwa [List.take_length] at this
/-- A gone span, and a pair, as changes. -/
def goneC (g : Spn) : Chg := if g.2 = g.1 ++ ⟨#[0]⟩ ∧ g.1.size ≤ 16 then (2, g.1, ByteArray.empty) else (3, g.1, g.2)
def putC (p : Pr) : Chg := (1, p.1, p.2)
def leastC (R : List Spn) (M : List Pr) : List Chg := R.map goneC ++ M.map putC
theorem goneC_named (g : Spn) (x : ByteArray) : Named (goneC g).1 (goneC g).2.1 (goneC g).2.2 x ↔ InS g x := by
  unfold goneC
  by_cases h : g.2 = g.1 ++ ⟨#[0]⟩ ∧ g.1.size ≤ 16
  · rw [if_pos h]
    have := (named_has (kind := 2) g.1 ByteArray.empty x)
    rw [← this]
    unfold spanC
    rw [if_neg (by decide), ← h.1]
  · rw [if_neg h]
    have := (named_has (kind := 3) g.1 g.2 x)
    rw [← this]
    unfold spanC
    rw [if_pos rfl]
theorem goneC_kind (g : Spn) : ¬ (goneC g).1 = 1 := by unfold goneC; split <;> simp
theorem putC_named (p : Pr) (x : ByteArray) : Named (putC p).1 (putC p).2.1 (putC p).2.2 x ↔ x = p.1 := by
  unfold putC Named; rw [if_neg (by simp)]
theorem touched_gone (R : List Spn) (x : ByteArray) : Touched (R.map goneC) x ↔ InL R x := by
  unfold Touched InL
  constructor
  · rintro ⟨c, hc, h⟩
    obtain ⟨g, hg, rfl⟩ := List.mem_map.1 hc
    exact ⟨g, hg, (goneC_named g x).1 h⟩
  · rintro ⟨g, hg, h⟩
    exact ⟨_, List.mem_map.2 ⟨g, hg, rfl⟩, (goneC_named g x).2 h⟩
theorem touched_puts (M : List Pr) (x : ByteArray) : Touched (M.map putC) x ↔ ∃ p, p ∈ M ∧ p.1 = x := by
  unfold Touched
  constructor
  · rintro ⟨c, hc, h⟩
    obtain ⟨g, hg, rfl⟩ := List.mem_map.1 hc
    exact ⟨g, hg, ((putC_named g x).1 h).symm⟩
  · rintro ⟨g, hg, h⟩
    exact ⟨_, List.mem_map.2 ⟨g, hg, rfl⟩, (putC_named g x).2 h.symm⟩
theorem app_gones {R : List Spn} {N : List Pr} (h : AppOf [] (R.map goneC) N) : N = [] := by
  induction R generalizing N with
  | nil => exact h
  | cons g R ih =>
    obtain ⟨K, h1, h2⟩ := h
    have : K = [] := by
      cases K with
      | nil => rfl
      | cons p K =>
        rcases (h1.2 p).1 (List.mem_cons_self ..) with ⟨a, _⟩ | ⟨a, _⟩
        · cases a
        · exact absurd a (goneC_kind g)
    subst this
    exact ih h2
theorem app_puts {M : List Pr} : ∀ {K N : List Pr}, Ris M → AppOf K (M.map putC) N → ∀ p, p ∈ N ↔ (p ∈ K ∧ ¬ ∃ q, q ∈ M ∧ q.1 = p.1) ∨ p ∈ M := by
  induction M with
  | nil => intro K N _ h p; obtain rfl := h; simp
  | cons q M ih =>
    intro K N hM h p
    obtain ⟨J, h1, h2⟩ := h
    have hr := List.pairwise_cons.1 hM
    rw [ih hr.2 h2 p, h1.2 p, putC_named]
    have e1 : (putC q).1 = 1 := rfl
    have e2 : ((putC q).2.1, (putC q).2.2) = q := rfl
    rw [e2]
    simp only [e1, true_and, List.mem_cons]
    constructor
    · rintro (⟨⟨a, b⟩ | rfl, d⟩ | a)
      · refine .inl ⟨a, ?_⟩
        rintro ⟨r, rfl | hr, e⟩
        · exact b e.symm
        · exact d ⟨r, hr, e⟩
      · exact .inr (.inl rfl)
      · exact .inr (.inr a)
    · rintro (⟨a, b⟩ | rfl | a)
      · exact .inl ⟨.inl ⟨a, fun e => b ⟨q, .inl rfl, e.symm⟩⟩, fun ⟨r, hr, e⟩ => b ⟨r, .inr hr, e⟩⟩
      · refine .inl ⟨.inr rfl, ?_⟩
        rintro ⟨r, hrM, e⟩
        have := hr.1 r hrM
        grind
      · exact .inr a
/-- The fewest changes, done to nothing. -/
theorem least_none {R : List Spn} {M N : List Pr} (hM : Ris M) (h : AppOf [] (leastC R M) N) : N = M := by
  obtain ⟨K, h1, h2⟩ := app_split h
  obtain rfl := app_gones h1
  refine ris_uniq (app_ris List.Pairwise.nil h) hM fun p => ?_
  rw [app_puts hM h2 p]
  simp
/-- The fewest changes do the same. -/
theorem least_same {C : List Chg} {R : List Spn} {M L A B : List Pr} (hL : Ris L) (hR : ∀ x, InL R x ↔ goneOf C x) (hM : AppOf [] C M) (h1 : AppOf L C A) (h2 : AppOf L (leastC R M) B) (h3 : ∃ N, AppOf [] (leastC R M) N) : A = B := by
  obtain ⟨N, h3⟩ := h3
  have hris := app_ris List.Pairwise.nil hM
  obtain rfl := least_none hris h3
  refine ris_uniq (app_ris hL h1) (app_ris hL h2) fun p => ?_
  rw [app_from h1 hM p, app_from h2 h3 p]
  have ht : Touched C p.1 ↔ Touched (leastC R N) p.1 := by
    rw [(touched_iff hM p.1).1, leastC, touched_append, touched_gone, touched_puts, hR]
  rw [ht]
theorem goneOf_append (A B : List Chg) : goneOf (A ++ B) = B.foldl goneStep (goneOf A) := by simp [goneOf]
theorem fold_gone (R : List Spn) : ∀ (G : ByteArray → Prop) (x : ByteArray), (R.map goneC).foldl goneStep G x ↔ G x ∨ InL R x := by
  induction R with
  | nil => intro G x; simp [InL.nil]
  | cons g R ih =>
    intro G x
    rw [List.map_cons, List.foldl_cons, ih, gone_other (goneC_kind g), goneC_named, InL.cons, or_assoc]
theorem fold_put (M : List Pr) : ∀ (G : ByteArray → Prop) (x : ByteArray), (M.map putC).foldl goneStep G x ↔ G x ∧ ¬ ∃ p, p ∈ M ∧ p.1 = x := by
  induction M with
  | nil => intro G x; simp
  | cons q M ih =>
    intro G x
    rw [List.map_cons, List.foldl_cons, ih, show putC q = (1, q.1, q.2) from rfl, gone_put]
    simp only [List.mem_cons]
    constructor
    · rintro ⟨⟨a, b⟩, d⟩
      refine ⟨a, ?_⟩
      rintro ⟨r, rfl | hr, e⟩
      · exact b e.symm
      · exact d ⟨r, hr, e⟩
    · rintro ⟨a, b⟩
      exact ⟨⟨a, fun e => b ⟨q, .inl rfl, e.symm⟩⟩, fun ⟨r, hr, e⟩ => b ⟨r, .inr hr, e⟩⟩
/-- The fewest of the fewest. -/
theorem least_least {C : List Chg} {R R' : List Spn} {M M' : List Pr} (hc : Canon R) (hc' : Canon R') (hR : ∀ x, InL R x ↔ goneOf C x) (hM : AppOf [] C M) (hR' : ∀ x, InL R' x ↔ goneOf (leastC R M) x) (hM' : AppOf [] (leastC R M) M') : leastC R' M' = leastC R M := by
  obtain rfl := least_none (app_ris List.Pairwise.nil hM) hM'
  congr 1
  rw [canon_uniq hc' hc fun x => ?_]
  rw [hR', leastC, goneOf_append, fold_put, goneOf, fold_gone]
  simp only [false_or]
  exact ⟨fun h => h.1, fun h => ⟨h, (touched_iff hM x).2 ((hR x).1 h)⟩⟩
/-- Changes done twice. -/
theorem app_twice {C : List Chg} {L A B M : List Pr} (hL : Ris L) (h1 : AppOf L C A) (h2 : AppOf A C B) (h3 : AppOf [] C M) : A = B := by
  refine ris_uniq (app_ris hL h1) (app_ris (app_ris hL h1) h2) fun p => ?_
  rw [app_from h2 h3 p, app_from h1 h3 p]
  constructor
  · rintro (a | ⟨a, b⟩)
    · exact .inl a
    · exact .inr ⟨.inr ⟨a, b⟩, b⟩
  · rintro (a | ⟨a | a, b⟩)
    · exact .inl a
    · exact .inl a
    · exact .inr a
end Go.Proofs.Ytblljpdlmllceaa
/-
  Plain facts: the ends of what is gone are ends of the changes' spans; the fewest changes are changes.
-/
namespace Go.Proofs.Ytblljpdlmllceaa
open Go.RowKit
set_option linter.unusedVariables false
def endsC (C : List Chg) : List ByteArray := (spansC C).flatMap fun s => [s.1, s.2]
theorem endsC_snoc (C : List Chg) (c : Chg) : endsC (C ++ [c]) = endsC C ++ [(spanC c.1 c.2.1 c.2.2).1, (spanC c.1 c.2.1 c.2.2).2] := by
  unfold endsC; rw [spansC_snoc, List.flatMap_append]; simp
theorem named_const {c : Chg} {x y : ByteArray} (hyx : y ≤ x) (h : ∀ e, e = (spanC c.1 c.2.1 c.2.2).1 ∨ e = (spanC c.1 c.2.1 c.2.2).2 → ¬ (y < e ∧ e ≤ x)) : Named c.1 c.2.1 c.2.2 y ↔ Named c.1 c.2.1 c.2.2 x := by
  rw [← named_has, ← named_has]
  generalize spanC c.1 c.2.1 c.2.2 = s at h
  have h1 := h s.1 (.inl rfl)
  have h2 := h s.2 (.inr rfl)
  unfold InS
  constructor
  · rintro ⟨a, b⟩
    exact ⟨by grind, by grind⟩
  · rintro ⟨a, b⟩
    exact ⟨by grind, by grind⟩
theorem gone_const {C : List Chg} {x y : ByteArray} (hyx : y ≤ x) (h : ∀ e, e ∈ endsC C → ¬ (y < e ∧ e ≤ x)) : goneOf C y ↔ goneOf C x := by
  have gen : ∀ n, n ≤ C.length → (∀ e, e ∈ endsC (C.take n) → ¬ (y < e ∧ e ≤ x)) → (goneOf (C.take n) y ↔ goneOf (C.take n) x) := by
    intro n
    induction n with
    | zero => intro _ _; simp [goneOf]
    | succ n ih =>
      intro hn he
      obtain ⟨c, hc⟩ : ∃ c, C[n]? = some c := ⟨_, List.getElem?_eq_getElem (by omega)⟩
      rw [take_snoc hc] at he ⊢
      rw [endsC_snoc] at he
      have h1 := ih (by omega) fun e he' => he e (List.mem_append_left _ he')
      have h2 := named_const (c := c) hyx fun e he' => he e (List.mem_append_right _ (by simpa using he'))
      rw [goneOf_snoc]
      by_cases hp : c.1 = 1
      · have e1 : ∀ z, Named c.1 c.2.1 c.2.2 z ↔ z = c.2.1 := fun z => by unfold Named; rw [if_neg (by omega)]
        unfold goneStep
        rw [if_pos hp, if_pos hp, h1, ← e1, ← e1, h2]
      · rw [gone_other hp, gone_other hp, h1, h2]
  have := gen C.length (Nat.le_refl _) (by rwa [List.take_length])
  rwa [List.take_length] at this
theorem max_below (F : List ByteArray) {x : ByteArray} (hx : ByteArray.empty < x) : ∃ y, y < x ∧ ∀ f, f ∈ F → f ≤ y ∨ x ≤ f := by
  induction F with
  | nil => exact ⟨_, hx, fun f hf => by cases hf⟩
  | cons g F ih =>
    obtain ⟨y, h1, h2⟩ := ih
    by_cases hg : g < x
    · by_cases hgy : g ≤ y
      · exact ⟨y, h1, fun f hf => by rcases List.mem_cons.1 hf with rfl | hf; exact .inl hgy; exact h2 f hf⟩
      · refine ⟨g, hg, fun f hf => ?_⟩
        rcases List.mem_cons.1 hf with rfl | hf
        · exact .inl (by grind)
        · have := h2 f hf; grind
    · exact ⟨y, h1, fun f hf => by rcases List.mem_cons.1 hf with rfl | hf; exact .inr (by grind); exact h2 f hf⟩
theorem canon_apart {R : List Spn} (hR : Canon R) : ∀ {r s : Spn}, r ∈ R → s ∈ R → r = s ∨ r.2 < s.1 ∨ s.2 < r.1 := by
  induction R with
  | nil => intro r s hr; cases hr
  | cons t R ih =>
    intro r s hr hs
    rcases List.mem_cons.1 hr with e1 | hr1
    · rcases List.mem_cons.1 hs with e2 | hs1
      · exact .inl (e1.trans e2.symm)
      · have := hR.2.1 s hs1; rw [e1]; exact .inr (.inl this)
    · rcases List.mem_cons.1 hs with e2 | hs1
      · have := hR.2.1 r hr1; rw [e2]; exact .inr (.inr this)
      · exact ih hR.2.2 hr1 hs1
theorem empty_lt {x : ByteArray} (h : x ≠ ByteArray.empty) : ByteArray.empty < x := by
  have := empty_lo x
  grind
theorem ends_lo {C : List Chg} {R : List Spn} (hc : Canon R) (hR : ∀ x, InL R x ↔ goneOf C x) {r : Spn} (hr : r ∈ R) : r.1 = ByteArray.empty ∨ r.1 ∈ endsC C := by
  have hrr := hc.mem r hr
  by_cases h0 : r.1 = ByteArray.empty
  · exact .inl h0
  · by_cases he : r.1 ∈ endsC C
    · exact .inr he
    · exfalso
      obtain ⟨y, hy1, hy2⟩ := max_below (endsC C ++ R.map (·.2)) (empty_lt h0)
      have hg := (gone_const (C := C) (x := r.1) (y := y) (by grind) fun e hee ⟨h1, h2⟩ => by
        rcases hy2 e (List.mem_append_left _ hee) with h3 | h3
        · grind
        · have : e = r.1 := by grind
          exact he (this ▸ hee)).2 ((hR r.1).1 ⟨r, hr, by unfold InS; grind⟩)
      obtain ⟨s, hs, hsy⟩ := (hR y).2 hg
      unfold InS at hsy
      rcases canon_apart hc hr hs with rfl | h | h
      · grind
      · grind
      · rcases hy2 s.2 (List.mem_append_right _ (List.mem_map.2 ⟨s, hs, rfl⟩)) with h3 | h3
        · grind
        · grind
theorem ends_hi {C : List Chg} {R : List Spn} (hc : Canon R) (hR : ∀ x, InL R x ↔ goneOf C x) {r : Spn} (hr : r ∈ R) : r.2 ∈ endsC C := by
  have hrr := hc.mem r hr
  by_cases he : r.2 ∈ endsC C
  · exact he
  · exfalso
    obtain ⟨y, hy1, hy2⟩ := max_below (r.1 :: endsC C) (x := r.2) (by have := empty_lo r.1; grind)
    have hy3 : r.1 ≤ y := by
      rcases hy2 r.1 (List.mem_cons_self ..) with h | h
      · exact h
      · grind
    have hg := (gone_const (C := C) (x := r.2) (y := y) (by grind) fun e hee ⟨h1, h2⟩ => by
      rcases hy2 e (List.mem_cons_of_mem _ hee) with h3 | h3
      · grind
      · have : e = r.2 := by grind
        exact he (this ▸ hee)).1 ((hR y).1 ⟨r, hr, by unfold InS; grind⟩)
    obtain ⟨s, hs, hsy⟩ := (hR r.2).2 hg
    unfold InS at hsy
    rcases canon_apart hc hr hs with rfl | h | h <;> grind
theorem chk_wipe_size {k v : ByteArray} (h : chk 3 k v = 0) : k.size ≤ 17 ∧ v.size ≤ 17 := ⟨(chk_three.1 h).2.1, (chk_three.1 h).1⟩
theorem chk_key16 {kind : Int} {k v : ByteArray} (h : chk kind k v = 0) (h3 : ¬ kind = 3) : k.size ≤ 16 := by
  unfold chk at h
  rw [if_neg h3] at h
  by_cases h2 : kind = 2
  · rw [if_pos h2] at h
    by_cases h4 : 0 < v.size
    · rw [if_pos h4] at h; cases h
    · rw [if_neg h4] at h
      by_cases h5 : 16 < k.size
      · rw [if_pos h5] at h; cases h
      · omega
  · rw [if_neg h2] at h
    by_cases h1 : kind = 1
    · rw [if_pos h1] at h
      by_cases h5 : 16 < k.size
      · rw [if_pos h5] at h; cases h
      · omega
    · rw [if_neg h1] at h; cases h
theorem ends_small {C : List Chg} (hC : chkAll C = 0) {e : ByteArray} (he : e ∈ endsC C) : e.size ≤ 17 := by
  unfold endsC spansC at he
  obtain ⟨s, hs, hes⟩ := List.mem_flatMap.1 he
  obtain ⟨c, hc, rfl⟩ := List.mem_map.1 hs
  have h1 := chkAll_mem hC c hc
  by_cases h3 : c.1 = 3
  · rw [h3] at h1
    have := chk_wipe_size h1
    unfold spanC at hes
    rw [if_pos h3] at hes
    rcases List.mem_cons.1 hes with rfl | hes
    · exact this.1
    · obtain rfl := List.mem_singleton.1 hes; exact this.2
  · have := chk_key16 h1 h3
    unfold spanC at hes
    rw [if_neg h3] at hes
    rcases List.mem_cons.1 hes with rfl | hes
    · show c.2.1.size ≤ 17; omega
    · obtain rfl := List.mem_singleton.1 hes
      show (c.2.1 ++ ⟨#[0]⟩ : ByteArray).size ≤ 17
      rw [ByteArray.size_append]
      show c.2.1.size + 1 ≤ 17
      omega
theorem gone_small {C : List Chg} (hC : chkAll C = 0) {R : List Spn} (hc : Canon R) (hR : ∀ x, InL R x ↔ goneOf C x) : ∀ r, r ∈ R → r.1.size ≤ 17 ∧ r.2.size ≤ 17 := by
  intro r hr
  refine ⟨?_, ends_small hC (ends_hi hc hR hr)⟩
  rcases ends_lo hc hR hr with h | h
  · rw [h]; exact Nat.zero_le 17
  · exact ends_small hC h
/-- The fewest changes are changes. -/
theorem least_sound {C : List Chg} (hC : chkAll C = 0) {R : List Spn} {M : List Pr} (hc : Canon R) (hR : ∀ x, InL R x ↔ goneOf C x) (hM : AppOf [] C M) : chkAll (leastC R M) = 0 := by
  have hs := gone_small hC hc hR
  have hsnd : Snd M := snd_app (L := []) ⟨List.Pairwise.nil, fun p hp => by cases hp⟩ hC hM
  rw [leastC, chkAll_append]
  constructor
  · have : ∀ r, r ∈ R → r.1 < r.2 := hc.mem
    clear hc hR
    induction R with
    | nil => rfl
    | cons r R ih =>
      rw [List.map_cons, chkAll_cons]
      have h1 := hs r (List.mem_cons_self ..)
      have h2 := this r (List.mem_cons_self ..)
      have h3 : chk (goneC r).1 (goneC r).2.1 (goneC r).2.2 = 0 := by
        unfold goneC
        by_cases hg : r.2 = r.1 ++ ⟨#[0]⟩ ∧ r.1.size ≤ 16
        · rw [if_pos hg]
          unfold chk
          rw [if_neg (by simp), if_pos rfl, if_neg (by show ¬ 0 < (0 : Nat); omega), if_neg (by have := hg.2; simp only; omega)]
        · rw [if_neg hg]
          exact chk_three.2 ⟨h1.2, h1.1, by simp only; grind⟩
      rw [if_pos h3]
      exact ih (fun s hsR => hs s (List.mem_cons_of_mem _ hsR)) fun s hsR => this s (List.mem_cons_of_mem _ hsR)
  · have h := hsnd.2
    clear hsnd hM hc hR hs
    induction M with
    | nil => rfl
    | cons p M ih =>
      rw [List.map_cons, chkAll_cons]
      have h1 := h p (List.mem_cons_self ..)
      have h3 : chk (putC p).1 (putC p).2.1 (putC p).2.2 = 0 := by
        unfold putC chk
        rw [if_neg (by simp), if_neg (by simp), if_pos rfl, if_neg (by simp only; omega), if_neg (by simp only; omega)]
      rw [if_pos h3]
      exact ih fun q hq => h q (List.mem_cons_of_mem _ hq)
end Go.Proofs.Ytblljpdlmllceaa
