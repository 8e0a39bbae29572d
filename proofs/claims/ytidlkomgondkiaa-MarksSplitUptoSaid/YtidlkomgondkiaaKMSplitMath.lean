/-
  Plain facts for MarksSplit: pieces of spans below and behind a key; what blind transactions write; when a transaction is fine.
-/
import Derived.Test.YtidlkomgondkiaaKMarkLaw
namespace Go.Proofs.Ytidlkomgondkiaa
open Go.RowKit Classical
set_option linter.unusedVariables false
set_option linter.unusedSimpArgs false
def lowS (at_ : ByteArray) (s : Spn) : List Spn := if s.2 ≤ at_ then [s] else if at_ ≤ s.1 then [] else [(s.1, at_)]
def highS (at_ : ByteArray) (s : Spn) : List Spn := if s.2 ≤ at_ then [] else if at_ ≤ s.1 then [s] else [(at_, s.2)]
def lowL (at_ : ByteArray) (R : List Spn) : List Spn := R.flatMap (lowS at_)
def highL (at_ : ByteArray) (R : List Spn) : List Spn := R.flatMap (highS at_)
theorem lowL_snoc {a : ByteArray} {R : List Spn} {k : Nat} {s : Spn} (h : R[k]? = some s) : lowL a (R.take (k + 1)) = lowL a (R.take k) ++ lowS a s := by
  unfold lowL; rw [take_snoc h, List.flatMap_append]; simp
theorem highL_snoc {a : ByteArray} {R : List Spn} {k : Nat} {s : Spn} (h : R[k]? = some s) : highL a (R.take (k + 1)) = highL a (R.take k) ++ highS a s := by
  unfold highL; rw [take_snoc h, List.flatMap_append]; simp
theorem lowS_len (a : ByteArray) (s : Spn) : (lowS a s).length ≤ 1 := by
  unfold lowS
  split
  · simp
  · split <;> simp
theorem highS_len (a : ByteArray) (s : Spn) : (highS a s).length ≤ 1 := by
  unfold highS
  split
  · simp
  · split <;> simp
theorem lowL_len (a : ByteArray) (R : List Spn) : (lowL a R).length ≤ R.length := by
  induction R with
  | nil => simp [lowL]
  | cons s R ih => have := lowS_len a s; simp only [lowL, List.flatMap_cons, List.length_append, List.length_cons] at ih ⊢; omega
theorem highL_len (a : ByteArray) (R : List Spn) : (highL a R).length ≤ R.length := by
  induction R with
  | nil => simp [highL]
  | cons s R ih => have := highS_len a s; simp only [highL, List.flatMap_cons, List.length_append, List.length_cons] at ih ⊢; omega
theorem split_in (a : ByteArray) (s : Spn) (x : ByteArray) : InS s x ↔ (∃ t, t ∈ lowS a s ∧ InS t x) ∨ ∃ t, t ∈ highS a s ∧ InS t x := by
  unfold lowS highS
  by_cases h1 : s.2 ≤ a
  · simp [h1]
  · by_cases h2 : a ≤ s.1
    · simp [h1, h2]
    · simp only [h1, h2, if_false, List.mem_singleton, exists_eq_left]
      unfold InS
      grind
theorem splits_in (a : ByteArray) (R : List Spn) (x : ByteArray) : InL R x ↔ InL (lowL a R) x ∨ InL (highL a R) x := by
  unfold InL lowL highL
  constructor
  · rintro ⟨s, hs, hx⟩
    rcases (split_in a s x).1 hx with ⟨t, ht, hx⟩ | ⟨t, ht, hx⟩
    · exact .inl ⟨t, List.mem_flatMap.2 ⟨s, hs, ht⟩, hx⟩
    · exact .inr ⟨t, List.mem_flatMap.2 ⟨s, hs, ht⟩, hx⟩
  · rintro (⟨t, ht, hx⟩ | ⟨t, ht, hx⟩)
    · obtain ⟨s, hs, ht⟩ := List.mem_flatMap.1 ht
      exact ⟨s, hs, (split_in a s x).2 (.inl ⟨t, ht, hx⟩)⟩
    · obtain ⟨s, hs, ht⟩ := List.mem_flatMap.1 ht
      exact ⟨s, hs, (split_in a s x).2 (.inr ⟨t, ht, hx⟩)⟩
theorem lowS_sound {a : ByteArray} {s : Spn} (ha : a.size ≤ 16) (h : s.1.size ≤ 17 ∧ s.2.size ≤ 17 ∧ s.1 ≤ s.2) {t : Spn} (ht : t ∈ lowS a s) : t.1.size ≤ 17 ∧ t.2.size ≤ 17 ∧ t.1 ≤ t.2 := by
  unfold lowS at ht
  split at ht
  · obtain rfl := List.mem_singleton.1 ht; exact h
  · split at ht
    · cases ht
    · obtain rfl := List.mem_singleton.1 ht
      exact ⟨h.1, by show a.size ≤ 17; omega, by show s.1 ≤ a; grind⟩
theorem highS_sound {a : ByteArray} {s : Spn} (ha : a.size ≤ 16) (h : s.1.size ≤ 17 ∧ s.2.size ≤ 17 ∧ s.1 ≤ s.2) {t : Spn} (ht : t ∈ highS a s) : t.1.size ≤ 17 ∧ t.2.size ≤ 17 ∧ t.1 ≤ t.2 := by
  unfold highS at ht
  split at ht
  · cases ht
  · split at ht
    · obtain rfl := List.mem_singleton.1 ht; exact h
    · obtain rfl := List.mem_singleton.1 ht
      exact ⟨by show a.size ≤ 17; omega, h.2.1, by show a ≤ s.2; grind⟩
theorem chkAll_nil : chkAll [] = 0 := by decide
theorem low_sound {a : ByteArray} {r : Int} {R : List Spn} {C : List Chg} (ha : a.size ≤ 16) (h : soundT (r, R, C) = true) : soundT (r, lowL a R, []) = true := by
  have h := soundT_iff.1 h
  refine soundT_iff.2 ⟨h.1, Nat.le_trans (lowL_len a R) h.2.1, by simp, chkAll_nil, fun t ht => ?_⟩
  obtain ⟨s, hs, ht⟩ := List.mem_flatMap.1 ht
  exact lowS_sound ha (h.2.2.2.2 s hs) ht
theorem high_sound {a : ByteArray} {r : Int} {R : List Spn} {C : List Chg} (ha : a.size ≤ 16) (h : soundT (r, R, C) = true) : soundT (r, highL a R, []) = true := by
  have h := soundT_iff.1 h
  refine soundT_iff.2 ⟨h.1, Nat.le_trans (highL_len a R) h.2.1, by simp, chkAll_nil, fun t ht => ?_⟩
  obtain ⟨s, hs, ht⟩ := List.mem_flatMap.1 ht
  exact highS_sound ha (h.2.2.2.2 s hs) ht
/-- When a transaction is fine: nothing that it read was written later. -/
theorem fine_iff {L : List Mk} {r : Int} {R : List Spn} (h : Marked L) (hr : 0 ≤ r) : judgeV L 0 r R = 1 ↔ ∀ x, InL R x → verL L x ≤ r := by
  have hl : ∀ s, lastL L s ≤ r ↔ ∀ x, InS s x → verL L x ≤ r := fun s => by
    obtain ⟨h1, h2, h3⟩ := lastL_max h.apart s
    constructor
    · intro hs x hx; have := h1 x hx; omega
    · intro hx
      rcases h3 with h3 | ⟨x, h3, h4⟩
      · omega
      · have := hx x h3; omega
  by_cases hR : R = []
  · subst hR; exact ⟨fun _ x hx => absurd hx InL.nil, fun _ => rfl⟩
  · by_cases hc : ∃ s, s ∈ R ∧ r < lastL L s
    · obtain ⟨s, hs, hc⟩ := hc
      rw [judgeV_clash hr hs hc]
      refine ⟨fun h => by omega, fun hx => ?_⟩
      have := (hl s).2 fun x hxs => hx x ⟨s, hs, hxs⟩
      omega
    · rw [judgeV_fine hR hr fun s hs => Int.not_lt.1 fun h => hc ⟨s, hs, h⟩]
      refine ⟨fun _ x hx => ?_, fun _ => rfl⟩
      obtain ⟨s, hs, hx⟩ := hx
      exact (hl s).1 (Int.not_lt.1 fun h => hc ⟨s, hs, h⟩) x hx
/-- Blind transactions are fine, and write what they change. -/
theorem blind_ver {v f : Int} : ∀ {T : List Tx} {L M : List Mk} {l m : Int} {V : List Int}, JudgeAll v f L l T V M m → (∀ t, t ∈ T → t.2.1 = []) → ∀ x, verL M x = if ∃ t, t ∈ T ∧ InL (spansC t.2.2) x then v else verL L x := by
  intro T
  induction T with
  | nil =>
    intro L M l m V h _ x
    obtain ⟨_, rfl, _⟩ := h
    rw [if_neg (by simp)]
  | cons t T ih =>
    intro L M l m V h hb x
    obtain ⟨j, N, n, V', h1, rfl, h2⟩ := h
    have hj : judgeV L f t.1 t.2.1 = 1 := by rw [hb t (List.mem_cons_self ..)]; rfl
    obtain ⟨rfl, hw⟩ := fine_of h1 hj
    rw [ih h2 (fun u hu => hb u (List.mem_cons_of_mem _ hu)) x, (wroteT_ver hw).2.1 x]
    by_cases h3 : ∃ u, u ∈ T ∧ InL (spansC u.2.2) x
    · rw [if_pos h3, if_pos (by obtain ⟨u, hu, hx⟩ := h3; exact ⟨u, List.mem_cons_of_mem _ hu, hx⟩)]
    · rw [if_neg h3]
      by_cases h4 : InL (spansC t.2.2) x
      · rw [if_pos h4, if_pos ⟨t, List.mem_cons_self .., h4⟩]
      · rw [if_neg h4, if_neg]
        rintro ⟨u, hu, hx⟩
        rcases List.mem_cons.1 hu with rfl | hu
        · exact h4 hx
        · exact h3 ⟨u, hu, hx⟩
/-- Of no changes nothing is written. -/
theorem one_blind {v f : Int} {L M : List Mk} {l m j : Int} {r : Int} {R : List Spn} (h : JudgeOne v f L l (r, R, []) j M m) : j = judgeV L f r R ∧ ∀ x, verL M x = verL L x := by
  refine ⟨h.1, fun x => ?_⟩
  have h2 := h.2
  split at h2
  · rw [(wroteT_ver h2).2.1 x, if_neg]
    rintro ⟨s, hs, _⟩
    simp [spansC] at hs
  · rw [h2.1]
/-- The law. -/
theorem split_law {T : List Tx} {V V' : List Int} {L L' L2 : List Mk} {l l' r : Int} {R : List Spn} (a : ByteArray) (h1 : JudgeAll 5 0 [] 0 T V L l) (h2 : JudgeAll 5 0 [] 0 T V' L' l') (hb : ∀ t, t ∈ T → t.2.1 = []) (hL : Marked L) (hL' : Marked L') (hL2 : Marked L2) (h3 : ∀ x, verL L2 x = verL L' x) (hr : 0 ≤ r) :
    judgeV L 0 r R = 1 ↔ judgeV L' 0 r (lowL a R) = 1 ∧ judgeV L2 0 r (highL a R) = 1 := by
  rw [fine_iff hL hr, fine_iff hL' hr, fine_iff hL2 hr]
  have hv : ∀ x, verL L' x = verL L x := fun x => by rw [blind_ver h1 hb x, blind_ver h2 hb x]
  constructor
  · intro h
    exact ⟨fun x hx => by rw [hv]; exact h x ((splits_in a R x).2 (.inl hx)), fun x hx => by rw [h3, hv]; exact h x ((splits_in a R x).2 (.inr hx))⟩
  · rintro ⟨h4, h5⟩ x hx
    rw [← hv]
    rcases (splits_in a R x).1 hx with hx | hx
    · exact h4 x hx
    · rw [← h3]; exact h5 x hx
theorem judgeV_or {L : List Mk} {r : Int} {R : List Spn} (hr : 0 ≤ r) : judgeV L 0 r R = 1 ∨ judgeV L 0 r R = 2 := by
  unfold judgeV
  split
  · exact .inl rfl
  · split
    · omega
    · split
      · exact .inr rfl
      · exact .inl rfl
end Go.Proofs.Ytidlkomgondkiaa
