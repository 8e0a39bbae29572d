/-
  Texts of this seat in one: MarkMath, MarkSize, MarkRef.
-/
import Derived.Test.YtidlkomgondkiaaKChg
import Derived.Test.YtidlkomgondkiaaKMeet
/-
  Plain facts: marks are spans with versions; what they say of keys.
-/
namespace Go.Proofs.Ytidlkomgondkiaa
open Go.RowKit
set_option linter.unusedVariables false
/-- A mark: a span, a version. -/
abbrev Mk := Spn × Int
/-- Marks rise, and have no key together; their versions are above 0. -/
def Marked : List Mk → Prop
  | [] => True
  | k :: L => k.1.1 < k.1.2 ∧ 0 < k.2 ∧ (∀ j, j ∈ L → k.1.2 ≤ j.1.1) ∧ Marked L
/-- The version at a key; 0: none. -/
def verL : List Mk → ByteArray → Int
  | [], _ => 0
  | k :: L, x => if k.1.1 ≤ x ∧ x < k.1.2 then k.2 else verL L x
theorem verL_yes {k : Mk} {L : List Mk} {x : ByteArray} (h : InS k.1 x) : verL (k :: L) x = k.2 := if_pos h
theorem verL_no {k : Mk} {L : List Mk} {x : ByteArray} (h : ¬ InS k.1 x) : verL (k :: L) x = verL L x := if_neg h
theorem verL_none {L : List Mk} {x : ByteArray} (h : ∀ k, k ∈ L → ¬ InS k.1 x) : verL L x = 0 := by
  induction L with
  | nil => rfl
  | cons k L ih => rw [verL_no (h k (List.mem_cons_self ..))]; exact ih fun j hj => h j (List.mem_cons_of_mem _ hj)
theorem verL_append {A B : List Mk} {x : ByteArray} (h : ∀ k, k ∈ A → ¬ InS k.1 x) : verL (A ++ B) x = verL B x := by
  induction A with
  | nil => rfl
  | cons k A ih => rw [List.cons_append, verL_no (h k (List.mem_cons_self ..))]; exact ih fun j hj => h j (List.mem_cons_of_mem _ hj)
theorem verL_first {A B : List Mk} {x : ByteArray} (h : ∃ k, k ∈ A ∧ InS k.1 x) : verL (A ++ B) x = verL A x := by
  induction A with
  | nil => obtain ⟨k, hk, _⟩ := h; cases hk
  | cons k A ih =>
    by_cases hx : InS k.1 x
    · rw [List.cons_append, verL_yes hx, verL_yes hx]
    · rw [List.cons_append, verL_no hx, verL_no hx]
      obtain ⟨j, hj, hjx⟩ := h
      rcases List.mem_cons.1 hj with rfl | hj
      · exact absurd hjx hx
      · exact ih ⟨j, hj, hjx⟩
/-- A family of spans with versions that have no key together, in whatever order. -/
def Apart (L : List Mk) : Prop := (∀ k, k ∈ L → k.1.1 < k.1.2 ∧ 0 < k.2) ∧ L.Pairwise fun a b => ∀ x, InS a.1 x → ¬ InS b.1 x
theorem Apart.tail {k : Mk} {L : List Mk} (h : Apart (k :: L)) : Apart L := ⟨fun j hj => h.1 j (List.mem_cons_of_mem _ hj), (List.pairwise_cons.1 h.2).2⟩
theorem Apart.ver {L : List Mk} (h : Apart L) {k : Mk} (hk : k ∈ L) {x : ByteArray} (hx : InS k.1 x) : verL L x = k.2 := by
  induction L with
  | nil => cases hk
  | cons j L ih =>
    rcases List.mem_cons.1 hk with rfl | hk
    · exact verL_yes hx
    · rw [verL_no fun hj => (List.pairwise_cons.1 h.2).1 k hk x hj hx]
      exact ih h.tail hk
theorem Apart.pos {L : List Mk} (h : Apart L) {x : ByteArray} (hx : verL L x ≠ 0) : ∃ k, k ∈ L ∧ InS k.1 x ∧ verL L x = k.2 := by
  by_cases hk : ∃ k, k ∈ L ∧ InS k.1 x
  · obtain ⟨k, hk, hkx⟩ := hk
    exact ⟨k, hk, hkx, h.ver hk hkx⟩
  · exact absurd (verL_none fun k hkL hkx => hk ⟨k, hkL, hkx⟩) hx
theorem Apart.nonneg {L : List Mk} (h : Apart L) (x : ByteArray) : 0 ≤ verL L x := by
  by_cases hx : verL L x = 0
  · omega
  · obtain ⟨k, hk, _, e⟩ := h.pos hx
    have := (h.1 k hk).2
    omega
theorem Marked.apart {L : List Mk} (h : Marked L) : Apart L := by
  induction L with
  | nil => exact ⟨fun k hk => (by cases hk), List.Pairwise.nil⟩
  | cons k L ih =>
    have h2 := ih h.2.2.2
    refine ⟨fun j hj => ?_, List.pairwise_cons.2 ⟨fun j hj x hk hjx => ?_, h2.2⟩⟩
    · rcases List.mem_cons.1 hj with rfl | hj
      · exact ⟨h.1, h.2.1⟩
      · exact h2.1 j hj
    · have := h.2.2.1 j hj
      unfold InS at hk hjx
      grind
theorem Marked.append {A B : List Mk} : Marked (A ++ B) ↔ Marked A ∧ Marked B ∧ ∀ a, a ∈ A → ∀ b, b ∈ B → a.1.2 ≤ b.1.1 := by
  induction A with
  | nil => simp [Marked]
  | cons k A ih =>
    simp only [List.cons_append, Marked, ih, List.mem_append, List.mem_cons]
    constructor
    · rintro ⟨h1, h2, h3, h4, h5, h6⟩
      refine ⟨⟨h1, h2, fun j hj => h3 j (.inl hj), h4⟩, h5, fun a ha b hb => ?_⟩
      rcases ha with rfl | ha
      · exact h3 b (.inr hb)
      · exact h6 a ha b hb
    · rintro ⟨⟨h1, h2, h3, h4⟩, h5, h6⟩
      exact ⟨h1, h2, fun j hj => hj.elim (h3 j) (h6 k (.inl rfl) j), h4, h5, fun a ha b hb => h6 a (.inr ha) b hb⟩
/-- The greatest version at the keys of a span; 0: none. -/
def IsMax (V : ByteArray → Int) (s : Spn) (n : Int) : Prop := (∀ x, InS s x → V x ≤ n) ∧ 0 ≤ n ∧ (n = 0 ∨ ∃ x, InS s x ∧ V x = n)
theorem isMax_uniq {V : ByteArray → Int} {s : Spn} {n m : Int} (h : IsMax V s n) (k : IsMax V s m) : n = m := by
  rcases h.2.2 with h0 | ⟨x, hx, hv⟩
  · rcases k.2.2 with k0 | ⟨y, hy, hw⟩
    · omega
    · have := h.1 y hy; have := k.2.1; omega
  · rcases k.2.2 with k0 | ⟨y, hy, hw⟩
    · have := k.1 x hx; have := h.2.1; omega
    · have := k.1 x hx; have := h.1 y hy; omega
/-- Last, as the program reckons: the marks that meet the span. -/
def lastL (L : List Mk) (s : Spn) : Int := L.foldl (fun n k => if (smeetS k.1 s).1 < (smeetS k.1 s).2 then (if n < k.2 then k.2 else n) else n) 0
theorem lastL_snoc (L : List Mk) (k : Mk) (s : Spn) : lastL (L ++ [k]) s = if (smeetS k.1 s).1 < (smeetS k.1 s).2 then (if lastL L s < k.2 then k.2 else lastL L s) else lastL L s := by
  unfold lastL; rw [List.foldl_append]; rfl
theorem meets_iff {a b : Spn} : (smeetS a b).1 < (smeetS a b).2 ↔ ∃ x, InS a x ∧ InS b x := by
  constructor
  · intro h; exact ⟨(smeetS a b).1, (smeet_in a b _).1 ⟨by grind, h⟩⟩
  · rintro ⟨x, hx⟩
    have := (smeet_in a b x).2 hx
    unfold InS at this
    grind
theorem lastL_max {L : List Mk} (h : Apart L) (s : Spn) : IsMax (verL L) s (lastL L s) := by
  have gen : ∀ n, n ≤ L.length → (∀ k, k ∈ L.take n → (∃ x, InS k.1 x ∧ InS s x) → k.2 ≤ lastL (L.take n) s) ∧ 0 ≤ lastL (L.take n) s ∧ (lastL (L.take n) s = 0 ∨ ∃ k, k ∈ L.take n ∧ (∃ x, InS k.1 x ∧ InS s x) ∧ k.2 = lastL (L.take n) s) := by
    intro n
    induction n with
    | zero => intro _; exact ⟨fun k hk => by simp at hk, Int.le_refl _, .inl rfl⟩
    | succ n ih =>
      intro hn
      obtain ⟨h1, h2, h3⟩ := ih (by omega)
      obtain ⟨k, hk⟩ : ∃ k, L[n]? = some k := ⟨_, List.getElem?_eq_getElem (by omega)⟩
      rw [take_snoc hk, lastL_snoc]
      have hkp := (h.1 k (List.mem_of_getElem? hk)).2
      by_cases hm : (smeetS k.1 s).1 < (smeetS k.1 s).2
      · rw [if_pos hm]
        have hmx := meets_iff.1 hm
        by_cases hlt : lastL (L.take n) s < k.2
        · rw [if_pos hlt]
          refine ⟨fun j hj hx => ?_, by omega, .inr ⟨k, by simp, hmx, rfl⟩⟩
          rcases List.mem_append.1 hj with hj | hj
          · have := h1 j hj hx; omega
          · rw [List.mem_singleton.1 hj]; exact Int.le_refl _
        · rw [if_neg hlt]
          refine ⟨fun j hj hx => ?_, h2, ?_⟩
          · rcases List.mem_append.1 hj with hj | hj
            · exact h1 j hj hx
            · rw [List.mem_singleton.1 hj]; omega
          · rcases h3 with h3 | ⟨j, hj, hx, e⟩
            · exact .inl h3
            · exact .inr ⟨j, List.mem_append_left _ hj, hx, e⟩
      · rw [if_neg hm]
        refine ⟨fun j hj hx => ?_, h2, ?_⟩
        · rcases List.mem_append.1 hj with hj | hj
          · exact h1 j hj hx
          · rw [List.mem_singleton.1 hj] at hx; exact absurd (meets_iff.2 hx) hm
        · rcases h3 with h3 | ⟨j, hj, hx, e⟩
          · exact .inl h3
          · exact .inr ⟨j, List.mem_append_left _ hj, hx, e⟩
  have := gen L.length (Nat.le_refl _)
  rw [List.take_length] at this
  obtain ⟨h1, h2, h3⟩ := this
  refine ⟨fun x hx => ?_, h2, ?_⟩
  · by_cases h0 : verL L x = 0
    · omega
    · obtain ⟨k, hk, hkx, e⟩ := h.pos h0
      rw [e]; exact h1 k hk ⟨x, hkx, hx⟩
  · rcases h3 with h3 | ⟨k, hk, ⟨x, hkx, hx⟩, e⟩
    · exact .inl h3
    · exact .inr ⟨x, hx, by rw [h.ver hk hkx, e]⟩
/-- The pieces of the first marks that lie outside a span. -/
def CutM (L : List Mk) (s : Spn) (O : List Mk) : Prop := Marked O ∧ (∀ x, (InS s x → verL O x = 0) ∧ (¬ InS s x → verL O x = verL L x)) ∧ (∀ o, o ∈ O → ∃ k, k ∈ L ∧ o.2 = k.2 ∧ o.1.2 ≤ k.1.2) ∧ (∀ o, o ∈ O → o.1.1 = s.2 ∨ ∃ k, k ∈ L ∧ o.1.1 = k.1.1)
theorem cutM_start (s : Spn) : CutM [] s [] := ⟨trivial, fun x => ⟨fun _ => rfl, fun _ => rfl⟩, fun o ho => (by cases ho), fun o ho => (by cases ho)⟩
theorem piece_in {k s : Spn} {R : List Spn} (hc : Canon R) (hk : ∀ x, InL R x ↔ InS k x ∧ ¬ InS s x) {r : Spn} (hr : r ∈ R) : k.1 ≤ r.1 ∧ r.2 ≤ k.2 := by
  have hrr := hc.mem r hr
  have h1 := ((hk r.1).1 ⟨r, hr, by unfold InS; grind⟩).1
  unfold InS at h1
  refine ⟨h1.1, ?_⟩
  by_cases h : r.2 ≤ k.2
  · exact h
  · have h2 := ((hk k.2).1 ⟨r, hr, by unfold InS; grind⟩).1
    unfold InS at h2
    grind
theorem piece_from {k s : Spn} {R : List Spn} (hc : Canon R) (hk : ∀ x, InL R x ↔ InS k x ∧ ¬ InS s x) {r : Spn} (hr : r ∈ R) : r.1 = s.2 ∨ r.1 = k.1 := by
  have hin := piece_in hc hk hr
  by_cases h1 : r.1 = k.1
  · exact .inr h1
  · by_cases h2 : r.1 = s.2
    · exact .inl h2
    · exfalso
      have hrr := hc.mem r hr
      have hout := ((hk r.1).1 ⟨r, hr, by unfold InS; grind⟩).2
      have hlt : k.1 < r.1 := by grind
      obtain ⟨y, hy, hf⟩ := max_below (k.1 :: s.2 :: R.map (fun t => t.2)) (x := r.1) (by have := empty_lo k.1; grind)
      have hy1 : k.1 ≤ y := by
        rcases hf k.1 (List.mem_cons_self ..) with h | h
        · exact h
        · grind
      have hy2 : s.2 ≤ y ∨ r.1 ≤ s.2 := hf s.2 (by simp)
      have hys : ¬ InS s y := by
        unfold InS at hout ⊢
        grind
      obtain ⟨t, ht, hty⟩ := (hk y).2 ⟨by unfold InS; grind, hys⟩
      have h3 := hf t.2 (List.mem_cons_of_mem _ (List.mem_cons_of_mem _ (List.mem_map.2 ⟨t, ht, rfl⟩)))
      have h4 := canon_apart hc ht hr
      unfold InS at hty
      grind
theorem canon_marked {R : List Spn} (hc : Canon R) {v : Int} (hv : 0 < v) : Marked (R.map fun r => (r, v)) := by
  induction R with
  | nil => trivial
  | cons r R ih =>
    refine ⟨hc.1, hv, fun j hj => ?_, ih hc.2.2⟩
    obtain ⟨t, ht, rfl⟩ := List.mem_map.1 hj
    have := hc.2.1 t ht
    grind
theorem ver_map {R : List Spn} {v : Int} {x : ByteArray} : (InL R x → verL (R.map fun r => (r, v)) x = v) ∧ (¬ InL R x → verL (R.map fun r => (r, v)) x = 0) := by
  induction R with
  | nil => exact ⟨fun h => absurd h InL.nil, fun _ => rfl⟩
  | cons r R ih =>
    rw [List.map_cons]
    by_cases hx : InS r x
    · rw [verL_yes (show InS ((r, v) : Mk).1 x from hx)]
      exact ⟨fun _ => rfl, fun h => absurd (InL.cons.2 (.inl hx)) h⟩
    · rw [verL_no (show ¬ InS ((r, v) : Mk).1 x from hx)]
      exact ⟨fun h => ih.1 ((InL.cons.1 h).resolve_left hx), fun h => ih.2 fun h2 => h (InL.cons.2 (.inr h2))⟩
theorem verL_snoc_before {L : List Mk} {k : Mk} {x : ByteArray} (h : Marked (L ++ [k])) (hx : InS k.1 x) : verL (L ++ [k]) x = k.2 := h.apart.ver (by simp) hx
theorem verL_snoc_no {L : List Mk} {k : Mk} {x : ByteArray} (hx : ¬ InS k.1 x) : verL (L ++ [k]) x = verL L x := by
  by_cases h : ∃ j, j ∈ L ∧ InS j.1 x
  · exact verL_first h
  · have h2 : ∀ j, j ∈ L → ¬ InS j.1 x := fun j hj hjx => h ⟨j, hj, hjx⟩
    rw [verL_append h2, verL_none h2]; exact if_neg hx
theorem cutM_next {L : List Mk} {s : Spn} {O : List Mk} {k : Mk} {R : List Spn} (h : CutM L s O) (hm : Marked (L ++ [k])) (hc : Canon R) (hk : ∀ x, InL R x ↔ InS k.1 x ∧ ¬ InS s x) : CutM (L ++ [k]) s (O ++ R.map fun r => (r, k.2)) := by
  obtain ⟨h1, h2, h3, h4⟩ := h
  have hmm := Marked.append.1 hm
  have hkv : 0 < k.2 := hmm.2.1.2.1
  have hO : ∀ o, o ∈ O → ∀ x, InS k.1 x → ¬ InS o.1 x := fun o ho x hkx hox => by
    obtain ⟨j, hj, _, h4⟩ := h3 o ho
    have := hmm.2.2 j hj k (by simp)
    unfold InS at hkx hox
    grind
  refine ⟨Marked.append.2 ⟨h1, canon_marked hc hkv, fun a ha b hb => ?_⟩, fun x => ?_, fun o ho => ?_, fun o ho => ?_⟩
  · obtain ⟨r, hr, rfl⟩ := List.mem_map.1 hb
    obtain ⟨j, hj, _, h4⟩ := h3 a ha
    have h5 := hmm.2.2 j hj k (by simp)
    have h6 := (piece_in hc hk hr).1
    grind
  · by_cases hkx : InS k.1 x
    · rw [verL_append fun o ho => hO o ho x hkx, verL_snoc_before hm hkx]
      by_cases hs : InS s x
      · exact ⟨fun _ => ver_map.2 fun h => ((hk x).1 h).2 hs, fun h => absurd hs h⟩
      · exact ⟨fun h => absurd h hs, fun _ => ver_map.1 ((hk x).2 ⟨hkx, hs⟩)⟩
    · have hnR : ¬ InL R x := fun h => hkx ((hk x).1 h).1
      have e : verL (O ++ R.map fun r => (r, k.2)) x = verL O x := by
        by_cases h : ∃ j, j ∈ O ∧ InS j.1 x
        · exact verL_first h
        · have h5 : ∀ j, j ∈ O → ¬ InS j.1 x := fun j hj hjx => h ⟨j, hj, hjx⟩
          rw [verL_append h5, ver_map.2 hnR, verL_none h5]
      rw [e, verL_snoc_no hkx]
      exact h2 x
  · rcases List.mem_append.1 ho with ho | ho
    · obtain ⟨j, hj, h4⟩ := h3 o ho
      exact ⟨j, List.mem_append_left _ hj, h4⟩
    · obtain ⟨r, hr, rfl⟩ := List.mem_map.1 ho
      exact ⟨k, by simp, rfl, (piece_in hc hk hr).2⟩
  · rcases List.mem_append.1 ho with ho | ho
    · rcases h4 o ho with h5 | ⟨j, hj, h5⟩
      · exact .inl h5
      · exact .inr ⟨j, List.mem_append_left _ hj, h5⟩
    · obtain ⟨r, hr, rfl⟩ := List.mem_map.1 ho
      rcases piece_from hc hk hr with h5 | h5
      · exact .inl h5
      · exact .inr ⟨k, by simp, h5⟩
/-- What a write leaves: the marks, and their versions. -/
def WrittenM (L : List Mk) (s : Spn) (v : Int) (L' : List Mk) : Prop := Marked L' ∧ (∀ x, (InS s x → verL L' x = v) ∧ (¬ InS s x → verL L' x = verL L x)) ∧ ∀ o, o ∈ L' → o.2 = v ∨ ∃ k, k ∈ L ∧ o.2 = k.2
/-- The new mark put among what is left: A lies ahead, B behind. -/
theorem written_put {L A B : List Mk} {s : Spn} {v : Int} (h : CutM L s (A ++ B)) (hs : s.1 < s.2) (hv : 0 < v) (hA : ∀ a, a ∈ A → ¬ s.1 < a.1.1) (hB : ∀ b, b ∈ B → s.1 < b.1.1) (hBB : B = [] ∨ True) : WrittenM L s v (A ++ (s, v) :: B) := by
  obtain ⟨h1, h2, h3, _⟩ := h
  have hm := Marked.append.1 h1
  have hout : ∀ o, o ∈ A ++ B → ∀ x, InS o.1 x → ¬ InS s x := fun o ho x hox hsx => by
    have h4 := (h2 x).1 hsx
    rw [h1.apart.ver ho hox] at h4
    have := (h1.apart.1 o ho).2
    omega
  have hA2 : ∀ a, a ∈ A → a.1.2 ≤ s.1 := fun a ha => by
    have h4 := hA a ha
    have h5 := hout a (List.mem_append_left _ ha) s.1
    unfold InS at h5
    grind
  have hB2 : ∀ b, b ∈ B → s.2 ≤ b.1.1 := fun b hb => by
    have h4 := hB b hb
    have h5 := hout b (List.mem_append_right _ hb) b.1.1
    have h6 := (h1.apart.1 b (List.mem_append_right _ hb)).1
    unfold InS at h5
    grind
  refine ⟨Marked.append.2 ⟨hm.1, ⟨hs, hv, hB2, hm.2.1⟩, fun a ha b hb => ?_⟩, fun x => ?_, fun o ho => ?_⟩
  · rcases List.mem_cons.1 hb with rfl | hb
    · exact hA2 a ha
    · exact hm.2.2 a ha b hb
  · by_cases hsx : InS s x
    · refine ⟨fun _ => ?_, fun h => absurd hsx h⟩
      rw [verL_append fun a ha hax => hout a (List.mem_append_left _ ha) x hax hsx]
      exact verL_yes hsx
    · refine ⟨fun h => absurd h hsx, fun _ => ?_⟩
      rw [← (h2 x).2 hsx]
      by_cases hax : ∃ a, a ∈ A ∧ InS a.1 x
      · rw [verL_first hax, verL_first hax]
      · have h5 : ∀ j, j ∈ A → ¬ InS j.1 x := fun j hj hjx => hax ⟨j, hj, hjx⟩
        rw [verL_append h5, verL_append h5]
        exact verL_no hsx
  · rcases List.mem_append.1 ho with ho | ho
    · obtain ⟨k, hk, e, _⟩ := h3 o (List.mem_append_left _ ho); exact .inr ⟨k, hk, e⟩
    · rcases List.mem_cons.1 ho with rfl | ho
      · exact .inl rfl
      · obtain ⟨k, hk, e, _⟩ := h3 o (List.mem_append_right _ ho); exact .inr ⟨k, hk, e⟩
/-- What is forgotten. -/
theorem marked_filter {L : List Mk} (h : Marked L) (p : Mk → Bool) : Marked (L.filter p) := by
  induction L with
  | nil => trivial
  | cons k L ih =>
    rw [List.filter_cons]
    split
    · exact ⟨h.1, h.2.1, fun j hj => h.2.2.1 j (List.mem_filter.1 hj).1, ih h.2.2.2⟩
    · exact ih h.2.2.2
theorem ver_forget {L : List Mk} (h : Marked L) (f : Int) (hf : 0 ≤ f) (x : ByteArray) : verL (L.filter fun k => !decide (k.2 ≤ f)) x = if verL L x ≤ f then 0 else verL L x := by
  have ha := h.apart
  have hb := (marked_filter h fun k => !decide (k.2 ≤ f)).apart
  by_cases h0 : verL (L.filter fun k => !decide (k.2 ≤ f)) x = 0
  · rw [h0]
    by_cases h1 : verL L x ≤ f
    · rw [if_pos h1]
    · exfalso
      obtain ⟨k, hk, hkx, e⟩ := ha.pos (x := x) (by omega)
      have := hb.ver (k := k) (x := x) (List.mem_filter.2 ⟨hk, by rw [e] at h1; simpa using h1⟩) hkx
      have := (ha.1 k hk).2
      omega
  · obtain ⟨k, hk, hkx, e⟩ := hb.pos h0
    have h2 := List.mem_filter.1 hk
    have h3 : ¬ k.2 ≤ f := by simpa using h2.2
    have h4 := ha.ver h2.1 hkx
    rw [if_neg (by omega), e, h4]
end Go.Proofs.Ytidlkomgondkiaa
/-
  Plain facts: how many runs of one version there are, told by the versions alone.
-/
namespace Go.Proofs.Ytidlkomgondkiaa
open Go.RowKit
set_option linter.unusedVariables false
/-- A run of one version begins here. -/
def RunStart (V : ByteArray → Int) (x : ByteArray) : Prop := V x ≠ 0 ∧ ∀ y, y < x → ∃ z, y ≤ z ∧ z < x ∧ V z ≠ V x
/-- Two touch, and are of one version. -/
def touch (i k : Mk) : Bool := decide (i.1.2 = k.1.1 ∧ i.2 = k.2)
/-- Nothing of its version touches it from below. -/
def startB (P : List Mk) (k : Mk) : Bool := P.all fun i => !touch i k
theorem startB_iff {P : List Mk} {k : Mk} : startB P k = true ↔ ∀ i, i ∈ P → ¬ (i.1.2 = k.1.1 ∧ i.2 = k.2) := by
  unfold startB touch
  rw [List.all_eq_true]
  constructor
  · intro h i hi h2
    have h3 := h i hi
    rw [decide_eq_true h2] at h3
    cases h3
  · intro h i hi
    rw [decide_eq_false (h i hi)]; rfl
theorem Apart.two {P : List Mk} (h : Apart P) {j k : Mk} (hj : j ∈ P) (hk : k ∈ P) (hne : j ≠ k) (x : ByteArray) : ¬ (InS j.1 x ∧ InS k.1 x) := by
  induction P with
  | nil => cases hj
  | cons b P ih =>
    intro hx
    have hc := List.pairwise_cons.1 h.2
    rcases List.mem_cons.1 hj with e1 | hj2
    · rcases List.mem_cons.1 hk with e2 | hk2
      · exact hne (e1.trans e2.symm)
      · rw [e1] at hx; exact hc.1 k hk2 x hx.1 hx.2
    · rcases List.mem_cons.1 hk with e2 | hk2
      · rw [e2] at hx; exact hc.1 j hj2 x hx.2 hx.1
      · exact ih h.tail hj2 hk2 hx
theorem run_of_start {P : List Mk} (h : Apart P) {k : Mk} (hk : k ∈ P) (hs : startB P k = true) : RunStart (verL P) k.1.1 := by
  have hs := startB_iff.1 hs
  have hkk := h.1 k hk
  have hkv := h.ver hk (x := k.1.1) (by unfold InS; grind)
  refine ⟨by omega, fun y hy => ?_⟩
  obtain ⟨z, hz1, hz2⟩ := max_below (y :: P.map (fun j => j.1.2)) (x := k.1.1) (by have := empty_lo y; grind)
  have hyz : y ≤ z := by
    rcases hz2 y (List.mem_cons_self ..) with h1 | h1
    · exact h1
    · grind
  refine ⟨z, hyz, hz1, fun he => ?_⟩
  rw [hkv] at he
  obtain ⟨j, hj, hjz, e⟩ := h.pos (x := z) (by omega)
  have hz3 := hz2 j.1.2 (List.mem_cons_of_mem _ (List.mem_map.2 ⟨j, hj, rfl⟩))
  have hjz' := hjz
  unfold InS at hjz'
  have hlt : k.1.1 ≤ j.1.2 := by
    rcases hz3 with h1 | h1
    · grind
    · exact h1
  have hne : ¬ k.1.1 < j.1.2 := fun h1 => by
    have h2 := h.ver hj (x := k.1.1) (by unfold InS; grind)
    have : j.2 = k.2 := by omega
    by_cases hjk : j = k
    · subst hjk; grind
    · exact h.two hj hk hjk k.1.1 ⟨by unfold InS; grind, by unfold InS; grind⟩
  exact hs j hj ⟨by grind, by omega⟩
theorem start_of_run {P : List Mk} (h : Apart P) {x : ByteArray} (hx : RunStart (verL P) x) : ∃ k, k ∈ P ∧ k.1.1 = x ∧ startB P k = true := by
  obtain ⟨k, hk, hkx, e⟩ := h.pos hx.1
  have hkx' := hkx
  unfold InS at hkx'
  have e1 : k.1.1 = x := by
    by_cases hlt : k.1.1 < x
    · exfalso
      obtain ⟨z, h1, h2, h3⟩ := hx.2 _ hlt
      have := h.ver hk (x := z) (by unfold InS; grind)
      omega
    · grind
  refine ⟨k, hk, e1, startB_iff.2 fun i hi ⟨h1, h2⟩ => ?_⟩
  have hii := h.1 i hi
  obtain ⟨z, h3, h4, h5⟩ := hx.2 i.1.1 (by grind)
  have := h.ver hi (x := z) (by unfold InS; grind)
  omega
theorem nodup_length {α : Type} : ∀ {A B : List α}, A.Nodup → (∀ x, x ∈ A → x ∈ B) → A.length ≤ B.length := by
  intro A
  induction A with
  | nil => intro B _ _; exact Nat.zero_le _
  | cons a A ih =>
    intro B hA hB
    have hc := List.nodup_cons.1 hA
    obtain ⟨B1, B2, rfl⟩ := List.append_of_mem (hB a (List.mem_cons_self ..))
    have h1 : A.length ≤ (B1 ++ B2).length := ih hc.2 fun x hx => by
      have h2 := hB x (List.mem_cons_of_mem _ hx)
      rw [List.mem_append, List.mem_cons] at h2
      rw [List.mem_append]
      rcases h2 with h2 | rfl | h2
      · exact .inl h2
      · exact absurd hx hc.1
      · exact .inr h2
    rw [List.length_append] at h1
    rw [List.length_append, List.length_cons, List.length_cons]; omega
theorem apart_nodup {P : List Mk} (h : Apart P) : (P.map fun k => k.1.1).Nodup := by
  induction P with
  | nil => exact List.nodup_nil
  | cons k P ih =>
    rw [List.map_cons, List.nodup_cons]
    refine ⟨fun hm => ?_, ih h.tail⟩
    obtain ⟨j, hj, e⟩ := List.mem_map.1 hm
    have h1 := h.1 k (List.mem_cons_self ..)
    have h2 := h.1 j (List.mem_cons_of_mem _ hj)
    exact (List.pairwise_cons.1 h.2).1 j hj k.1.1 (by unfold InS; grind) (by unfold InS; grind)
/-- A cut makes one mark more at most. -/
theorem cut_len {L O : List Mk} {s : Spn} (h : CutM L s O) : O.length ≤ L.length + 1 := by
  have h1 := nodup_length (A := O.map fun k => k.1.1) (B := s.2 :: L.map fun k => k.1.1) (apart_nodup h.1.apart) fun x hx => by
    obtain ⟨o, ho, rfl⟩ := List.mem_map.1 hx
    rcases h.2.2.2 o ho with h2 | ⟨k, hk, h2⟩
    · rw [h2]; exact List.mem_cons_self ..
    · rw [h2]; exact List.mem_cons_of_mem _ (List.mem_map.2 ⟨k, hk, rfl⟩)
  simpa using h1
theorem nodup_filter_map {P : List Mk} (h : (P.map fun k => k.1.1).Nodup) (p : Mk → Bool) : ((P.filter p).map fun k => k.1.1).Nodup :=
  List.Nodup.sublist (List.Sublist.map _ (List.filter_sublist (l := P) (p := p))) h
/-- How many runs there are. -/
def runs (P : List Mk) : Nat := P.countP (startB P)
theorem runs_le {P Q : List Mk} (hP : Apart P) (hQ : Apart Q) (hv : ∀ x, verL P x = verL Q x) : runs P ≤ runs Q := by
  unfold runs
  rw [List.countP_eq_length_filter, List.countP_eq_length_filter]
  have h := nodup_length (A := (P.filter (startB P)).map fun k => k.1.1) (B := (Q.filter (startB Q)).map fun k => k.1.1) (nodup_filter_map (apart_nodup hP) _) fun x hx => by
    obtain ⟨k, hk, rfl⟩ := List.mem_map.1 hx
    have hk2 := List.mem_filter.1 hk
    have hr := run_of_start hP hk2.1 hk2.2
    have hr2 : RunStart (verL Q) k.1.1 := by
      refine ⟨by rw [← hv]; exact hr.1, fun y hy => ?_⟩
      obtain ⟨z, h1, h2, h3⟩ := hr.2 y hy
      exact ⟨z, h1, h2, by rw [← hv, ← hv]; exact h3⟩
    obtain ⟨j, hj, e, hs⟩ := start_of_run hQ hr2
    exact List.mem_map.2 ⟨j, List.mem_filter.2 ⟨hj, hs⟩, e⟩
  simpa using h
theorem runs_eq {P Q : List Mk} (hP : Apart P) (hQ : Apart Q) (hv : ∀ x, verL P x = verL Q x) : runs P = runs Q :=
  Nat.le_antisymm (runs_le hP hQ hv) (runs_le hQ hP fun x => (hv x).symm)
/-- The program's way: each mark is held against the one ahead. -/
theorem start_first {k : Mk} {L : List Mk} (h : Marked (k :: L)) : startB (k :: L) k = true := by
  refine startB_iff.2 fun i hi ⟨h1, _⟩ => ?_
  rcases List.mem_cons.1 hi with rfl | hi
  · have := h.1; grind
  · have h2 := h.2.2.1 i hi
    have h3 := (h.2.2.2.apart.1 i hi).1
    have h4 := h.1
    grind
theorem start_next {A B : List Mk} {j k : Mk} (h : Marked (A ++ j :: k :: B)) : startB (A ++ j :: k :: B) k = !touch j k := by
  have hm := Marked.append.1 h
  have hjk := hm.2.1
  cases ht : touch j k with
  | true =>
    rw [Bool.not_true, Bool.eq_false_iff]
    intro hs
    have := startB_iff.1 hs j (by simp)
    unfold touch at ht
    exact this (by simpa using ht)
  | false =>
    rw [Bool.not_false]
    refine startB_iff.2 fun i hi ⟨h1, h2⟩ => ?_
    have hkk := hjk.2.2.2.1
    have hjj := hjk.1
    have hjk1 := hjk.2.2.1 k (by simp)
    rcases List.mem_append.1 hi with hi | hi
    · have h3 := hm.2.2 i hi j (by simp)
      grind
    · rcases List.mem_cons.1 hi with rfl | hi
      · unfold touch at ht
        have : ¬ (i.1.2 = k.1.1 ∧ i.2 = k.2) := by simpa using ht
        exact this ⟨h1, h2⟩
      · rcases List.mem_cons.1 hi with rfl | hi
        · grind
        · have h4 := hjk.2.2.2.2.2.1 i hi
          have h5 := (hjk.2.2.2.2.2.2.apart.1 i hi).1
          grind
/-- The document's way: all, but for those that touch. -/
def touches (P Q : List Mk) : Nat := (P.map fun i => Q.countP fun k => touch i k).sum
theorem touches_nil (P : List Mk) : touches P [] = 0 := by
  unfold touches
  induction P with
  | nil => rfl
  | cons i P ih => rw [List.map_cons, List.sum_cons, ih]; rfl
theorem touches_cons (P Q : List Mk) (k : Mk) : touches P (k :: Q) = (P.countP fun i => touch i k) + touches P Q := by
  unfold touches
  induction P with
  | nil => rfl
  | cons i P ih =>
    rw [List.map_cons, List.sum_cons, List.map_cons, List.sum_cons, ih, List.countP_cons, List.countP_cons]
    omega
theorem touch_le {P : List Mk} (h : Apart P) {k : Mk} : (P.countP fun i => touch i k) ≤ 1 := by
  induction P with
  | nil => exact Nat.zero_le _
  | cons a P ih =>
    rw [List.countP_cons]
    have h1 := ih h.tail
    by_cases ha : touch a k = true
    · have : (P.countP fun i => touch i k) = 0 := by
        rw [List.countP_eq_zero]
        intro b hb hbk
        unfold touch at ha hbk
        have ha : a.1.2 = k.1.1 ∧ a.2 = k.2 := by simpa using ha
        have hb2 : b.1.2 = k.1.1 ∧ b.2 = k.2 := by simpa using hbk
        have haa := (h.1 a (List.mem_cons_self ..)).1
        have hbb := (h.1 b (List.mem_cons_of_mem _ hb)).1
        have hc := (List.pairwise_cons.1 h.2).1 b hb
        by_cases hab : a.1.1 ≤ b.1.1
        · exact hc b.1.1 (by unfold InS; grind) (by unfold InS; grind)
        · exact hc a.1.1 (by unfold InS; grind) (by unfold InS; grind)
      rw [this]; simp [ha]
    · rw [if_neg ha]; omega
theorem touches_runs {P : List Mk} (h : Apart P) : ∀ Q : List Mk, touches P Q + Q.countP (startB P) = Q.length := by
  intro Q
  induction Q with
  | nil => rw [touches_nil]; rfl
  | cons k Q ih =>
    rw [touches_cons, List.countP_cons, List.length_cons]
    have h1 := touch_le h (k := k)
    cases hs : startB P k with
    | true =>
      have : (P.countP fun i => touch i k) = 0 := by
        rw [List.countP_eq_zero]
        intro i hi hik
        unfold touch at hik
        exact startB_iff.1 hs i hi (by simpa using hik)
      simp only [if_true]; omega
    | false =>
      have : 0 < (P.countP fun i => touch i k) := by
        rw [List.countP_pos_iff]
        by_cases hx : ∃ i, i ∈ P ∧ touch i k = true
        · exact hx
        · exfalso
          rw [Bool.eq_false_iff] at hs
          exact hs (startB_iff.2 fun i hi h2 => hx ⟨i, hi, by unfold touch; simpa using h2⟩)
      simp only [Bool.false_eq_true, if_false]; omega
theorem runs_touches {P : List Mk} (h : Apart P) : (P.length : Int) - (touches P P : Int) = (runs P : Int) := by
  have := touches_runs h P
  unfold runs
  omega
end Go.Proofs.Ytidlkomgondkiaa
/-
  Plain facts: the document's marks, a list of all that was written.
-/
namespace Go.Proofs.Ytidlkomgondkiaa
open Go.RowKit
set_option linter.unusedVariables false
/-- The version of the last write at a key; 0: none. -/
def lastW (W : List Mk) (x : ByteArray) : Int := W.foldl (fun v k => if k.1.1 ≤ x ∧ x < k.1.2 then k.2 else v) 0
theorem lastW_yes {W : List Mk} {k : Mk} {x : ByteArray} (h : InS k.1 x) : lastW (W ++ [k]) x = k.2 := by
  unfold lastW; rw [List.foldl_append]; exact if_pos h
theorem lastW_no {W : List Mk} {k : Mk} {x : ByteArray} (h : ¬ InS k.1 x) : lastW (W ++ [k]) x = lastW W x := by
  unfold lastW; rw [List.foldl_append]; exact if_neg h
/-- What is seen of a version, at a floor. -/
def vis (f v : Int) : Int := if v ≤ f then 0 else v
theorem vis_zero {f : Int} (hf : 0 ≤ f) : vis f 0 = 0 := if_pos hf
theorem vis_vis {f g v : Int} (hf : 0 ≤ f) (hg : f ≤ g) : vis g (vis f v) = vis g v := by
  unfold vis
  by_cases h1 : v ≤ f
  · rw [if_pos h1, if_pos (show (0 : Int) ≤ g by omega), if_pos (show v ≤ g by omega)]
  · rw [if_neg h1]
/-- The spans that were written. -/
def spansW (W : List Mk) : List Spn := W.map (·.1)
/-- The version of the last write at a key, if that is one of the first i. -/
def lastAt (W : List Mk) (i : Nat) (x : ByteArray) (v : Int) : Prop := (InL (spansW (W.drop i)) x → v = 0) ∧ (¬ InL (spansW (W.drop i)) x → v = lastW (W.take i) x)
theorem lastAt_uniq {W : List Mk} {i : Nat} {x : ByteArray} {v u : Int} (h : lastAt W i x v) (k : lastAt W i x u) : v = u := by
  by_cases hx : InL (spansW (W.drop i)) x
  · rw [h.1 hx, k.1 hx]
  · rw [h.2 hx, k.2 hx]
theorem lastAt_zero (W : List Mk) (x : ByteArray) : lastAt W 0 x 0 := ⟨fun _ => rfl, fun _ => by rw [List.take_zero]; rfl⟩
theorem lastAt_end {W : List Mk} {x : ByteArray} {v : Int} (h : lastAt W W.length x v) : v = lastW W x := by
  have := h.2 (by rw [List.drop_length]; exact InL.nil)
  rwa [List.take_length] at this
theorem inL_drop {W : List Mk} {i : Nat} {k : Mk} (hk : W[i]? = some k) (x : ByteArray) : InL (spansW (W.drop i)) x ↔ InS k.1 x ∨ InL (spansW (W.drop (i + 1))) x := by
  have e := List.getElem?_eq_some_iff.1 hk
  rw [List.drop_eq_getElem_cons e.1, e.2]
  unfold spansW
  rw [List.map_cons, InL.cons]
/-- One write more: where it is the last, its version; elsewhere as it was. -/
theorem lastAt_next {W : List Mk} {i : Nat} {k : Mk} (hk : W[i]? = some k) {x : ByteArray} {v : Int} (h : lastAt W i x v) :
    (InS k.1 x → ¬ InL (spansW (W.drop (i + 1))) x → v = 0 ∧ lastAt W (i + 1) x k.2) ∧ (¬ (InS k.1 x ∧ ¬ InL (spansW (W.drop (i + 1))) x) → lastAt W (i + 1) x v) := by
  have hd := inL_drop hk x
  constructor
  · intro h1 h2
    refine ⟨h.1 (hd.2 (.inl h1)), fun h3 => absurd h3 h2, fun _ => ?_⟩
    rw [take_snoc hk, lastW_yes h1]
  · intro hn
    refine ⟨fun h3 => h.1 (hd.2 (.inr h3)), fun h3 => ?_⟩
    have h1 : ¬ InS k.1 x := fun h1 => hn ⟨h1, h3⟩
    rw [take_snoc hk, lastW_no h1]
    exact h.2 fun h4 => (hd.1 h4).elim h1 h3
/-- The pieces of what was written n-th, that were not written later. -/
def LeftW (W : List Mk) (i : Nat) (k : Mk) (R : List Spn) : Prop := Canon R ∧ ∀ x, InL R x ↔ InS k.1 x ∧ ¬ InL (spansW (W.drop (i + 1))) x
/-- All pieces of the first i that are seen. -/
def AllW (W : List Mk) (f : Int) (i : Nat) (P : List Mk) : Prop := Apart P ∧ ∀ x v, lastAt W i x v → verL P x = vis f v
theorem allW_start (W : List Mk) {f : Int} (hf : 0 ≤ f) : AllW W f 0 [] := ⟨⟨fun k hk => (by cases hk), List.Pairwise.nil⟩, fun x v h => by rw [lastAt_uniq h (lastAt_zero W x), vis_zero hf]; rfl⟩
theorem exists_lastAt (W : List Mk) (i : Nat) (x : ByteArray) : ∃ v, lastAt W i x v := by
  by_cases h : InL (spansW (W.drop i)) x
  · exact ⟨0, fun _ => rfl, fun h2 => absurd h h2⟩
  · exact ⟨lastW (W.take i) x, fun h2 => absurd h2 h, fun _ => rfl⟩
theorem allW_skip {W : List Mk} {f : Int} {i : Nat} {P : List Mk} {k : Mk} (h : AllW W f i P) (hf : 0 ≤ f) (hk : W[i]? = some k) (hv : k.2 ≤ f) : AllW W f (i + 1) P := by
  refine ⟨h.1, fun x u hu => ?_⟩
  obtain ⟨v, hv2⟩ := exists_lastAt W i x
  rw [h.2 x v hv2]
  have hn := lastAt_next hk hv2
  by_cases hx : InS k.1 x ∧ ¬ InL (spansW (W.drop (i + 1))) x
  · obtain ⟨h0, h1⟩ := hn.1 hx.1 hx.2
    rw [lastAt_uniq hu h1, h0, vis_zero hf]
    exact (if_pos hv).symm
  · rw [lastAt_uniq hu (hn.2 hx)]
theorem apart_append {A B : List Mk} (hA : Apart A) (hB : Apart B) (h : ∀ a, a ∈ A → ∀ b, b ∈ B → ∀ x, InS a.1 x → ¬ InS b.1 x) : Apart (A ++ B) :=
  ⟨fun k hk => (List.mem_append.1 hk).elim (hA.1 k) (hB.1 k), List.pairwise_append.2 ⟨hA.2, hB.2, fun a ha b hb => h a ha b hb⟩⟩
theorem allW_next {W : List Mk} {f : Int} {i : Nat} {P : List Mk} {k : Mk} {R : List Spn} (h : AllW W f i P) (hf : 0 ≤ f) (hk : W[i]? = some k) (hv : f < k.2) (hR : LeftW W i k R) : AllW W f (i + 1) (P ++ R.map fun r => (r, k.2)) := by
  have hout : ∀ x, InL R x → ∀ a, a ∈ P → ¬ InS a.1 x := fun x hx a ha hax => by
    obtain ⟨v, hv2⟩ := exists_lastAt W i x
    have h1 := h.2 x v hv2
    have h2 := (hR.2 x).1 hx
    have h3 := ((lastAt_next hk hv2).1 h2.1 h2.2).1
    rw [h3, vis_zero hf, h.1.ver ha hax] at h1
    have := (h.1.1 a ha).2
    omega
  refine ⟨apart_append h.1 (canon_marked hR.1 (by omega)).apart fun a ha b hb x hax hbx => ?_, fun x u hu => ?_⟩
  · obtain ⟨r, hr, rfl⟩ := List.mem_map.1 hb
    exact hout x ⟨r, hr, hbx⟩ a ha hax
  · obtain ⟨v, hv2⟩ := exists_lastAt W i x
    have hn := lastAt_next hk hv2
    by_cases hx : InS k.1 x ∧ ¬ InL (spansW (W.drop (i + 1))) x
    · obtain ⟨h0, h1⟩ := hn.1 hx.1 hx.2
      have hxR := (hR.2 x).2 hx
      rw [lastAt_uniq hu h1, verL_append (hout x hxR), ver_map.1 hxR]
      exact (if_neg (by omega)).symm
    · have hxR : ¬ InL R x := fun h2 => hx ((hR.2 x).1 h2)
      rw [lastAt_uniq hu (hn.2 hx), ← h.2 x v hv2]
      by_cases hax : ∃ a, a ∈ P ∧ InS a.1 x
      · exact verL_first hax
      · have h5 : ∀ j, j ∈ P → ¬ InS j.1 x := fun j hj hjx => hax ⟨j, hj, hjx⟩
        rw [verL_append h5, ver_map.2 hxR, verL_none h5]
theorem allW_end {W : List Mk} {f : Int} {P : List Mk} (h : AllW W f W.length P) (x : ByteArray) : verL P x = vis f (lastW W x) := by
  obtain ⟨v, hv⟩ := exists_lastAt W W.length x
  rw [h.2 x v hv, lastAt_end hv]
/-- The document's Last, behind the first i writes. -/
def LastI (W : List Mk) (f : Int) (s : Spn) (i : Nat) (n : Int) : Prop := (∀ x v, InS s x → lastAt W i x v → vis f v ≤ n) ∧ 0 ≤ n ∧ (n = 0 ∨ ∃ x v, InS s x ∧ lastAt W i x v ∧ vis f v = n)
theorem lastI_start (W : List Mk) {f : Int} (hf : 0 ≤ f) (s : Spn) : LastI W f s 0 0 := ⟨fun x v _ h => by rw [lastAt_uniq h (lastAt_zero W x), vis_zero hf]; exact Int.le_refl _, Int.le_refl _, .inl rfl⟩
theorem lastI_keep {W : List Mk} {f : Int} {s : Spn} {i : Nat} {n : Int} {k : Mk} (h : LastI W f s i n) (hf : 0 ≤ f) (hk : W[i]? = some k) (hv : k.2 ≤ f ∨ k.2 ≤ n ∨ ∀ x, InS s x → ¬ (InS k.1 x ∧ ¬ InL (spansW (W.drop (i + 1))) x)) : LastI W f s (i + 1) n := by
  obtain ⟨h1, h2, h3⟩ := h
  refine ⟨fun x u hx hu => ?_, h2, ?_⟩
  · obtain ⟨v, hv2⟩ := exists_lastAt W i x
    have hn := lastAt_next hk hv2
    by_cases hy : InS k.1 x ∧ ¬ InL (spansW (W.drop (i + 1))) x
    · rw [lastAt_uniq hu (hn.1 hy.1 hy.2).2]
      rcases hv with hv | hv | hv
      · rw [show vis f k.2 = 0 from if_pos hv]; exact h2
      · unfold vis; split <;> omega
      · exact absurd hy (hv x hx)
    · rw [lastAt_uniq hu (hn.2 hy)]
      exact h1 x v hx hv2
  · rcases h3 with h3 | ⟨x, v, hx, hv2, e⟩
    · exact .inl h3
    · have hn := lastAt_next hk hv2
      by_cases hy : InS k.1 x ∧ ¬ InL (spansW (W.drop (i + 1))) x
      · have := (hn.1 hy.1 hy.2).1
        rw [this, vis_zero hf] at e
        exact .inl e.symm
      · exact .inr ⟨x, v, hx, hn.2 hy, e⟩
theorem lastI_more {W : List Mk} {f : Int} {s : Spn} {i : Nat} {n : Int} {k : Mk} (h : LastI W f s i n) (hf : 0 ≤ f) (hk : W[i]? = some k) (hv : f < k.2) (hn : n < k.2) (hx : ∃ x, InS s x ∧ InS k.1 x ∧ ¬ InL (spansW (W.drop (i + 1))) x) : LastI W f s (i + 1) k.2 := by
  obtain ⟨h1, h2, h3⟩ := h
  refine ⟨fun x u hxs hu => ?_, by omega, .inr ?_⟩
  · obtain ⟨v, hv2⟩ := exists_lastAt W i x
    have hne := lastAt_next hk hv2
    by_cases hy : InS k.1 x ∧ ¬ InL (spansW (W.drop (i + 1))) x
    · rw [lastAt_uniq hu (hne.1 hy.1 hy.2).2, show vis f k.2 = k.2 from if_neg (by omega)]; exact Int.le_refl _
    · rw [lastAt_uniq hu (hne.2 hy)]
      have := h1 x v hxs hv2
      omega
  · obtain ⟨x, hxs, hy⟩ := hx
    obtain ⟨v, hv2⟩ := exists_lastAt W i x
    exact ⟨x, k.2, hxs, ((lastAt_next hk hv2).1 hy.1 hy.2).2, if_neg (by omega)⟩
theorem lastI_end {W : List Mk} {f : Int} {s : Spn} {n : Int} (h : LastI W f s W.length n) : IsMax (fun x => vis f (lastW W x)) s n := by
  obtain ⟨h1, h2, h3⟩ := h
  refine ⟨fun x hx => ?_, h2, ?_⟩
  · obtain ⟨v, hv⟩ := exists_lastAt W W.length x
    have := h1 x v hx hv
    rwa [lastAt_end hv] at this
  · rcases h3 with h3 | ⟨x, v, hx, hv, e⟩
    · exact .inl h3
    · exact .inr ⟨x, hx, by show vis f (lastW W x) = n; rw [← lastAt_end hv]; exact e⟩
/-- Both say the same of keys. -/
def Agree (L : List Mk) (W : List Mk) (f : Int) : Prop := ∀ x, verL L x = vis f (lastW W x)
theorem agree_start (f : Int) (hf : 0 ≤ f) : Agree [] [] f := fun x => by rw [show lastW [] x = 0 from rfl, vis_zero hf]; rfl
theorem agree_write {L L' W : List Mk} {f : Int} {s : Spn} {v : Int} (h : Agree L W f) (hv : f < v) (hw : WrittenM L s v L') : Agree L' (W ++ [(s, v)]) f := fun x => by
  by_cases hx : InS s x
  · rw [(hw.2.1 x).1 hx, lastW_yes (show InS ((s, v) : Mk).1 x from hx)]
    exact (if_neg (by omega)).symm
  · rw [(hw.2.1 x).2 hx, lastW_no (show ¬ InS ((s, v) : Mk).1 x from hx)]; exact h x
theorem agree_forget {L W : List Mk} {f g : Int} (h : Agree L W f) (hm : Marked L) (hf : 0 ≤ f) (hg : f ≤ g) : Agree (L.filter fun k => !decide (k.2 ≤ g)) W g := fun x => by
  rw [ver_forget hm g (by omega), h x, ← vis_vis hf hg]; rfl
theorem agree_last {L W : List Mk} {f n : Int} {s : Spn} (h : Agree L W f) (hm : Marked L) (hn : LastI W f s W.length n) : lastL L s = n := by
  refine isMax_uniq (lastL_max hm.apart s) ?_
  have h1 := lastI_end hn
  have e : (fun x => vis f (lastW W x)) = verL L := funext fun x => (h x).symm
  rwa [e] at h1
theorem agree_size {L W P : List Mk} {f : Int} (h : Agree L W f) (hm : Marked L) (hP : AllW W f W.length P) : runs L = runs P :=
  runs_eq hm.apart hP.1 fun x => by rw [h x, allW_end hP]
end Go.Proofs.Ytidlkomgondkiaa
