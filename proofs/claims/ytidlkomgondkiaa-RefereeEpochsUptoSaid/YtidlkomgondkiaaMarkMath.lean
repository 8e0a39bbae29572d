/-
  Plain facts: marks are spans with versions; what they say of keys.
-/
import Derived.Test.YtidlkomgondkiaaChg
import Derived.Test.YtidlkomgondkiaaMeet
namespace Go.Proofs.Ytidlkomgondkiaa
open Go.RowKit
set_option linter.unusedVariables false
/-- A mark: a span, a version. -/
abbrev Mk := Spn × Int
/-- Marks rise, and have no key together; their versions are above 0. -/
def Marked : List Mk → Prop
  | [] => True
  | k :: L => k.1.1 < k.1.2 ∧ 0 < k.2 ∧ (∀ j, j ∈ L → k.1.2 ≤ j.1.1) ∧ Marked L
/-- The version at a key; 0: none. -/
def verL : List Mk → ByteArray → Int
  | [], _ => 0
  | k :: L, x => if k.1.1 ≤ x ∧ x < k.1.2 then k.2 else verL L x
theorem verL_yes {k : Mk} {L : List Mk} {x : ByteArray} (h : InS k.1 x) : verL (k :: L) x = k.2 := if_pos h
theorem verL_no {k : Mk} {L : List Mk} {x : ByteArray} (h : ¬ InS k.1 x) : verL (k :: L) x = verL L x := if_neg h
theorem verL_none {L : List Mk} {x : ByteArray} (h : ∀ k, k ∈ L → ¬ InS k.1 x) : verL L x = 0 := by
  induction L with
  | nil => rfl
  | cons k L ih => rw [verL_no (h k (List.mem_cons_self ..))]; exact ih fun j hj => h j (List.mem_cons_of_mem _ hj)
theorem verL_append {A B : List Mk} {x : ByteArray} (h : ∀ k, k ∈ A → ¬ InS k.1 x) : verL (A ++ B) x = verL B x := by
  induction A with
  | nil => rfl
  | cons k A ih => rw [List.cons_append, verL_no (h k (List.mem_cons_self ..))]; exact ih fun j hj => h j (List.mem_cons_of_mem _ hj)
theorem verL_first {A B : List Mk} {x : ByteArray} (h : ∃ k, k ∈ A ∧ InS k.1 x) : verL (A ++ B) x = verL A x := by
  induction A with
  | nil => obtain ⟨k, hk, _⟩ := h; cases hk
  | cons k A ih =>
    by_cases hx : InS k.1 x
    · rw [List.cons_append, verL_yes hx, verL_yes hx]
    · rw [List.cons_append, verL_no hx, verL_no hx]
      obtain ⟨j, hj, hjx⟩ := h
      rcases List.mem_cons.1 hj with rfl | hj
      · exact absurd hjx hx
      · exact ih ⟨j, hj, hjx⟩
/-- A family of spans with versions that have no key together, in whatever order. -/
def Apart (L : List Mk) : Prop := (∀ k, k ∈ L → k.1.1 < k.1.2 ∧ 0 < k.2) ∧ L.Pairwise fun a b => ∀ x, InS a.1 x → ¬ InS b.1 x
theorem Apart.tail {k : Mk} {L : List Mk} (h : Apart (k :: L)) : Apart L := ⟨fun j hj => h.1 j (List.mem_cons_of_mem _ hj), (List.pairwise_cons.1 h.2).2⟩
theorem Apart.ver {L : List Mk} (h : Apart L) {k : Mk} (hk : k ∈ L) {x : ByteArray} (hx : InS k.1 x) : verL L x = k.2 := by
  induction L with
  | nil => cases hk
  | cons j L ih =>
    rcases List.mem_cons.1 hk with rfl | hk
    · exact verL_yes hx
    · rw [verL_no fun hj => (List.pairwise_cons.1 h.2).1 k hk x hj hx]
      exact ih h.tail hk
theorem Apart.pos {L : List Mk} (h : Apart L) {x : ByteArray} (hx : verL L x ≠ 0) : ∃ k, k ∈ L ∧ InS k.1 x ∧ verL L x = k.2 := by
  by_cases hk : ∃ k, k ∈ L ∧ InS k.1 x
  · obtain ⟨k, hk, hkx⟩ := hk
    exact ⟨k, hk, hkx, h.ver hk hkx⟩
  · exact absurd (verL_none fun k hkL hkx => hk ⟨k, hkL, hkx⟩) hx
theorem Apart.nonneg {L : List Mk} (h : Apart L) (x : ByteArray) : 0 ≤ verL L x := by
  by_cases hx : verL L x = 0
  · omega
  · obtain ⟨k, hk, _, e⟩ := h.pos hx
    have := (h.1 k hk).2
    omega
theorem Marked.apart {L : List Mk} (h : Marked L) : Apart L := by
  induction L with
  | nil => exact ⟨fun k hk => (by cases hk), List.Pairwise.nil⟩
  | cons k L ih =>
    have h2 := ih h.2.2.2
    refine ⟨fun j hj => ?_, List.pairwise_cons.2 ⟨fun j hj x hk hjx => ?_, h2.2⟩⟩
    · rcases List.mem_cons.1 hj with rfl | hj
      · exact ⟨h.1, h.2.1⟩
      · exact h2.1 j hj
    · have := h.2.2.1 j hj
      unfold InS at hk hjx
      grind
theorem Marked.append {A B : List Mk} : Marked (A ++ B) ↔ Marked A ∧ Marked B ∧ ∀ a, a ∈ A → ∀ b, b ∈ B → a.1.2 ≤ b.1.1 := by
  induction A with
  | nil => simp [Marked]
  | cons k A ih =>
    simp only [List.cons_append, Marked, ih, List.mem_append, List.mem_cons]
    constructor
    · rintro ⟨h1, h2, h3, h4, h5, h6⟩
      refine ⟨⟨h1, h2, fun j hj => h3 j (.inl hj), h4⟩, h5, fun a ha b hb => ?_⟩
      rcases ha with rfl | ha
      · exact h3 b (.inr hb)
      · exact h6 a ha b hb
    · rintro ⟨⟨h1, h2, h3, h4⟩, h5, h6⟩
      exact ⟨h1, h2, fun j hj => hj.elim (h3 j) (h6 k (.inl rfl) j), h4, h5, fun a ha b hb => h6 a (.inr ha) b hb⟩
/-- The greatest version at the keys of a span; 0: none. -/
def IsMax (V : ByteArray → Int) (s : Spn) (n : Int) : Prop := (∀ x, InS s x → V x ≤ n) ∧ 0 ≤ n ∧ (n = 0 ∨ ∃ x, InS s x ∧ V x = n)
theorem isMax_uniq {V : ByteArray → Int} {s : Spn} {n m : Int} (h : IsMax V s n) (k : IsMax V s m) : n = m := by
  rcases h.2.2 with h0 | ⟨x, hx, hv⟩
  · rcases k.2.2 with k0 | ⟨y, hy, hw⟩
    · omega
    · have := h.1 y hy; have := k.2.1; omega
  · rcases k.2.2 with k0 | ⟨y, hy, hw⟩
    · have := k.1 x hx; have := h.2.1; omega
    · have := k.1 x hx; have := h.1 y hy; omega
/-- Last, as the program reckons: the marks that meet the span. -/
def lastL (L : List Mk) (s : Spn) : Int := L.foldl (fun n k => if (smeetS k.1 s).1 < (smeetS k.1 s).2 then (if n < k.2 then k.2 else n) else n) 0
theorem lastL_snoc (L : List Mk) (k : Mk) (s : Spn) : lastL (L ++ [k]) s = if (smeetS k.1 s).1 < (smeetS k.1 s).2 then (if lastL L s < k.2 then k.2 else lastL L s) else lastL L s := by
  unfold lastL; rw [List.foldl_append]; rfl
theorem meets_iff {a b : Spn} : (smeetS a b).1 < (smeetS a b).2 ↔ ∃ x, InS a x ∧ InS b x := by
  constructor
  · intro h; exact ⟨(smeetS a b).1, (smeet_in a b _).1 ⟨by grind, h⟩⟩
  · rintro ⟨x, hx⟩
    have := (smeet_in a b x).2 hx
    unfold InS at this
    grind
theorem lastL_max {L : List Mk} (h : Apart L) (s : Spn) : IsMax (verL L) s (lastL L s) := by
  have gen : ∀ n, n ≤ L.length → (∀ k, k ∈ L.take n → (∃ x, InS k.1 x ∧ InS s x) → k.2 ≤ lastL (L.take n) s) ∧ 0 ≤ lastL (L.take n) s ∧ (lastL (L.take n) s = 0 ∨ ∃ k, k ∈ L.take n ∧ (∃ x, InS k.1 x ∧ InS s x) ∧ k.2 = lastL (L.take n) s) := by
    intro n
    induction n with
    | zero => intro _; exact ⟨fun k hk => by simp at hk, Int.le_refl _, .inl rfl⟩
    | succ n ih =>
      intro hn
      obtain ⟨h1, h2, h3⟩ := ih (by omega)
      obtain ⟨k, hk⟩ : ∃ k, L[n]? = some k := ⟨_, List.getElem?_eq_getElem (by omega)⟩
      rw [take_snoc hk, lastL_snoc]
      have hkp := (h.1 k (List.mem_of_getElem? hk)).2
      by_cases hm : (smeetS k.1 s).1 < (smeetS k.1 s).2
      · rw [if_pos hm]
        have hmx := meets_iff.1 hm
        by_cases hlt : lastL (L.take n) s < k.2
        · rw [if_pos hlt]
          refine ⟨fun j hj hx => ?_, by omega, .inr ⟨k, by simp, hmx, rfl⟩⟩
          rcases List.mem_append.1 hj with hj | hj
          · have := h1 j hj hx; omega
          · rw [List.mem_singleton.1 hj]; exact Int.le_refl _
        · rw [if_neg hlt]
          refine ⟨fun j hj hx => ?_, h2, ?_⟩
          · rcases List.mem_append.1 hj with hj | hj
            · exact h1 j hj hx
            · rw [List.mem_singleton.1 hj]; omega
          · rcases h3 with h3 | ⟨j, hj, hx, e⟩
            · exact .inl h3
            · exact .inr ⟨j, List.mem_append_left _ hj, hx, e⟩
      · rw [if_neg hm]
        refine ⟨fun j hj hx => ?_, h2, ?_⟩
        · rcases List.mem_append.1 hj with hj | hj
          · exact h1 j hj hx
          · rw [List.mem_singleton.1 hj] at hx; exact absurd (meets_iff.2 hx) hm
        · rcases h3 with h3 | ⟨j, hj, hx, e⟩
          · exact .inl h3
          · exact .inr ⟨j, List.mem_append_left _ hj, hx, e⟩
  have := gen L.length (Nat.le_refl _)
  rw [List.take_length] at this
  obtain ⟨h1, h2, h3⟩ := this
  refine ⟨fun x hx => ?_, h2, ?_⟩
  · by_cases h0 : verL L x = 0
    · omega
    · obtain ⟨k, hk, hkx, e⟩ := h.pos h0
      rw [e]; exact h1 k hk ⟨x, hkx, hx⟩
  · rcases h3 with h3 | ⟨k, hk, ⟨x, hkx, hx⟩, e⟩
    · exact .inl h3
    · exact .inr ⟨x, hx, by rw [h.ver hk hkx, e]⟩
/-- The pieces of the first marks that lie outside a span. -/
def CutM (L : List Mk) (s : Spn) (O : List Mk) : Prop := Marked O ∧ (∀ x, (InS s x → verL O x = 0) ∧ (¬ InS s x → verL O x = verL L x)) ∧ (∀ o, o ∈ O → ∃ k, k ∈ L ∧ o.2 = k.2 ∧ o.1.2 ≤ k.1.2) ∧ (∀ o, o ∈ O → o.1.1 = s.2 ∨ ∃ k, k ∈ L ∧ o.1.1 = k.1.1)
theorem cutM_start (s : Spn) : CutM [] s [] := ⟨trivial, fun x => ⟨fun _ => rfl, fun _ => rfl⟩, fun o ho => (by cases ho), fun o ho => (by cases ho)⟩
theorem piece_in {k s : Spn} {R : List Spn} (hc : Canon R) (hk : ∀ x, InL R x ↔ InS k x ∧ ¬ InS s x) {r : Spn} (hr : r ∈ R) : k.1 ≤ r.1 ∧ r.2 ≤ k.2 := by
  have hrr := hc.mem r hr
  have h1 := ((hk r.1).1 ⟨r, hr, by unfold InS; grind⟩).1
  unfold InS at h1
  refine ⟨h1.1, ?_⟩
  by_cases h : r.2 ≤ k.2
  · exact h
  · have h2 := ((hk k.2).1 ⟨r, hr, by unfold InS; grind⟩).1
    unfold InS at h2
    grind
theorem piece_from {k s : Spn} {R : List Spn} (hc : Canon R) (hk : ∀ x, InL R x ↔ InS k x ∧ ¬ InS s x) {r : Spn} (hr : r ∈ R) : r.1 = s.2 ∨ r.1 = k.1 := by
  have hin := piece_in hc hk hr
  by_cases h1 : r.1 = k.1
  · exact .inr h1
  · by_cases h2 : r.1 = s.2
    · exact .inl h2
    · exfalso
      have hrr := hc.mem r hr
      have hout := ((hk r.1).1 ⟨r, hr, by unfold InS; grind⟩).2
      have hlt : k.1 < r.1 := by grind
      obtain ⟨y, hy, hf⟩ := max_below (k.1 :: s.2 :: R.map (fun t => t.2)) (x := r.1) (by have := empty_lo k.1; grind)
      have hy1 : k.1 ≤ y := by
        rcases hf k.1 (List.mem_cons_self ..) with h | h
        · exact h
        · grind
      have hy2 : s.2 ≤ y ∨ r.1 ≤ s.2 := hf s.2 (by simp)
      have hys : ¬ InS s y := by
        unfold InS at hout ⊢
        grind
      obtain ⟨t, ht, hty⟩ := (hk y).2 ⟨by unfold InS; grind, hys⟩
      have h3 := hf t.2 (List.mem_cons_of_mem _ (List.mem_cons_of_mem _ (List.mem_map.2 ⟨t, ht, rfl⟩)))
      have h4 := canon_apart hc ht hr
      unfold InS at hty
      grind
theorem canon_marked {R : List Spn} (hc : Canon R) {v : Int} (hv : 0 < v) : Marked (R.map fun r => (r, v)) := by
  induction R with
  | nil => trivial
  | cons r R ih =>
    refine ⟨hc.1, hv, fun j hj => ?_, ih hc.2.2⟩
    obtain ⟨t, ht, rfl⟩ := List.mem_map.1 hj
    have := hc.2.1 t ht
    grind
theorem ver_map {R : List Spn} {v : Int} {x : ByteArray} : (InL R x → verL (R.map fun r => (r, v)) x = v) ∧ (¬ InL R x → verL (R.map fun r => (r, v)) x = 0) := by
  induction R with
  | nil => exact ⟨fun h => absurd h InL.nil, fun _ => rfl⟩
  | cons r R ih =>
    rw [List.map_cons]
    by_cases hx : InS r x
    · rw [verL_yes (show InS ((r, v) : Mk).1 x from hx)]
      exact ⟨fun _ => rfl, fun h => absurd (InL.cons.2 (.inl hx)) h⟩
    · rw [verL_no (show ¬ InS ((r, v) : Mk).1 x from hx)]
      exact ⟨fun h => ih.1 ((InL.cons.1 h).resolve_left hx), fun h => ih.2 fun h2 => h (InL.cons.2 (.inr h2))⟩
theorem verL_snoc_before {L : List Mk} {k : Mk} {x : ByteArray} (h : Marked (L ++ [k])) (hx : InS k.1 x) : verL (L ++ [k]) x = k.2 := h.apart.ver (by simp) hx
theorem verL_snoc_no {L : List Mk} {k : Mk} {x : ByteArray} (hx : ¬ InS k.1 x) : verL (L ++ [k]) x = verL L x := by
  by_cases h : ∃ j, j ∈ L ∧ InS j.1 x
  · exact verL_first h
  · have h2 : ∀ j, j ∈ L → ¬ InS j.1 x := fun j hj hjx => h ⟨j, hj, hjx⟩
    rw [verL_append h2, verL_none h2]; exact if_neg hx
theorem cutM_next {L : List Mk} {s : Spn} {O : List Mk} {k : Mk} {R : List Spn} (h : CutM L s O) (hm : Marked (L ++ [k])) (hc : Canon R) (hk : ∀ x, InL R x ↔ InS k.1 x ∧ ¬ InS s x) : CutM (L ++ [k]) s (O ++ R.map fun r => (r, k.2)) := by
  obtain ⟨h1, h2, h3, h4⟩ := h
  have hmm := Marked.append.1 hm
  have hkv : 0 < k.2 := hmm.2.1.2.1
  have hO : ∀ o, o ∈ O → ∀ x, InS k.1 x → ¬ InS o.1 x := fun o ho x hkx hox => by
    obtain ⟨j, hj, _, h4⟩ := h3 o ho
    have := hmm.2.2 j hj k (by simp)
    unfold InS at hkx hox
    grind
  refine ⟨Marked.append.2 ⟨h1, canon_marked hc hkv, fun a ha b hb => ?_⟩, fun x => ?_, fun o ho => ?_, fun o ho => ?_⟩
  · obtain ⟨r, hr, rfl⟩ := List.mem_map.1 hb
    obtain ⟨j, hj, _, h4⟩ := h3 a ha
    have h5 := hmm.2.2 j hj k (by simp)
    have h6 := (piece_in hc hk hr).1
    grind
  · by_cases hkx : InS k.1 x
    · rw [verL_append fun o ho => hO o ho x hkx, verL_snoc_before hm hkx]
      by_cases hs : InS s x
      · exact ⟨fun _ => ver_map.2 fun h => ((hk x).1 h).2 hs, fun h => absurd hs h⟩
      · exact ⟨fun h => absurd h hs, fun _ => ver_map.1 ((hk x).2 ⟨hkx, hs⟩)⟩
    · have hnR : ¬ InL R x := fun h => hkx ((hk x).1 h).1
      have e : verL (O ++ R.map fun r => (r, k.2)) x = verL O x := by
        by_cases h : ∃ j, j ∈ O ∧ InS j.1 x
        · exact verL_first h
        · have h5 : ∀ j, j ∈ O → ¬ InS j.1 x := fun j hj hjx => h ⟨j, hj, hjx⟩
          rw [verL_append h5, ver_map.2 hnR, verL_none h5]
      rw [e, verL_snoc_no hkx]
      exact h2 x
  · rcases List.mem_append.1 ho with ho | ho
    · obtain ⟨j, hj, h4⟩ := h3 o ho
      exact ⟨j, List.mem_append_left _ hj, h4⟩
    · obtain ⟨r, hr, rfl⟩ := List.mem_map.1 ho
      exact ⟨k, by simp, rfl, (piece_in hc hk hr).2⟩
  · rcases List.mem_append.1 ho with ho | ho
    · rcases h4 o ho with h5 | ⟨j, hj, h5⟩
      · exact .inl h5
      · exact .inr ⟨j, List.mem_append_left _ hj, h5⟩
    · obtain ⟨r, hr, rfl⟩ := List.mem_map.1 ho
      rcases piece_from hc hk hr with h5 | h5
      · exact .inl h5
      · exact .inr ⟨k, by simp, h5⟩
/-- What a write leaves: the marks, and their versions. -/
def WrittenM (L : List Mk) (s : Spn) (v : Int) (L' : List Mk) : Prop := Marked L' ∧ (∀ x, (InS s x → verL L' x = v) ∧ (¬ InS s x → verL L' x = verL L x)) ∧ ∀ o, o ∈ L' → o.2 = v ∨ ∃ k, k ∈ L ∧ o.2 = k.2
/-- The new mark put among what is left: A lies ahead, B behind. -/
theorem written_put {L A B : List Mk} {s : Spn} {v : Int} (h : CutM L s (A ++ B)) (hs : s.1 < s.2) (hv : 0 < v) (hA : ∀ a, a ∈ A → ¬ s.1 < a.1.1) (hB : ∀ b, b ∈ B → s.1 < b.1.1) (hBB : B = [] ∨ True) : WrittenM L s v (A ++ (s, v) :: B) := by
  obtain ⟨h1, h2, h3, _⟩ := h
  have hm := Marked.append.1 h1
  have hout : ∀ o, o ∈ A ++ B → ∀ x, InS o.1 x → ¬ InS s x := fun o ho x hox hsx => by
    have h4 := (h2 x).1 hsx
    rw [h1.apart.ver ho hox] at h4
    have := (h1.apart.1 o ho).2
    omega
  have hA2 : ∀ a, a ∈ A → a.1.2 ≤ s.1 := fun a ha => by
    have h4 := hA a ha
    have h5 := hout a (List.mem_append_left _ ha) s.1
    unfold InS at h5
    grind
  have hB2 : ∀ b, b ∈ B → s.2 ≤ b.1.1 := fun b hb => by
    have h4 := hB b hb
    have h5 := hout b (List.mem_append_right _ hb) b.1.1
    have h6 := (h1.apart.1 b (List.mem_append_right _ hb)).1
    unfold InS at h5
    grind
  refine ⟨Marked.append.2 ⟨hm.1, ⟨hs, hv, hB2, hm.2.1⟩, fun a ha b hb => ?_⟩, fun x => ?_, fun o ho => ?_⟩
  · rcases List.mem_cons.1 hb with rfl | hb
    · exact hA2 a ha
    · exact hm.2.2 a ha b hb
  · by_cases hsx : InS s x
    · refine ⟨fun _ => ?_, fun h => absurd hsx h⟩
      rw [verL_append fun a ha hax => hout a (List.mem_append_left _ ha) x hax hsx]
      exact verL_yes hsx
    · refine ⟨fun h => absurd h hsx, fun _ => ?_⟩
      rw [← (h2 x).2 hsx]
      by_cases hax : ∃ a, a ∈ A ∧ InS a.1 x
      · rw [verL_first hax, verL_first hax]
      · have h5 : ∀ j, j ∈ A → ¬ InS j.1 x := fun j hj hjx => hax ⟨j, hj, hjx⟩
        rw [verL_append h5, verL_append h5]
        exact verL_no hsx
  · rcases List.mem_append.1 ho with ho | ho
    · obtain ⟨k, hk, e, _⟩ := h3 o (List.mem_append_left _ ho); exact .inr ⟨k, hk, e⟩
    · rcases List.mem_cons.1 ho with rfl | ho
      · exact .inl rfl
      · obtain ⟨k, hk, e, _⟩ := h3 o (List.mem_append_right _ ho); exact .inr ⟨k, hk, e⟩
/-- What is forgotten. -/
theorem marked_filter {L : List Mk} (h : Marked L) (p : Mk → Bool) : Marked (L.filter p) := by
  induction L with
  | nil => trivial
  | cons k L ih =>
    rw [List.filter_cons]
    split
    · exact ⟨h.1, h.2.1, fun j hj => h.2.2.1 j (List.mem_filter.1 hj).1, ih h.2.2.2⟩
    · exact ih h.2.2.2
theorem ver_forget {L : List Mk} (h : Marked L) (f : Int) (hf : 0 ≤ f) (x : ByteArray) : verL (L.filter fun k => !decide (k.2 ≤ f)) x = if verL L x ≤ f then 0 else verL L x := by
  have ha := h.apart
  have hb := (marked_filter h fun k => !decide (k.2 ≤ f)).apart
  by_cases h0 : verL (L.filter fun k => !decide (k.2 ≤ f)) x = 0
  · rw [h0]
    by_cases h1 : verL L x ≤ f
    · rw [if_pos h1]
    · exfalso
      obtain ⟨k, hk, hkx, e⟩ := ha.pos (x := x) (by omega)
      have := hb.ver (k := k) (x := x) (List.mem_filter.2 ⟨hk, by rw [e] at h1; simpa using h1⟩) hkx
      have := (ha.1 k hk).2
      omega
  · obtain ⟨k, hk, hkx, e⟩ := hb.pos h0
    have h2 := List.mem_filter.1 hk
    have h3 : ¬ k.2 ≤ f := by simpa using h2.2
    have h4 := ha.ver h2.1 hkx
    rw [if_neg (by omega), e, h4]
end Go.Proofs.Ytidlkomgondkiaa
