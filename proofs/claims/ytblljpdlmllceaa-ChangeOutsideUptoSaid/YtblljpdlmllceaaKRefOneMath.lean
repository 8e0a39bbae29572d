/-
  Plain mathematics of the document's One: what it has when it has passed some of the pairs.
-/
import Derived.Test.YtblljpdlmllceaaKPairMath
namespace Go.Proofs.Ytblljpdlmllceaa
section
variable {α : Type} [LT α] [LE α]
/-- What the document's One has when it has passed the pairs L. -/
def Passed (L : List (α × α)) (kind : Int) (k v : α) (put : Bool) (M : List (α × α)) : Prop :=
  Ris M ∧ (put = false → kind = 1 ∧ ∀ p, p ∈ L → p.1 < k) ∧ ∀ p, p ∈ M ↔ (p ∈ L ∧ ¬ Named kind k v p.1) ∨ (kind = 1 ∧ put = true ∧ p = (k, v))
theorem passed_nil (kind : Int) (k v : α) (put : Bool) (h : put = false ↔ kind = 1) : Passed [] kind k v put [] := by
  refine ⟨by unfold Ris; simp, fun hp => ⟨h.1 hp, fun p hp => by cases hp⟩, fun p => ?_⟩
  constructor
  · intro hp; cases hp
  · rintro (⟨hp, _⟩ | ⟨h1, h2, _⟩)
    · cases hp
    · rw [h.2 h1] at h2; cases h2
theorem passed_end {L : List (α × α)} {kind : Int} {k v : α} {M : List (α × α)} (h : Passed L kind k v true M) : OneOf L kind k v M := by
  refine ⟨h.1, fun p => ?_⟩
  rw [h.2.2 p]
  simp
theorem passed_put {L : List (α × α)} {kind : Int} {k v : α} {M : List (α × α)} (h : Passed L kind k v false M) : Passed L kind k v true (M ++ [(k, v)]) := by
  obtain ⟨h1, h2⟩ := h.2.1 rfl
  refine ⟨?_, fun hp => (by cases hp), fun p => ?_⟩
  · unfold Ris
    rw [List.pairwise_append]
    refine ⟨h.1, by simp, fun a ha b hb => ?_⟩
    rw [List.mem_singleton.1 hb]
    rcases (h.2.2 a).1 ha with ⟨h3, _⟩ | ⟨_, h3, _⟩
    · exact h2 a h3
    · cases h3
  · rw [List.mem_append, h.2.2 p, List.mem_singleton]
    constructor
    · rintro ((h3 | ⟨_, h3, _⟩) | h3)
      · exact .inl h3
      · cases h3
      · exact .inr ⟨h1, rfl, h3⟩
    · rintro (h3 | ⟨_, _, h3⟩)
      · exact .inl (.inl h3)
      · exact .inr h3
theorem passed_keep [Std.IsLinearOrder α] [Std.LawfulOrderLT α] {L : List (α × α)} {kind : Int} {k v : α} {put : Bool} {M : List (α × α)} {x : α × α} (h : Passed L kind k v put M) (hL : ∀ p, p ∈ L → p.1 < x.1) (hx : ¬ Named kind k v x.1) (h0 : put = false → x.1 < k) (h1 : put = true → kind = 1 → k ≤ x.1) : Passed (L ++ [x]) kind k v put (M ++ [x]) := by
  refine ⟨?_, fun hp => ⟨(h.2.1 hp).1, fun p hm => ?_⟩, fun p => ?_⟩
  · unfold Ris
    rw [List.pairwise_append]
    refine ⟨h.1, by simp, fun a ha b hb => ?_⟩
    rw [List.mem_singleton.1 hb]
    rcases (h.2.2 a).1 ha with ⟨h3, _⟩ | ⟨h3, h4, h5⟩
    · exact hL a h3
    · have h6 := h1 h4 h3
      unfold Named at hx
      rw [if_neg (by omega)] at hx
      rw [h5]
      show k < x.1
      grind
  · rcases List.mem_append.1 hm with hm | hm
    · exact (h.2.1 hp).2 p hm
    · rw [List.mem_singleton.1 hm]; exact h0 hp
  · rw [List.mem_append, h.2.2 p, List.mem_append, List.mem_singleton]
    constructor
    · rintro ((⟨a, b⟩ | a) | rfl)
      · exact .inl ⟨.inl a, b⟩
      · exact .inr a
      · exact .inl ⟨.inr rfl, hx⟩
    · rintro (⟨a | rfl, b⟩ | a)
      · exact .inl (.inl ⟨a, b⟩)
      · exact .inr rfl
      · exact .inl (.inr a)
theorem passed_skip {L : List (α × α)} {kind : Int} {k v : α} {put : Bool} {M : List (α × α)} {x : α × α} (h : Passed L kind k v put M) (hx : Named kind k v x.1) (h0 : put = false → x.1 < k) : Passed (L ++ [x]) kind k v put M := by
  refine ⟨h.1, fun hp => ⟨(h.2.1 hp).1, fun p hm => ?_⟩, fun p => ?_⟩
  · rcases List.mem_append.1 hm with hm | hm
    · exact (h.2.1 hp).2 p hm
    · rw [List.mem_singleton.1 hm]; exact h0 hp
  · rw [h.2.2 p, List.mem_append, List.mem_singleton]
    constructor
    · rintro (⟨a, b⟩ | a)
      · exact .inl ⟨.inl a, b⟩
      · exact .inr a
    · rintro (⟨a | rfl, b⟩ | a)
      · exact .inl ⟨a, b⟩
      · exact absurd hx b
      · exact .inr a
end
end Go.Proofs.Ytblljpdlmllceaa
