/-
  Has at the span that a change names.
-/
import Derived.Test.YtblljpdlmllceaaKRefHas
namespace Go.Proofs.Ytblljpdlmllceaa
open Go.RowKit
set_option linter.unusedVariables false
set_option linter.unusedSimpArgs false
theorem lt_snoc0 (l : List UInt8) : l < l ++ [0] := by
  induction l with
  | nil => exact List.nil_lt_cons _ _
  | cons a l ih => rw [List.cons_append, List.cons_lt_cons_iff]; exact .inr ⟨rfl, ih⟩
theorem no_between : ∀ (l m : List UInt8), l < m → ¬ m < l ++ [0]
  | [], [], h => by simp at h
  | [], b :: m, _ => by
    rw [List.nil_append, List.cons_lt_cons_iff]
    rintro (h | ⟨_, h⟩)
    · have := UInt8.toNat_lt b; simp [UInt8.lt_iff_toNat_lt] at h
    · simp at h
  | a :: l, [], h => by simp at h
  | a :: l, b :: m, h => by
    rw [List.cons_append, List.cons_lt_cons_iff]
    rw [List.cons_lt_cons_iff] at h
    rintro (h2 | ⟨rfl, h2⟩)
    · rcases h with h | ⟨rfl, _⟩
      · rw [UInt8.lt_iff_toNat_lt] at h h2; omega
      · rw [UInt8.lt_iff_toNat_lt] at h2; omega
    · rcases h with h | ⟨_, h⟩
      · rw [UInt8.lt_iff_toNat_lt] at h; omega
      · exact no_between l m h h2
theorem next_lt (s : ByteArray) : s < s ++ ⟨#[0]⟩ := by
  show s.data.toList < (s ++ ⟨#[0]⟩ : ByteArray).data.toList
  rw [ByteArray.toList_data_append]; exact lt_snoc0 _
theorem next_gap (s o : ByteArray) (h : s < o) : s ++ ⟨#[0]⟩ ≤ o := by
  have h1 : ¬ o < s ++ ⟨#[0]⟩ := by
    show ¬ o.data.toList < (s ++ ⟨#[0]⟩ : ByteArray).data.toList
    rw [ByteArray.toList_data_append]; exact no_between _ _ h
  grind
theorem named_has {kind : Int} (k v x : ByteArray) : InS (spanC kind k v) x ↔ Named kind k v x := by
  unfold InS spanC Named
  by_cases h : kind = 3
  · simp only [h, if_true]
  · simp only [h, if_false]
    have h1 := next_lt k
    constructor
    · rintro ⟨a, b⟩
      by_cases h2 : k < x
      · have := next_gap k x h2; grind
      · grind
    · rintro rfl
      exact ⟨by grind, h1⟩
end Go.Proofs.Ytblljpdlmllceaa
