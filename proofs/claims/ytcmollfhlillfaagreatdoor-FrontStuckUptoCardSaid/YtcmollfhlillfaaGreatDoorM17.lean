/-
  Texts of this seat in one: SpanA.
-/
import Derived.Test.YtcmollfhlillfaaGreatDoorM8
import Derived.Test.YtcmollfhlillfaaGreatDoorM6
import Derived.Test.YtcmollfhlillfaaGreatDoorM12
import Derived.Test.YtcmollfhlillfaaGreatDoorM7
/-
  Spans in memory; what the short functions of the package span do.
-/
namespace Go.Proofs.YtcmollfhlillfaaGreatDoor
open Go.RowKit
set_option linter.unusedVariables false
set_option linter.unusedSimpArgs false
/-- A span: from, to. -/
abbrev Spn := ByteArray × ByteArray
def encS (s : Spn) : List Value := [.string s.1, .string s.2]
def srow (L : List Spn) : List Value := L.flatMap encS
theorem encS_len (s : Spn) : (encS s).length = 2 := rfl
theorem encS_one (s : Spn) : ∀ u ∈ encS s, u.oneCell' = true := by
  intro u hu
  simp only [encS, List.mem_cons, List.not_mem_nil, or_false] at hu
  rcases hu with rfl | rfl <;> rfl
theorem srow_len (L : List Spn) : (srow L).length = L.length * 2 := rec_len encS_len L
theorem srow_one (L : List Spn) : ∀ u ∈ srow L, u.oneCell' = true := rec_one encS_one L
theorem srow_fst {L : List Spn} {i : Nat} {s : Spn} (h : L[i]? = some s) : (srow L)[i * 2]? = some (.string s.1) := by
  have := rec_at encS_len h 0 (by omega); simpa [srow, encS] using this
theorem srow_snd {L : List Spn} {i : Nat} {s : Spn} (h : L[i]? = some s) : (srow L)[i * 2 + 1]? = some (.string s.2) := by
  have := rec_at encS_len h 1 (by omega); simpa [srow, encS] using this
theorem spanT : ElemT Tryz.prog 27 81 2 32 := elem_mk (z := .agg #[.string ByteArray.empty, .string ByteArray.empty]) Tryz.underlying27 (by kernel_rfl) rfl (by decide)
/-- The cells of element i of a slice that reads as spans. -/
theorem Rd.span {w : World} {A : Option Addr} {n : Nat} {L : List Spn} (h : Rd w 2 A n (srow L)) {i : Nat} {s : Spn} (hi : L[i]? = some s) :
    ∃ b o, A = some ⟨b, o, none⟩ ∧ w.cell? ⟨b, o + i * 2, none⟩ = some (.string s.1) ∧ w.cell? ⟨b, o + i * 2 + 1, none⟩ = some (.string s.2) := by
  have hl := (List.getElem?_eq_some_iff.1 (srow_fst hi)).1
  obtain ⟨b, o, e, hc⟩ := h.2 (by omega)
  exact ⟨b, o, e, hc _ _ (srow_fst hi), hc _ _ (srow_snd hi)⟩
theorem cell_alloc {w : World} {b o : Nat} {u : Value} (h : w.cell? ⟨b, o, none⟩ = some u) : ∀ ob, (w.alloc ob).cell? ⟨b, o, none⟩ = some u := fun ob => (World.cell?_alloc_lt w ob _ (cell_lt h)).trans h
theorem row_alloc {w : World} {g : Nat} {x : Obj} (h : w.heap[g]? = some x) (ob : Obj) : (w.alloc ob).heap[g]? = some x := by
  rw [Below.heap_alloc _ _ _ (by rcases Nat.lt_or_ge g w.heap.size with hlt | hge; exact hlt; rw [Array.getElem?_eq_none hge] at h; cases h)]; exact h
set_option maxHeartbeats 400000 in
theorem empty_any (a b : ByteArray) (w : World) : Calls Tryz.prog 101 #[.agg #[.string a, .string b]] w fun e w' => e = .returned (.bool (decide (b ≤ a))) ∧ w' = w.alloc (.cells #[.string a, .string b] 81) := by
  have h1 : (!(Op.bytesLess a.toList b.toList)) = decide (b ≤ a) := by rw [bl]; by_cases h : a < b <;> simp [h] <;> grind
  have H1 := Lib.hid h1
  clear h1
  go_enter Tryz.func101, Tryz.ntmps101
  go_wp2
  go_ret
  exact ⟨by rw [H1.out]; rfl, rfl⟩
set_option maxHeartbeats 400000 in
theorem has_yes (a b k : ByteArray) (w : World) (h : a ≤ k ∧ k < b) : Calls Tryz.prog 130 #[.agg #[.string a, .string b], .string k] w fun e w' => e = .returned (.bool true) ∧ w' = w.alloc (.cells #[.string a, .string b] 81) := by
  have h1 : Op.bytesLess k.toList a.toList = false := by rw [bl]; have := h.1; simp; grind
  have h2 : Op.bytesLess k.toList b.toList = true := by rw [bl]; have := h.2; simpa
  clear h
  go_enter Tryz.func130, Tryz.ntmps130
  go_wp2
  go_ret
  exact ⟨rfl, rfl⟩
set_option maxHeartbeats 400000 in
theorem has_no (a b k : ByteArray) (w : World) (h : ¬ (a ≤ k ∧ k < b)) : Calls Tryz.prog 130 #[.agg #[.string a, .string b], .string k] w fun e w' => e = .returned (.bool false) ∧ w' = w.alloc (.cells #[.string a, .string b] 81) := by
  by_cases hk : k < a
  · have h1 : Op.bytesLess k.toList a.toList = true := by rw [bl]; simpa
    clear h
    go_enter Tryz.func130, Tryz.ntmps130
    go_wp2
    go_ret
    exact ⟨rfl, rfl⟩
  · have h1 : Op.bytesLess k.toList a.toList = false := by rw [bl]; simp; grind
    have h2 : Op.bytesLess k.toList b.toList = false := by rw [bl]; simp; grind
    clear h hk
    go_enter Tryz.func130, Tryz.ntmps130
    go_wp2
    go_ret
    exact ⟨rfl, rfl⟩
theorem has_any (s : Spn) (k : ByteArray) (w : World) : Calls Tryz.prog 130 #[.agg #[.string s.1, .string s.2], .string k] w fun e w' => (∃ c, e = .returned (.bool c) ∧ (c = true ↔ InS s k)) ∧ w' = w.alloc (.cells #[.string s.1, .string s.2] 81) := by
  by_cases h : s.1 ≤ k ∧ k < s.2
  · exact (has_yes s.1 s.2 k w h).mono fun e w' ⟨he, hw⟩ => ⟨⟨true, he, by simp [InS, h]⟩, hw⟩
  · exact (has_no s.1 s.2 k w h).mono fun e w' ⟨he, hw⟩ => ⟨⟨false, he, by simp [InS]; simpa using h⟩, hw⟩
end Go.Proofs.YtcmollfhlillfaaGreatDoor
