/-
  Plain facts for ClockOnce: the bells that are set; which have rung.
-/
import Derived.Test.YtinfeajbnhkkiaaCWords
import Derived.Test.YtinfeajbnhkkiaaClockMath
namespace Go.Proofs.Ytinfeajbnhkkiaa
open Go.RowKit
set_option linter.unusedVariables false
set_option linter.unusedSimpArgs false
/-- The bells 0 .. k-1, set at these times. -/
def setsB (T : List Int) : Nat → List Bel
  | 0 => []
  | k + 1 => setB k (T.getD k 0) (setsB T k)
theorem mem_setsB {T : List Int} {x : Bel} : ∀ {k : Nat}, x ∈ setsB T k ↔ ∃ i : Nat, i < k ∧ x = ((i : Int), T.getD i 0)
  | 0 => ⟨fun h => (by cases h), fun ⟨i, h, _⟩ => by omega⟩
  | k + 1 => by
    unfold setsB
    rw [mem_setB, mem_setsB]
    constructor
    · rintro (rfl | ⟨⟨i, hi, rfl⟩, _⟩)
      · exact ⟨k, by omega, rfl⟩
      · exact ⟨i, by omega, rfl⟩
    · rintro ⟨i, hi, rfl⟩
      by_cases e : i = k
      · subst e; exact .inl rfl
      · exact .inr ⟨⟨i, by omega, rfl⟩, by show (i : Int) ≠ (k : Int); omega⟩
theorem bells_setsB (T : List Int) : ∀ {k : Nat}, k ≤ 4096 → Bells (setsB T k)
  | 0, _ => Bells.nil
  | k + 1, h => (bells_setsB T (k := k) (by omega)).set (by omega) (by omega)
/-- Which have rung. -/
def rungL (n : Nat) (P : List Bel) : List Bool := (List.range n).map fun (b : Nat) => P.any fun x => x.1 == (b : Int)
theorem rungL_len (n : Nat) (P : List Bel) : (rungL n P).length = n := by simp [rungL]
theorem rungL_nil (n : Nat) : rungL n [] = List.replicate n false := by
  unfold rungL
  apply List.ext_getElem
  · simp
  · intro i h1 h2; simp
theorem rungL_get {n : Nat} {P : List Bel} {b : Nat} (hb : b < n) : (rungL n P)[b]? = some (P.any fun x => x.1 == (b : Int)) := by
  unfold rungL; rw [List.getElem?_map, List.getElem?_range hb]; rfl
theorem rungL_set {n : Nat} {P : List Bel} {x : Bel} {b : Nat} (hb : b < n) (hx : x.1 = (b : Int)) : (rungL n P).set b true = rungL n (P ++ [x]) := by
  apply List.ext_getElem?
  intro i
  rw [List.getElem?_set, rungL_len]
  by_cases hi : i < n
  · rw [rungL_get hi, rungL_get hi]
    by_cases e : b = i
    · subst e
      rw [if_pos rfl, if_pos hb]
      simp [hx]
    · rw [if_neg e]
      have : (x.1 == (i : Int)) = false := by rw [beq_eq_false_iff_ne, hx]; omega
      simp [this]
  · have h1 : (rungL n P)[i]? = none := List.getElem?_eq_none (by rw [rungL_len]; omega)
    have h2 : (rungL n (P ++ [x]))[i]? = none := List.getElem?_eq_none (by rw [rungL_len]; omega)
    rw [h1, h2]
    have e : b ≠ i := by omega
    rw [if_neg e]
/-- Each bell is rung once. -/
theorem not_rung {L : List Bel} (h : Bells L) {d : Nat} {x : Bel} (hx : L[d]? = some x) : (L.take d).any (fun y => y.1 == x.1) = false := by
  rw [Bool.eq_false_iff]
  intro hc
  obtain ⟨y, hy, e⟩ := List.any_eq_true.1 hc
  have hxm := List.mem_of_getElem? hx
  have e2 := h.apart y x (List.mem_of_mem_take hy) hxm (by simpa using e)
  subst e2
  have hs := h.sorted
  rw [← List.take_append_drop d L, List.pairwise_append] at hs
  have hd : y ∈ L.drop d := by
    have hlt := (List.getElem?_eq_some_iff.1 hx)
    rw [List.drop_eq_getElem_cons hlt.1, hlt.2]; exact List.mem_cons_self ..
  exact bless_irrefl _ (hs.2.2 y hy y hd)
theorem rising_at {L : List Bel} (h : Bells L) {d : Nat} {x y : Bel} (hx : L[d]? = some x) (hy : L[d + 1]? = some y) : x.2 ≤ y.2 := by
  have h1 := List.getElem?_eq_some_iff.1 hx
  have h2 := List.getElem?_eq_some_iff.1 hy
  have := (List.pairwise_iff_getElem.1 h.sorted) d (d + 1) h1.1 h2.1 (by omega)
  rw [h1.2, h2.2] at this
  unfold bless at this; omega
theorem all_rung {T : List Int} {n : Nat} {b : Nat} (hb : b < n) : (setsB T n).any (fun y => y.1 == (b : Int)) = true :=
  List.any_eq_true.2 ⟨((b : Int), T.getD b 0), mem_setsB.2 ⟨b, hb, rfl⟩, by simp⟩
end Go.Proofs.Ytinfeajbnhkkiaa
