/-
  An incoming slice of records, as a row of cells.
-/
import Derived.Test.YtcmollfhlillfaaGreatDoorShape
import Derived.Test.YtcmollfhlillfaaGreatDoorRec
namespace Go.Proofs.YtcmollfhlillfaaGreatDoor
open Go.RowKit
set_option linter.unusedVariables false
set_option linter.unusedSimpArgs false
theorem rd_of_sh {α : Type} {size : Nat} {R : Sh α} {enc : α → List Value} {W : World} {v : Value} {L : List α} (hk : ∀ x, (enc x).length = size) (hpos : 0 < size) (hR : ∀ cs x, R W cs x → cs = enc x) (h : SliceSh size R W [v] L) :
    ∃ (A : Option Addr) (c : Nat), v = .slice A L.length c ∧ L.length ≤ c ∧ c ≤ maxLen ∧ (A = none → L.length = 0) ∧ Rd W size A L.length (L.flatMap enc) := by
  obtain ⟨A, c, hv', hlc, hcm, hA, hx⟩ := h
  injection hv' with hv'
  subst hv'
  refine ⟨A, c, rfl, hlc, hcm, hA, rec_len hk L, fun h0 => ?_⟩
  have h0' : 0 < L.length := by
    rw [rec_len hk] at h0
    exact Nat.pos_of_ne_zero fun e => by rw [e] at h0; simp at h0
  obtain ⟨bb, o, rfl, he⟩ := hx h0'
  refine ⟨bb, o, rfl, fun j u hu => ?_⟩
  have hj : j < L.length * size := by rw [← rec_len hk L]; exact (List.getElem?_eq_some_iff.1 hu).1
  have hd : j / size < L.length := Nat.div_lt_of_lt_mul (by rwa [Nat.mul_comm] at hj)
  obtain ⟨s, hs⟩ : ∃ s, L[j / size]? = some s := ⟨_, List.getElem?_eq_getElem hd⟩
  obtain ⟨us, hul, huc, hr⟩ := he (j / size) s hs
  have e := hR _ _ hr
  subst e
  have hm : j % size < size := Nat.mod_lt _ hpos
  have ej : j = j / size * size + j % size := by rw [Nat.mul_comm]; exact (Nat.div_add_mod j size).symm
  have h1 := rec_at hk hs (j % size) hm
  rw [← ej, hu] at h1
  have h2 := huc (j % size) u h1.symm
  rw [Nat.add_assoc, ← ej] at h2
  exact h2
end Go.Proofs.YtcmollfhlillfaaGreatDoor
