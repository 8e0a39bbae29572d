/-
  How spans come in as arguments; plain facts on texts.
-/
import Derived.Test.YtidlkomgondkiaaKJoin
import Derived.Test.YtidlkomgondkiaaKFrame
import Derived.Test.YtidlkomgondkiaaG6
import Derived.Lib.SmallJoins
namespace Go.Proofs.Ytidlkomgondkiaa
open Go.ChangeShapes Go.WideShapes Go.ChangeAt Go.RowKit
set_option linter.unusedVariables false
set_option linter.unusedSimpArgs false
set_option maxRecDepth 20000
theorem slt_snoc0 (l : List UInt8) : l < l ++ [0] := by
  induction l with
  | nil => exact List.nil_lt_cons _ _
  | cons a l ih => rw [List.cons_append, List.cons_lt_cons_iff]; exact .inr ⟨rfl, ih⟩
theorem sno_between : ∀ (l m : List UInt8), l < m → ¬ m < l ++ [0]
  | [], [], h => by simp at h
  | [], b :: m, _ => by
    rw [List.nil_append, List.cons_lt_cons_iff]
    rintro (h | ⟨_, h⟩)
    · have := UInt8.toNat_lt b; simp [UInt8.lt_iff_toNat_lt] at h
    · simp at h
  | a :: l, [], h => by simp at h
  | a :: l, b :: m, h => by
    rw [List.cons_append, List.cons_lt_cons_iff]
    rw [List.cons_lt_cons_iff] at h
    rintro (h2 | ⟨rfl, h2⟩)
    · rcases h with h | ⟨rfl, _⟩
      · rw [UInt8.lt_iff_toNat_lt] at h h2; omega
      · rw [UInt8.lt_iff_toNat_lt] at h2; omega
    · rcases h with h | ⟨_, h⟩
      · rw [UInt8.lt_iff_toNat_lt] at h; omega
      · exact sno_between l m h h2
/-- what begins with l ++ [c] lies below l ++ [c + 1] -/
theorem pre_lt : ∀ (l : List UInt8) (c : UInt8) (m : List UInt8), c ≠ 255 → l ++ c :: m < l ++ [c + 1]
  | [], c, m, h => by
    rw [List.nil_append, List.nil_append, List.cons_lt_cons_iff]
    left
    have hc : c.toNat ≠ 255 := fun h2 => h (UInt8.toNat_inj.1 (by simpa using h2))
    have hl := c.toNat_lt
    rw [UInt8.lt_iff_toNat_lt, UInt8.toNat_add]
    show c.toNat < (c.toNat + 1) % 256
    omega
  | a :: l, c, m, h => by
    rw [List.cons_append, List.cons_append, List.cons_lt_cons_iff]
    exact .inr ⟨rfl, pre_lt l c m h⟩
theorem snext_lt (s : ByteArray) : s < s ++ ⟨#[0]⟩ := by
  show s.data.toList < (s ++ ⟨#[0]⟩ : ByteArray).data.toList
  rw [ByteArray.toList_data_append]; exact slt_snoc0 _
theorem snext_gap (s o : ByteArray) (h : s < o) : s ++ ⟨#[0]⟩ ≤ o := by
  have h1 : ¬ o < s ++ ⟨#[0]⟩ := by
    show ¬ o.data.toList < (s ++ ⟨#[0]⟩ : ByteArray).data.toList
    rw [ByteArray.toList_data_append]; exact sno_between _ _ h
  grind
section
variable {H : Type} {enc : TypeId × Value → H} {W : World} {b base : Nat} {held : Bool} {r : Reach}
theorem open_span {v : Value} {d : DataW H} {p : List MemPlace} (hv : Value.okWide Try.prog W r base 24 v) (h : DataW.Trod enc Try.prog W b (fun _ => true) held 24 v d p) :
    ∃ s : Spn, v = .agg #[.string s.1, .string s.2] ∧ s.1.size ≤ maxLen ∧ s.2.size ≤ maxLen := by
  obtain ⟨c0, c1, y0, y1, m, rfl, rfl, rfl, hy0, hy1⟩ := Joins.open_agg2 Try.underlying24 (by kernel_rfl) (by kernel_rfl) hv h
  obtain ⟨s0, e0, rfl, w0⟩ := DataW.trod_string Try.underlying9 hy0
  obtain ⟨s1, e1, rfl, w1⟩ := DataW.trod_string Try.underlying9 hy1
  simp at e0 e1
  subst e0 e1
  exact ⟨(s0, s1), rfl, w0, w1⟩
theorem opens_spans : Opens enc Try.prog 29 (SliceSh 2 (fun w cs (a : ByteArray × ByteArray) => ∃ u0 u1, cs = [u0, u1] ∧ StringSh w [u0] a.1 ∧ StringSh w [u1] a.2)) (sumM fun a => a.1.size + a.2.size + 2) :=
  opens_slice (size := 2) Try.underlying29 (by kernel_rfl) (by omega) (opens_struct2 Try.underlying24 (by kernel_rfl) ⟨rfl, rfl⟩ ⟨by kernel_rfl, by kernel_rfl⟩ (opens_string Try.underlying9) (opens_string Try.underlying9))
theorem open_spans {v : Value} {d : DataW H} {p : List MemPlace} (hv : Value.okWide Try.prog W r base 29 v) (h : DataW.Trod enc Try.prog W b (fun _ => true) held 29 v d p) :
    ∃ (A : Option Addr) (c : Nat) (L : List Spn), v = .slice A L.length c ∧ L.length ≤ c ∧ c ≤ maxLen ∧ (A = none → L.length = 0) ∧ Rd W 2 A L.length (srow L) := by
  obtain ⟨L, hL, _⟩ := open_sh opens_spans Try.underlying29 hv h
  obtain ⟨A, c, hv', hlc, hcm, hA, hx⟩ := hL
  injection hv' with hv'
  subst hv'
  refine ⟨A, c, L, rfl, hlc, hcm, hA, srow_len L, fun h0 => ?_⟩
  have h0' : 0 < L.length := by rw [srow_len] at h0; omega
  obtain ⟨bb, o, rfl, he⟩ := hx h0'
  refine ⟨bb, o, rfl, fun j u hu => ?_⟩
  have hj : j < L.length * 2 := by rw [← srow_len]; exact (List.getElem?_eq_some_iff.1 hu).1
  obtain ⟨s, hs⟩ : ∃ s, L[j / 2]? = some s := ⟨_, List.getElem?_eq_getElem (by omega)⟩
  obtain ⟨us, hul, huc, u0, u1, rfl, ⟨e0, _⟩, ⟨e1, _⟩⟩ := he (j / 2) s hs
  injection e0 with e0
  injection e1 with e1
  subst e0 e1
  rcases Nat.mod_two_eq_zero_or_one j with hm | hm
  · have e : j = j / 2 * 2 := by omega
    have h1 := srow_fst hs
    rw [← e, hu] at h1
    injection h1 with h1
    subst h1
    have := huc 0 _ rfl
    rw [Nat.add_zero, ← e] at this
    exact this
  · have e : j = j / 2 * 2 + 1 := by omega
    have h1 := srow_snd hs
    rw [← e, hu] at h1
    injection h1 with h1
    subst h1
    have := huc 1 _ rfl
    rw [Nat.add_assoc, ← e] at this
    exact this
end
end Go.Proofs.Ytidlkomgondkiaa
