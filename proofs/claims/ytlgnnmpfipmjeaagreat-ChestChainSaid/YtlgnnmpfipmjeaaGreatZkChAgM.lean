/-
  chest: a list of batches without changes, each behind the other.
-/
import Derived.Test.YtlgnnmpfipmjeaaGreatZkChK
namespace Go.Proofs.YtlgnnmpfipmjeaaGreat
open Go.RowKit
set_option linter.unusedVariables false
set_option linter.unusedSimpArgs false
def tp (a : Nat) : List UInt8 → Nat
  | [] => a
  | s :: r => tp (a + s.toNat + 1) r
def bvc (a : Nat) : List UInt8 → List BV
  | [] => []
  | s :: r => bv0 a (a + s.toNat + 1) 0 :: bvc (a + s.toNat + 1) r
theorem tp_snoc (s : UInt8) : ∀ (a : Nat) (l : List UInt8), tp a (l ++ [s]) = tp a l + s.toNat + 1
  | a, [] => rfl
  | a, x :: l => tp_snoc s _ l
theorem bvc_snoc (s : UInt8) : ∀ (a : Nat) (l : List UInt8), bvc a (l ++ [s]) = bvc a l ++ [bv0 (tp a l) (tp a l + s.toNat + 1) 0]
  | a, [] => rfl
  | a, x :: l => by
    show bv0 _ _ _ :: bvc _ (l ++ [s]) = _
    rw [bvc_snoc s _ l]; rfl
theorem bvc_len : ∀ (a : Nat) (l : List UInt8), (bvc a l).length = l.length
  | a, [] => rfl
  | a, x :: l => by show (bvc _ l).length + 1 = _; rw [bvc_len]; rfl
theorem tp_le : ∀ (a : Nat) (l : List UInt8), a ≤ tp a l ∧ tp a l ≤ a + 256 * l.length
  | a, [] => ⟨Nat.le_refl _, by simp [tp]⟩
  | a, x :: l => by
    have h := tp_le (a + x.toNat + 1) l
    have := x.toNat_lt
    have e : tp a (x :: l) = tp (a + x.toNat + 1) l := rfl
    rw [e, List.length_cons]; omega
theorem bvc_mem : ∀ {a : Nat} {l : List UInt8} {x : BV}, x ∈ bvc a l → ∃ p v, x = bv0 p v 0 ∧ a ≤ p ∧ p < v ∧ v ≤ tp a l
  | a, [], x, h => by cases h
  | a, s :: l, x, h => by
    rcases List.mem_cons.1 h with rfl | h
    · exact ⟨_, _, rfl, Nat.le_refl _, by omega, (tp_le _ l).1⟩
    · obtain ⟨p, v, h1, h2, h3, h4⟩ := bvc_mem h
      exact ⟨p, v, h1, by omega, h3, h4⟩
theorem bvc_chain : ∀ (a : Nat) (l : List UInt8), Chain a ((bvc a l).map BV.bp)
  | a, [] => trivial
  | a, s :: l => ⟨rfl, by show a < a + s.toNat + 1; omega, bvc_chain _ l⟩
theorem bvc_top (e b g k : Nat) (F : List BP) : ∀ (l : List UInt8) , LB.top ⟨e, b, g, k, F, (bvc g l).map BV.bp⟩ = tp g l := by
  intro l
  rcases List.eq_nil_or_concat l with rfl | ⟨l', s, rfl⟩
  · rfl
  · rw [List.concat_eq_append, bvc_snoc, tp_snoc]
    unfold LB.top
    simp only [List.map_append, List.map_cons, List.map_nil, List.getLast?_append, List.getLast?_singleton, Option.some_or]
    rfl
theorem next_top (e b g k p v : Nat) (F B : List BP) : LB.top ⟨e, b, g, k, F, B ++ [(bv0 p v 0).bp]⟩ = v := by
  unfold LB.top
  simp only [List.getLast?_append, List.getLast?_singleton, Option.some_or]
  rfl
theorem bvc_peek (a v : Nat) (l : List UInt8) (hv : tp a l < v) (h : l.length ≤ 10) : (peekB ((bvc a l).map BV.bp ++ [(bv0 (tp a l) v 0).bp]) a 100).length = l.length + 1 := by
  unfold peekB
  rw [List.filter_eq_self.2, List.take_of_length_le]
  · rw [List.length_append, List.length_map, bvc_len]; rfl
  · rw [List.length_append, List.length_map, bvc_len]; simp; omega
  · intro x hx
    rcases List.mem_append.1 hx with hx | hx
    · obtain ⟨y, hy, rfl⟩ := List.mem_map.1 hx
      obtain ⟨p, u, rfl, h1, h2, h3⟩ := bvc_mem hy
      exact decide_eq_true (show a < u by omega)
    · rw [List.mem_singleton] at hx
      subst hx
      have := (tp_le a l).1
      exact decide_eq_true (show a < v by omega)
theorem bvc_ok (w : World) {a : Nat} {l : List UInt8} (h : a ≤ 1000) (hl : l.length ≤ 30) : ∀ x ∈ bvc a l, BvOk w x ∧ BOk x.bp := by
  intro x hx
  obtain ⟨p, v, rfl, h1, h2, h3⟩ := bvc_mem hx
  have := (tp_le a l).2
  exact ⟨bv0_ok w (by omega) (by omega) (by omega), bv0_b (by omega) (by omega) (by omega)⟩
theorem bvc_at {a : Nat} {l : List UInt8} {k : Nat} (h : k < l.length) : ∃ x p v, (bvc a l)[k]? = some x ∧ x = bv0 p v 0 ∧ p < v ∧ v ≤ tp a l := by
  have hk : k < (bvc a l).length := by rw [bvc_len]; exact h
  obtain ⟨p, v, h1, h2, h3, h4⟩ := bvc_mem (List.getElem_mem hk)
  exact ⟨_, p, v, List.getElem?_eq_getElem hk, h1, h3, h4⟩
/-- A row that stands. -/
theorem Rd.stands {X : Nat → Prop} {w W : World} {size n : Nat} {A : Option Addr} {xs : List Value} (hr : Rd w size A n xs) (h : Stands X w W) (hX : ∀ a, A = some a → X a.block) : Rd W size A n xs := by
  refine ⟨hr.1, fun h0 => ?_⟩
  obtain ⟨b, o, rfl, hc⟩ := hr.2 h0
  exact ⟨b, o, rfl, fun j u hu => Stands.cell (hc j u hu) (hX _ rfl) W h⟩

end Go.Proofs.YtlgnnmpfipmjeaaGreat
