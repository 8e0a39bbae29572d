/-
  Texts of this seat in one: Rec.
-/
import Derived.Test.YtcmollfhlillfaaGreatDoorM3
import Derived.Handy
import Derived.Laws.CopyOwn
/-
  Rows of records: a list whose elements stand in memory as some cells each.
-/
namespace Go.Proofs.YtcmollfhlillfaaGreatDoor
open Go.RowKit
section
variable {α : Type} {enc : α → List Value} {k : Nat}
theorem rec_append (a b : List α) : (a ++ b).flatMap enc = a.flatMap enc ++ b.flatMap enc := List.flatMap_append ..
theorem rec_len (hk : ∀ x, (enc x).length = k) (L : List α) : (L.flatMap enc).length = L.length * k := by
  induction L with
  | nil => simp
  | cons y L ih =>
    rw [List.flatMap_cons, List.length_append, ih, hk, List.length_cons, Nat.add_mul, Nat.one_mul, Nat.add_comm]
theorem rec_at (hk : ∀ x, (enc x).length = k) {L : List α} {i : Nat} {x : α} (hx : L[i]? = some x) (j : Nat) (hj : j < k) : (L.flatMap enc)[i * k + j]? = (enc x)[j]? := by
  induction L generalizing i with
  | nil => simp at hx
  | cons y L ih =>
    rw [List.flatMap_cons]
    cases i with
    | zero =>
      simp at hx; subst hx
      rw [List.getElem?_append_left (by rw [hk]; omega)]; simp
    | succ i =>
      simp at hx
      rw [List.getElem?_append_right (by rw [hk, Nat.succ_mul]; omega), hk, show (i + 1) * k + j - k = i * k + j from by rw [Nat.succ_mul]; omega]
      exact ih hx
theorem rec_take (hk : ∀ x, (enc x).length = k) (L : List α) (i : Nat) : (L.flatMap enc).take (i * k) = (L.take i).flatMap enc := by
  rcases Nat.lt_or_ge i L.length with hi | hi
  · have h : L.flatMap enc = (L.take i).flatMap enc ++ (L.drop i).flatMap enc := by rw [← rec_append, List.take_append_drop]
    rw [h, List.take_left' (by rw [rec_len hk, List.length_take, Nat.min_eq_left (by omega)])]
  · rw [List.take_of_length_le (by rw [rec_len hk]; exact Nat.mul_le_mul_right _ hi), List.take_of_length_le hi]
theorem rec_drop (hk : ∀ x, (enc x).length = k) (L : List α) (i : Nat) : (L.flatMap enc).drop (i * k) = (L.drop i).flatMap enc := by
  rcases Nat.lt_or_ge i L.length with hi | hi
  · have h : L.flatMap enc = (L.take i).flatMap enc ++ (L.drop i).flatMap enc := by rw [← rec_append, List.take_append_drop]
    rw [h, List.drop_left' (by rw [rec_len hk, List.length_take, Nat.min_eq_left (by omega)])]
  · rw [List.drop_of_length_le (by rw [rec_len hk]; exact Nat.mul_le_mul_right _ hi), List.drop_of_length_le hi]; rfl
theorem rec_one (h1 : ∀ x, ∀ u ∈ enc x, u.oneCell' = true) (L : List α) : ∀ u ∈ L.flatMap enc, u.oneCell' = true := by
  intro u hu
  obtain ⟨x, _, hu⟩ := List.mem_flatMap.1 hu
  exact h1 x u hu
theorem rec_set (hk : ∀ x, (enc x).length = k) {L : List α} {i : Nat} (hi : i < L.length) (x : α) : (L.set i x).flatMap enc = (L.flatMap enc).take (i * k) ++ enc x ++ (L.flatMap enc).drop ((i + 1) * k) := by
  rw [rec_take hk, rec_drop hk, List.set_eq_take_append_cons_drop, if_pos hi, rec_append, List.flatMap_cons, List.append_assoc]
end
/-- A new block, its number given. -/
theorem Rd.newAt (w : World) (cs : Array Value) (t : TypeId) (n size b : Nat) (fz : Nat × Nat) (h : cs.size = n * size) (hb : b = w.heap.size) : Rd (w.alloc (.cells cs t fz)) size (some ⟨b, 0, none⟩) n cs.toList := by
  subst hb
  exact Rd.new w cs t n fz h
section
variable {w : World} {base : Nat} {e : TypeId} {size : Nat} {g n cap : Nat} {xs : List Value}
/-- A cell of an own row is written. -/
theorem own_setCell (ho : w.ownsRow base e size (.slice (some ⟨g, 0, none⟩) n cap) n xs) (j : Nat) (u : Value) :
    (w.setCell ⟨g, j, none⟩ u).ownsRow base e size (.slice (some ⟨g, 0, none⟩) n cap) n (xs.set j u) := by
  refine ⟨by rw [List.length_set]; exact ho.1, .inr ?_⟩
  rcases ho.2 with ⟨h, _⟩ | ⟨g', cap', cur, hv, hb, hh, hn, hm, hc, ht⟩
  · cases h
  · injection hv with h1 _ h3
    injection h1 with h1
    injection h1 with h1
    subst h1; subst h3
    have h2 := heap_setCell_same w g j _ _ u hh
    refine ⟨g, cap, _, rfl, hb, h2, hn, hm, by simpa using hc, ?_⟩
    rw [← ht]
    simp only [Array.toList_setIfInBounds, List.take_set]
end
end Go.Proofs.YtcmollfhlillfaaGreatDoor
