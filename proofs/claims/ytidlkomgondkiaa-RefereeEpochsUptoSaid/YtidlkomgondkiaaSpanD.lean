/-
  DeleteFunc and SortFunc at spans, nil let in.
-/
import Derived.Test.YtidlkomgondkiaaSpanC
import Derived.Shelf.SlSortCmp.NoneTotal
namespace Go.Proofs.Ytidlkomgondkiaa
open Go.RowKit
set_option linter.unusedVariables false
set_option linter.unusedSimpArgs false
theorem sown_cases {w : World} {base n size c : Nat} {e : TypeId} {A : Option Addr} {xs : List Value} (h : w.ownsRow base e size (.slice A n c) n xs) : (A = none ∧ n = 0 ∧ c = 0 ∧ xs = []) ∨ ∃ g, A = some ⟨g, 0, none⟩ := by
  rcases h.2 with ⟨hv, h0⟩ | ⟨g, cap, cur, hv, _⟩
  · injection hv with h1 h2 h3
    exact .inl ⟨h1, h2, h3, List.eq_nil_of_length_eq_zero (by rw [h.1, h0, Nat.zero_mul])⟩
  · injection hv with h1
    exact .inr ⟨g, h1⟩
theorem srow_nil {L : List Spn} (h : L.length = 0) : srow L = [] := by rw [List.eq_nil_of_length_eq_zero h]; rfl
set_option maxHeartbeats 400000 in
theorem delete_nil (w : World) : Calls Try.prog 66 #[.slice none 0 0, .func (.func 42) #[] #[]] w fun e w' => e = .returned (.slice none 0 0) ∧ Below w.heap.size w w' := by
  have hidx := hide_ (index_any (w := w) (A := none) (n := 0) (c := 0) (L := []) (Rd.nil _ _ _) rfl (by omega))
  go_enter Try.func66, Try.ntmps66
  go_wp2_with fail
  refine (hidx.out).mono ?_; rintro e w1 ⟨⟨i, rfl, hi⟩, hb1⟩
  rcases hi with ⟨rfl, _⟩ | ⟨k, rfl, _, s0, hs0, _⟩
  · have HB1 := hide_ hb1
    clear hb1
    go_wp2_with fail
    go_ret
    exact ⟨rfl, HB1.out⟩
  · simp at hs0
/-- DeleteFunc(.., Empty) of a slice of the call's own. -/
theorem sdelete_all {w : World} {B n c : Nat} {A : Option Addr} {L : List Spn} (ho : w.ownsRow B 24 2 (.slice A n c) n (srow L)) (hl : L.length = n) (hn : n ≤ 4398046511104) (hBw : B ≤ w.heap.size) :
    Calls Try.prog 66 #[.slice A n c, .func (.func 42) #[] #[]] w fun e w' =>
      (∃ (A' : Option Addr) (m c' : Nat) (M : List Spn), e = .returned (.slice A' m c') ∧ M = L.filter ne_ ∧ M.length = m ∧ w'.ownsRow B 24 2 (.slice A' m c') m (srow M)) ∧ Below B w w' := by
  rcases sown_cases ho with ⟨rfl, rfl, rfl, _⟩ | ⟨g, rfl⟩
  · obtain rfl : L = [] := List.eq_nil_of_length_eq_zero hl
    exact (delete_nil w).mono fun e w' ⟨he, hb⟩ => ⟨⟨none, 0, 0, [], he, rfl, rfl, World.ownsRow_nil _ _ _ _⟩, hb.mono hBw⟩
  · exact (delete_any ho hl hn hBw).mono fun e w' ⟨⟨m, he, hm, h⟩, hb⟩ => ⟨⟨_, m, c, _, he, rfl, hm, h⟩, hb⟩
/-- SortFunc of a slice of the call's own. -/
theorem sort_all {w : World} {B n c : Nat} {A : Option Addr} {L : List Spn} (ho : w.ownsRow B 24 2 (.slice A n c) n (srow L)) (hl : L.length = n) (hn : n ≤ 4398046511104) :
    Calls Try.prog 68 #[.slice A n c, .func (.func 69) #[] #[]] w fun e w' => e = .returned (.tuple #[]) ∧
      (∃ L' : List Spn, L'.length = n ∧ L'.Perm L ∧ (∀ (i j : Nat) (x y : Spn), i < j → L'[i]? = some x → L'[j]? = some y → x.1 ≤ y.1) ∧ w'.ownsRow B 24 2 (.slice A n c) n (srow L')) ∧ Below B w w' := by
  rcases sown_cases ho with ⟨rfl, rfl, rfl, _⟩ | ⟨g, rfl⟩
  · obtain rfl : L = [] := List.eq_nil_of_length_eq_zero hl
    have hcon := AnyF.slices_SortFunc_none sortSpans none 0 (.func (.func 69) #[] #[]) w
    change Calls Try.prog 68 _ w _ at hcon
    refine hcon.mono fun e w' ⟨he, hw⟩ => ?_
    subst hw
    exact ⟨he, ⟨[], rfl, List.Perm.refl _, fun i j x y _ hx => by simp at hx, ho⟩, Below.refl _ _⟩
  · subst hl
    exact (sort_any ho (by omega)).mono fun e w' ⟨he, L', h1, h2, h3, h4, h5⟩ => ⟨he, ⟨L', h1, h2, h3, h4⟩, h5⟩
/-- Sorted, and each holds a key. -/
theorem rising_of {L : List Spn} (h : ∀ (i j : Nat) (x y : Spn), i < j → L[i]? = some x → L[j]? = some y → x.1 ≤ y.1) (hn : ∀ x, x ∈ L → x.1 < x.2) : Rising L := by
  induction L with
  | nil => exact trivial
  | cons a L ih =>
    refine ⟨hn a (by simp), fun t ht => ?_, ih (fun i j x y hij hx hy => h (i + 1) (j + 1) x y (by omega) (by simpa using hx) (by simpa using hy)) fun x hx => hn x (by simp [hx])⟩
    obtain ⟨j, hj⟩ := List.getElem?_of_mem ht
    exact h 0 (j + 1) a t (by omega) rfl (by simpa using hj)
theorem inl_perm {L M : List Spn} (h : L.Perm M) (k : ByteArray) : InL L k ↔ InL M k := by
  unfold InL
  constructor
  · rintro ⟨s, hs, hk⟩; exact ⟨s, h.mem_iff.1 hs, hk⟩
  · rintro ⟨s, hs, hk⟩; exact ⟨s, h.mem_iff.2 hs, hk⟩
theorem inl_filter (L : List Spn) (k : ByteArray) : InL (L.filter ne_) k ↔ InL L k := by
  unfold InL
  constructor
  · rintro ⟨s, hs, hk⟩; exact ⟨s, (List.mem_filter.1 hs).1, hk⟩
  · rintro ⟨s, hs, hk⟩
    refine ⟨s, List.mem_filter.2 ⟨hs, ?_⟩, hk⟩
    have h1 := hk.1
    have h2 := hk.2
    simp [ne_]
    grind
end Go.Proofs.Ytidlkomgondkiaa
