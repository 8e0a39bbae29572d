/-
  A sorted row of records, out of the library's contract of slices.SortFunc.
-/
import Derived.Test.YtinfeajbnhkkiaaCWords
import Derived.Shelf.SlSortCmp.WholeK
namespace Go.Proofs.Ytinfeajbnhkkiaa
open Go.RowKit Go.Sort
section
variable {α : Type} [Inhabited α] {enc : α → List Value} {k : Nat}
theorem get_bang {α : Type} [Inhabited α] (L : List α) {i : Nat} {x : α} (h : L[i]? = some x) : L.toArray[i]! = x := by
  have hi := (List.getElem?_eq_some_iff.1 h).1
  simp [hi] at h ⊢
  exact h
theorem flatK_list (hk : ∀ x, (enc x).length = k) (L : List α) : (flatK enc k L.toArray).toList = L.flatMap enc := by
  apply List.ext_getElem?
  intro t
  by_cases ht : t < L.length * k
  · have h0 : 0 < k := by
      rcases Nat.eq_zero_or_pos k with h | h
      · subst h; simp at ht
      · exact h
    have hi : t / k < L.length := (Nat.div_lt_iff_lt_mul h0).2 ht
    have hm : t % k < k := Nat.mod_lt _ h0
    have e := rec_at hk (L := L) (i := t / k) (List.getElem?_eq_getElem hi) (t % k) hm
    rw [show t / k * k + t % k = t from by rw [Nat.mul_comm]; exact Nat.div_add_mod t k] at e
    rw [e, Array.getElem?_toList, Array.getElem?_eq_getElem (by simpa using ht)]
    simp [flatK, hi]
    rw [List.getElem?_eq_getElem (by rw [hk]; exact hm)]; rfl
  · rw [List.getElem?_eq_none (by simpa using ht), List.getElem?_eq_none (by rw [rec_len hk]; omega)]
theorem holdsK_own {w : World} {base g n cap : Nat} {e : TypeId} (hk : ∀ x, (enc x).length = k) {L : List α} (ho : w.ownsRow base e k (.slice (some ⟨g, 0, none⟩) n cap) n (L.flatMap enc)) : HoldsK enc k w g 0 L.toArray := by
  intro j hj
  rw [size_flatK] at hj
  have hfl := flatK_list hk L
  have hget : (L.flatMap enc)[j]? = some ((flatK enc k L.toArray)[j]!) := by
    rw [← hfl, Array.getElem?_toList, Array.getElem?_eq_getElem (by simpa using hj), getElem!_pos _ j (by simpa using hj)]
  rcases ho.2 with ⟨h, _⟩ | ⟨g', cap', cur, hv, hb, hh, hn, hm, hc, ht⟩
  · cases h
  · injection hv with h1 _ h3
    injection h1 with h1
    injection h1 with h1
    subst h1
    rw [Nat.zero_add]
    refine ⟨?_, frozen_of_row _ _ j _ _ hh⟩
    rw [cell_of_row _ _ j _ _ _ hh]
    rw [← ht, List.getElem?_take] at hget
    split at hget
    · rw [← Array.getElem?_toList]; exact hget
    · cases hget
/-- What the sort leaves. -/
theorem sort_own {w w' : World} {base g cap : Nat} {e : TypeId} (hk : ∀ x, (enc x).length = k) {lt : α → α → Bool} {L : List α} (ho : w.ownsRow base e k (.slice (some ⟨g, 0, none⟩) L.length cap) L.length (L.flatMap enc))
    (h : ∃ d' n os, PermIn 0 L.toArray.size L.toArray d' ∧ SortedIn lt 0 L.toArray.size d' ∧ w' = sortWorldK enc k w g 0 n d' os) :
    ∃ L' : List α, L'.length = L.length ∧ L'.Perm L ∧ (∀ (i j : Nat) (x y : α), i < j → L'[i]? = some x → L'[j]? = some y → lt y x = false) ∧ w'.ownsRow base e k (.slice (some ⟨g, 0, none⟩) L.length cap) L.length (L'.flatMap enc) ∧ Below base w w' := by
  obtain ⟨d', n, os, ⟨hsz, _, hp⟩, hs, rfl⟩ := h
  have hsz' : d'.toList.length = L.length := by simpa using hsz
  have hperm : d'.toList.Perm L := by
    simp only [List.size_toArray] at hsz hp
    have e1 : d'.extract 0 L.length = d' := by rw [← hsz]; simp
    have e2 : L.toArray.extract 0 L.length = L.toArray := by simp
    rw [e1, e2] at hp
    simpa using hp
  rcases ho.2 with ⟨hx, _⟩ | ⟨g', cap', cur, hv, hb, hh, hn, hm, hc, ht⟩
  · cases hx
  · injection hv with h1 _ h3
    injection h1 with h1
    injection h1 with h1
    subst h1; subst h3
    have hlt : g < w.heap.size := by
      rcases Nat.lt_or_ge g w.heap.size with hlt | hge
      · exact hlt
      · rw [Array.getElem?_eq_none hge] at hh; cases hh
    have hpd : (flatK enc k d').toList = d'.toList.flatMap enc := by
      have := flatK_list hk d'.toList
      simpa using this
    have hnew : (sortWorldK enc k w g 0 n d' os).heap[g]? = some (.cells (putCells id 0 (flatK enc k d') cur) e (0, 0)) := by
      unfold sortWorldK putRowK putRow
      rw [heap_grow_old _ _ (by simpa [mapBlock] using hlt)]
      simp only [mapBlock, Array.getElem?_modify, if_true]
      show Option.map _ w.heap[g]? = _
      rw [hh]; rfl
    refine ⟨d'.toList, hsz', hperm, fun i j x y hij hx hy => ?_, ⟨by rw [rec_len hk, hsz'], .inr ⟨g, cap, _, rfl, hb, hnew, hn, hm, by simpa [putCells] using hc, ?_⟩⟩, ?_⟩
    · have hj := (List.getElem?_eq_some_iff.1 hy).1
      have := hs i j (Nat.zero_le _) hij (by simp; omega)
      have ex : d'[i]! = x := by have := get_bang d'.toList hx; simpa using this
      have ey : d'[j]! = y := by have := get_bang d'.toList hy; simpa using this
      rw [ex, ey] at this
      exact this
    · rw [← hpd]
      have hfs : (flatK enc k d').size = L.length * k := by
        rw [size_flatK]; congr 1
      have hle : L.length * k ≤ cur.size := by rw [hc]; exact Nat.mul_le_mul_right _ hn
      apply List.ext_getElem?
      intro t
      rw [List.getElem?_take]
      by_cases htl : t < L.length * k
      · rw [if_pos htl, Array.getElem?_toList, Array.getElem?_toList, Array.getElem?_eq_getElem (by simp [putCells]; omega), Array.getElem?_eq_getElem (by rw [hfs]; exact htl)]
        simp [putCells, hfs, htl]
      · rw [if_neg htl, Array.getElem?_toList, Array.getElem?_eq_none (by rw [hfs]; omega)]
    · unfold sortWorldK putRowK putRow
      refine ⟨rfl, rfl, rfl, by simp [grow, mapBlock], fun b hbk => ?_⟩
      rw [heap_grow_old _ _ (by simp [mapBlock]; exact Nat.lt_of_lt_of_le hbk (Nat.le_trans hb (Nat.le_of_lt hlt)))]
      simp only [mapBlock, Array.getElem?_modify]
      rw [if_neg (by omega)]; rfl
end
end Go.Proofs.Ytinfeajbnhkkiaa
