/-
  tale.Act: the words of a line; sizes.
-/
import Derived.Test.YtjkopohmcabfjaaGreatDoorTActA
import Derived.Lib.AtoiAllCases
namespace Go.Proofs.YtjkopohmcabfjaaGreatDoor
open Go.RowKit
set_option linter.unusedVariables false
set_option linter.unusedSimpArgs false
theorem strV_of (s : ByteArray) : Value.string s = strV s.data.toList := rfl
theorem splitK_mem (sep : List UInt8) : ∀ (k : Nat) (s x : List UInt8), x ∈ Lib.splitK sep 0 k s → x.length ≤ s.length
  | 0, s, x, h => by
    have : x = s := by simpa [Lib.splitK] using h
    rw [this]; exact Nat.le_refl _
  | k + 1, s, x, h => by
    unfold Lib.splitK at h
    split at h
    · have : x = s := by simpa using h
      rw [this]; exact Nat.le_refl _
    · rcases List.mem_cons.1 h with rfl | h
      · rw [List.length_take]; omega
      · have := splitK_mem sep k _ x h
        rw [List.length_drop] at this; omega
theorem words_mem {l x : List UInt8} (h : x ∈ wordsOf l) : x.length ≤ l.length := by
  rw [wordsOf_eq] at h; exact splitK_mem _ _ _ _ h
theorem words_size (l : List UInt8) : (wordsOf l).length = Lib.countB ⟨l.toArray⟩ ⟨#[32]⟩ + 1 := by
  unfold wordsOf
  rw [List.length_map]; exact Lib.splitB_all ⟨#[32]⟩ (by decide) 0 _ _ rfl
theorem words_size_le (l : List UInt8) : (wordsOf l).length ≤ l.length + 1 := by
  rw [words_size]
  have := Lib.countB_le ⟨#[32]⟩ (by decide) l.length ⟨l.toArray⟩ (Nat.le_of_eq rfl)
  have e : (⟨l.toArray⟩ : ByteArray).size = l.length := rfl
  omega
theorem split_any {B : Nat} {w : World} (h : Env B w) (l : List UInt8) (hl : l.length ≤ 1073741824) :
    Calls Tryz.prog 7 #[.string ⟨l.toArray⟩, .string ⟨#[32]⟩] w fun e w' => e = .returned (.slice (some ⟨w.heap.size, 0, none⟩) (wordsOf l).length (wordsOf l).length) ∧ w' = w.alloc (.cells ((wordsOf l).map strV).toArray 9) := by
  obtain ⟨m, _, hm⟩ := h.most
  have hs := Tryz.strings_Split ⟨l.toArray⟩ ⟨#[32]⟩ m w (by show l.toArray.size < _; simp; omega) hm (by decide)
  have e2 : (Lib.splitB ⟨#[32]⟩ 0 (Lib.countB ⟨l.toArray⟩ ⟨#[32]⟩) ⟨l.toArray⟩).map Value.string = (wordsOf l).map strV := by
    unfold wordsOf; rw [List.map_map]; rfl
  rw [e2] at hs
  refine hs.mono ?_
  rintro e w' ⟨rfl, rfl⟩
  refine ⟨?_, rfl⟩
  rw [words_size]
theorem unq_len : ∀ (k : Nat) (r x : List UInt8), unq k r = some x → x.length ≤ r.length
  | k, [], x, h => by
    have : x = [] := by cases k <;> (simp [unq] at h; exact h)
    simp [this]
  | 0, _ :: _, x, h => by simp [unq] at h
  | k + 1, b :: r, x, h => by
    simp only [unq] at h
    split at h
    · rw [Option.map_eq_some_iff] at h
      obtain ⟨y, hy, rfl⟩ := h
      have := unq_len k r y hy
      simp; omega
    · split at h
      · cases h
      · split at h
        · rw [Option.map_eq_some_iff] at h
          obtain ⟨y, hy, rfl⟩ := h
          have := unq_len k _ y hy
          rw [List.length_drop] at this
          simp; omega
        · cases h
theorem unquoteV_len (l : List UInt8) : (unquoteV l).1.length ≤ l.length := by
  unfold unquoteV
  split
  · split
    · rename_i r _ x hx
      have := unq_len _ _ _ hx
      simp; omega
    · simp
  · simp
structure AV.Small (x : AV) (m : Nat) : Prop where
  a : -9223372036854775808 ≤ x.a ∧ x.a ≤ 9223372036854775807
  b : -9223372036854775808 ≤ x.b ∧ x.b ≤ 9223372036854775807
  n : -9223372036854775808 ≤ x.n ∧ x.n ≤ 9223372036854775807
  key : x.key.length ≤ m
  val : x.val.length ≤ m
theorem putP_small {x y : AV} {m : Nat} {c : UInt8} {w : List UInt8} (hx : x.Small m) (hw : w.length ≤ m) (h : putP x c w = some y) : y.Small m := by
  have hu := unquoteV_len w
  unfold putP at h
  split at h
  · split at h
    · injection h with h; subst h
      exact ⟨hx.a, hx.b, hx.n, by show (unquoteV w).1.length ≤ m; omega, hx.val⟩
    · cases h
  · split at h
    · split at h
      · injection h with h; subst h
        exact ⟨hx.a, hx.b, hx.n, hx.key, by show (unquoteV w).1.length ≤ m; omega⟩
      · cases h
    · split at h
      · rename_i v hv
        have hb := Lib.atoiAll_bounds hv
        injection h with h
        split at h
        · subst h; exact ⟨hb, hx.b, hx.n, hx.key, hx.val⟩
        · split at h
          · subst h; exact ⟨hx.a, hb, hx.n, hx.key, hx.val⟩
          · subst h; exact ⟨hx.a, hx.b, hb, hx.key, hx.val⟩
      · cases h
theorem putP_kind {x y : AV} {c : UInt8} {w : List UInt8} (h : putP x c w = some y) : y.kind = x.kind := by
  unfold putP at h
  split at h
  · split at h
    · injection h with h; subst h; rfl
    · cases h
  · split at h
    · split at h
      · injection h with h; subst h; rfl
      · cases h
    · split at h
      · injection h with h
        split at h
        · subst h; rfl
        · split at h <;> (subst h; rfl)
      · cases h
theorem putAll_drop {x : AV} {Pt : List UInt8} {ws : List (List UInt8)} {i : Nat} {c : UInt8} (hc : Pt[i]? = some c) {u : List UInt8} (hu : ws[i]? = some u) : putAll x (Pt.drop i) (ws.drop i) = match putP x c u with
    | some y => putAll y (Pt.drop (i + 1)) (ws.drop (i + 1))
    | none => none := by
  have h1 := (List.getElem?_eq_some_iff.1 hc)
  have h2 := (List.getElem?_eq_some_iff.1 hu)
  obtain ⟨p1, p2⟩ := h1
  obtain ⟨q1, q2⟩ := h2
  rw [List.drop_eq_getElem_cons p1, List.drop_eq_getElem_cons q1, p2, q2]
  rfl
theorem idxOf_lt (p : List UInt8 → Bool) (l : List (List UInt8)) : idxOf p l < l.length := by
  induction l with
  | nil => show (-1 : Int) < ((0 : Nat) : Int); decide
  | cons x r ih =>
    unfold idxOf
    rw [List.length_cons]
    split
    · omega
    · split
      · omega
      · omega
theorem kind_ne0 (w0 : List UInt8) : idxOf (testW w0) kindsT ≠ 0 := by
  have e : testW w0 [] = false := by unfold testW; rfl
  show idxOf (testW w0) ([] :: kindsT.tail) ≠ 0
  unfold idxOf
  rw [e, if_neg (by decide)]
  have := idxOf_ge (testW w0) kindsT.tail
  split <;> omega

end Go.Proofs.YtjkopohmcabfjaaGreatDoor
