/-
  Plain facts: how many runs of one version there are, told by the versions alone.
-/
import Derived.Test.YtidlkomgondkiaaMarkMath
namespace Go.Proofs.Ytidlkomgondkiaa
open Go.RowKit
set_option linter.unusedVariables false
/-- A run of one version begins here. -/
def RunStart (V : ByteArray → Int) (x : ByteArray) : Prop := V x ≠ 0 ∧ ∀ y, y < x → ∃ z, y ≤ z ∧ z < x ∧ V z ≠ V x
/-- Two touch, and are of one version. -/
def touch (i k : Mk) : Bool := decide (i.1.2 = k.1.1 ∧ i.2 = k.2)
/-- Nothing of its version touches it from below. -/
def startB (P : List Mk) (k : Mk) : Bool := P.all fun i => !touch i k
theorem startB_iff {P : List Mk} {k : Mk} : startB P k = true ↔ ∀ i, i ∈ P → ¬ (i.1.2 = k.1.1 ∧ i.2 = k.2) := by
  unfold startB touch
  rw [List.all_eq_true]
  constructor
  · intro h i hi h2
    have h3 := h i hi
    rw [decide_eq_true h2] at h3
    cases h3
  · intro h i hi
    rw [decide_eq_false (h i hi)]; rfl
theorem Apart.two {P : List Mk} (h : Apart P) {j k : Mk} (hj : j ∈ P) (hk : k ∈ P) (hne : j ≠ k) (x : ByteArray) : ¬ (InS j.1 x ∧ InS k.1 x) := by
  induction P with
  | nil => cases hj
  | cons b P ih =>
    intro hx
    have hc := List.pairwise_cons.1 h.2
    rcases List.mem_cons.1 hj with e1 | hj2
    · rcases List.mem_cons.1 hk with e2 | hk2
      · exact hne (e1.trans e2.symm)
      · rw [e1] at hx; exact hc.1 k hk2 x hx.1 hx.2
    · rcases List.mem_cons.1 hk with e2 | hk2
      · rw [e2] at hx; exact hc.1 j hj2 x hx.2 hx.1
      · exact ih h.tail hj2 hk2 hx
theorem run_of_start {P : List Mk} (h : Apart P) {k : Mk} (hk : k ∈ P) (hs : startB P k = true) : RunStart (verL P) k.1.1 := by
  have hs := startB_iff.1 hs
  have hkk := h.1 k hk
  have hkv := h.ver hk (x := k.1.1) (by unfold InS; grind)
  refine ⟨by omega, fun y hy => ?_⟩
  obtain ⟨z, hz1, hz2⟩ := max_below (y :: P.map (fun j => j.1.2)) (x := k.1.1) (by have := empty_lo y; grind)
  have hyz : y ≤ z := by
    rcases hz2 y (List.mem_cons_self ..) with h1 | h1
    · exact h1
    · grind
  refine ⟨z, hyz, hz1, fun he => ?_⟩
  rw [hkv] at he
  obtain ⟨j, hj, hjz, e⟩ := h.pos (x := z) (by omega)
  have hz3 := hz2 j.1.2 (List.mem_cons_of_mem _ (List.mem_map.2 ⟨j, hj, rfl⟩))
  have hjz' := hjz
  unfold InS at hjz'
  have hlt : k.1.1 ≤ j.1.2 := by
    rcases hz3 with h1 | h1
    · grind
    · exact h1
  have hne : ¬ k.1.1 < j.1.2 := fun h1 => by
    have h2 := h.ver hj (x := k.1.1) (by unfold InS; grind)
    have : j.2 = k.2 := by omega
    by_cases hjk : j = k
    · subst hjk; grind
    · exact h.two hj hk hjk k.1.1 ⟨by unfold InS; grind, by unfold InS; grind⟩
  exact hs j hj ⟨by grind, by omega⟩
theorem start_of_run {P : List Mk} (h : Apart P) {x : ByteArray} (hx : RunStart (verL P) x) : ∃ k, k ∈ P ∧ k.1.1 = x ∧ startB P k = true := by
  obtain ⟨k, hk, hkx, e⟩ := h.pos hx.1
  have hkx' := hkx
  unfold InS at hkx'
  have e1 : k.1.1 = x := by
    by_cases hlt : k.1.1 < x
    · exfalso
      obtain ⟨z, h1, h2, h3⟩ := hx.2 _ hlt
      have := h.ver hk (x := z) (by unfold InS; grind)
      omega
    · grind
  refine ⟨k, hk, e1, startB_iff.2 fun i hi ⟨h1, h2⟩ => ?_⟩
  have hii := h.1 i hi
  obtain ⟨z, h3, h4, h5⟩ := hx.2 i.1.1 (by grind)
  have := h.ver hi (x := z) (by unfold InS; grind)
  omega
theorem nodup_length {α : Type} : ∀ {A B : List α}, A.Nodup → (∀ x, x ∈ A → x ∈ B) → A.length ≤ B.length := by
  intro A
  induction A with
  | nil => intro B _ _; exact Nat.zero_le _
  | cons a A ih =>
    intro B hA hB
    have hc := List.nodup_cons.1 hA
    obtain ⟨B1, B2, rfl⟩ := List.append_of_mem (hB a (List.mem_cons_self ..))
    have h1 : A.length ≤ (B1 ++ B2).length := ih hc.2 fun x hx => by
      have h2 := hB x (List.mem_cons_of_mem _ hx)
      rw [List.mem_append, List.mem_cons] at h2
      rw [List.mem_append]
      rcases h2 with h2 | rfl | h2
      · exact .inl h2
      · exact absurd hx hc.1
      · exact .inr h2
    rw [List.length_append] at h1
    rw [List.length_append, List.length_cons, List.length_cons]; omega
theorem apart_nodup {P : List Mk} (h : Apart P) : (P.map fun k => k.1.1).Nodup := by
  induction P with
  | nil => exact List.nodup_nil
  | cons k P ih =>
    rw [List.map_cons, List.nodup_cons]
    refine ⟨fun hm => ?_, ih h.tail⟩
    obtain ⟨j, hj, e⟩ := List.mem_map.1 hm
    have h1 := h.1 k (List.mem_cons_self ..)
    have h2 := h.1 j (List.mem_cons_of_mem _ hj)
    exact (List.pairwise_cons.1 h.2).1 j hj k.1.1 (by unfold InS; grind) (by unfold InS; grind)
/-- A cut makes one mark more at most. -/
theorem cut_len {L O : List Mk} {s : Spn} (h : CutM L s O) : O.length ≤ L.length + 1 := by
  have h1 := nodup_length (A := O.map fun k => k.1.1) (B := s.2 :: L.map fun k => k.1.1) (apart_nodup h.1.apart) fun x hx => by
    obtain ⟨o, ho, rfl⟩ := List.mem_map.1 hx
    rcases h.2.2.2 o ho with h2 | ⟨k, hk, h2⟩
    · rw [h2]; exact List.mem_cons_self ..
    · rw [h2]; exact List.mem_cons_of_mem _ (List.mem_map.2 ⟨k, hk, rfl⟩)
  simpa using h1
theorem nodup_filter_map {P : List Mk} (h : (P.map fun k => k.1.1).Nodup) (p : Mk → Bool) : ((P.filter p).map fun k => k.1.1).Nodup :=
  List.Nodup.sublist (List.Sublist.map _ (List.filter_sublist (l := P) (p := p))) h
/-- How many runs there are. -/
def runs (P : List Mk) : Nat := P.countP (startB P)
theorem runs_le {P Q : List Mk} (hP : Apart P) (hQ : Apart Q) (hv : ∀ x, verL P x = verL Q x) : runs P ≤ runs Q := by
  unfold runs
  rw [List.countP_eq_length_filter, List.countP_eq_length_filter]
  have h := nodup_length (A := (P.filter (startB P)).map fun k => k.1.1) (B := (Q.filter (startB Q)).map fun k => k.1.1) (nodup_filter_map (apart_nodup hP) _) fun x hx => by
    obtain ⟨k, hk, rfl⟩ := List.mem_map.1 hx
    have hk2 := List.mem_filter.1 hk
    have hr := run_of_start hP hk2.1 hk2.2
    have hr2 : RunStart (verL Q) k.1.1 := by
      refine ⟨by rw [← hv]; exact hr.1, fun y hy => ?_⟩
      obtain ⟨z, h1, h2, h3⟩ := hr.2 y hy
      exact ⟨z, h1, h2, by rw [← hv, ← hv]; exact h3⟩
    obtain ⟨j, hj, e, hs⟩ := start_of_run hQ hr2
    exact List.mem_map.2 ⟨j, List.mem_filter.2 ⟨hj, hs⟩, e⟩
  simpa using h
theorem runs_eq {P Q : List Mk} (hP : Apart P) (hQ : Apart Q) (hv : ∀ x, verL P x = verL Q x) : runs P = runs Q :=
  Nat.le_antisymm (runs_le hP hQ hv) (runs_le hQ hP fun x => (hv x).symm)
/-- The program's way: each mark is held against the one ahead. -/
theorem start_first {k : Mk} {L : List Mk} (h : Marked (k :: L)) : startB (k :: L) k = true := by
  refine startB_iff.2 fun i hi ⟨h1, _⟩ => ?_
  rcases List.mem_cons.1 hi with rfl | hi
  · have := h.1; grind
  · have h2 := h.2.2.1 i hi
    have h3 := (h.2.2.2.apart.1 i hi).1
    have h4 := h.1
    grind
theorem start_next {A B : List Mk} {j k : Mk} (h : Marked (A ++ j :: k :: B)) : startB (A ++ j :: k :: B) k = !touch j k := by
  have hm := Marked.append.1 h
  have hjk := hm.2.1
  cases ht : touch j k with
  | true =>
    rw [Bool.not_true, Bool.eq_false_iff]
    intro hs
    have := startB_iff.1 hs j (by simp)
    unfold touch at ht
    exact this (by simpa using ht)
  | false =>
    rw [Bool.not_false]
    refine startB_iff.2 fun i hi ⟨h1, h2⟩ => ?_
    have hkk := hjk.2.2.2.1
    have hjj := hjk.1
    have hjk1 := hjk.2.2.1 k (by simp)
    rcases List.mem_append.1 hi with hi | hi
    · have h3 := hm.2.2 i hi j (by simp)
      grind
    · rcases List.mem_cons.1 hi with rfl | hi
      · unfold touch at ht
        have : ¬ (i.1.2 = k.1.1 ∧ i.2 = k.2) := by simpa using ht
        exact this ⟨h1, h2⟩
      · rcases List.mem_cons.1 hi with rfl | hi
        · grind
        · have h4 := hjk.2.2.2.2.2.1 i hi
          have h5 := (hjk.2.2.2.2.2.2.apart.1 i hi).1
          grind
/-- The document's way: all, but for those that touch. -/
def touches (P Q : List Mk) : Nat := (P.map fun i => Q.countP fun k => touch i k).sum
theorem touches_nil (P : List Mk) : touches P [] = 0 := by
  unfold touches
  induction P with
  | nil => rfl
  | cons i P ih => rw [List.map_cons, List.sum_cons, ih]; rfl
theorem touches_cons (P Q : List Mk) (k : Mk) : touches P (k :: Q) = (P.countP fun i => touch i k) + touches P Q := by
  unfold touches
  induction P with
  | nil => rfl
  | cons i P ih =>
    rw [List.map_cons, List.sum_cons, List.map_cons, List.sum_cons, ih, List.countP_cons, List.countP_cons]
    omega
theorem touch_le {P : List Mk} (h : Apart P) {k : Mk} : (P.countP fun i => touch i k) ≤ 1 := by
  induction P with
  | nil => exact Nat.zero_le _
  | cons a P ih =>
    rw [List.countP_cons]
    have h1 := ih h.tail
    by_cases ha : touch a k = true
    · have : (P.countP fun i => touch i k) = 0 := by
        rw [List.countP_eq_zero]
        intro b hb hbk
        unfold touch at ha hbk
        have ha : a.1.2 = k.1.1 ∧ a.2 = k.2 := by simpa using ha
        have hb2 : b.1.2 = k.1.1 ∧ b.2 = k.2 := by simpa using hbk
        have haa := (h.1 a (List.mem_cons_self ..)).1
        have hbb := (h.1 b (List.mem_cons_of_mem _ hb)).1
        have hc := (List.pairwise_cons.1 h.2).1 b hb
        by_cases hab : a.1.1 ≤ b.1.1
        · exact hc b.1.1 (by unfold InS; grind) (by unfold InS; grind)
        · exact hc a.1.1 (by unfold InS; grind) (by unfold InS; grind)
      rw [this]; simp [ha]
    · rw [if_neg ha]; omega
theorem touches_runs {P : List Mk} (h : Apart P) : ∀ Q : List Mk, touches P Q + Q.countP (startB P) = Q.length := by
  intro Q
  induction Q with
  | nil => rw [touches_nil]; rfl
  | cons k Q ih =>
    rw [touches_cons, List.countP_cons, List.length_cons]
    have h1 := touch_le h (k := k)
    cases hs : startB P k with
    | true =>
      have : (P.countP fun i => touch i k) = 0 := by
        rw [List.countP_eq_zero]
        intro i hi hik
        unfold touch at hik
        exact startB_iff.1 hs i hi (by simpa using hik)
      simp only [if_true]; omega
    | false =>
      have : 0 < (P.countP fun i => touch i k) := by
        rw [List.countP_pos_iff]
        by_cases hx : ∃ i, i ∈ P ∧ touch i k = true
        · exact hx
        · exfalso
          rw [Bool.eq_false_iff] at hs
          exact hs (startB_iff.2 fun i hi h2 => hx ⟨i, hi, by unfold touch; simpa using h2⟩)
      simp only [Bool.false_eq_true, if_false]; omega
theorem runs_touches {P : List Mk} (h : Apart P) : (P.length : Int) - (touches P P : Int) = (runs P : Int) := by
  have := touches_runs h P
  unfold runs
  omega
end Go.Proofs.Ytidlkomgondkiaa
