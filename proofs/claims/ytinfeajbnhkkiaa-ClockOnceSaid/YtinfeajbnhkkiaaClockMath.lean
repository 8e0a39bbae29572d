/-
  Plain facts on bells: a list by rising times, of equal ones by rising numbers.
-/
import Derived.Lib.Hide
namespace Go.Proofs.Ytinfeajbnhkkiaa
/-- A bell's number, and its time. -/
abbrev Bel := Int × Int
def bless (x y : Bel) : Prop := x.2 < y.2 ∨ x.2 = y.2 ∧ x.1 < y.1
instance (x y : Bel) : Decidable (bless x y) := by unfold bless; infer_instance
theorem bless_trans {x y z : Bel} (h : bless x y) (k : bless y z) : bless x z := by unfold bless at *; omega
theorem bless_irrefl (x : Bel) : ¬ bless x x := by unfold bless; omega
theorem bless_total {x y : Bel} (h : x ≠ y) : bless x y ∨ bless y x := by
  unfold bless
  by_cases h1 : x.2 = y.2
  · have : x.1 ≠ y.1 := fun e => h (Prod.ext e h1)
    omega
  · omega
structure Bells (L : List Bel) : Prop where
  sorted : L.Pairwise bless
  apart : ∀ x y, x ∈ L → y ∈ L → x.1 = y.1 → x = y
  range : ∀ x, x ∈ L → 0 ≤ x.1 ∧ x.1 < 4096
theorem Bells.nil : Bells [] := ⟨List.Pairwise.nil, fun x y h => (by cases h), fun x h => (by cases h)⟩
theorem Bells.sub {L M : List Bel} (h : Bells L) (hs : M.Sublist L) : Bells M := ⟨h.sorted.sublist hs, fun x y hx hy => h.apart x y (hs.subset hx) (hs.subset hy), fun x hx => h.range x (hs.subset hx)⟩
/-- Two rows in order of the same bells are one. -/
theorem sorted_same : ∀ {L M : List Bel}, L.Pairwise bless → M.Pairwise bless → (∀ x, x ∈ L ↔ x ∈ M) → L = M
  | [], [], _, _, _ => rfl
  | [], y :: M, _, _, h => by have := (h y).2 (List.mem_cons_self ..); cases this
  | x :: L, [], _, _, h => by have := (h x).1 (List.mem_cons_self ..); cases this
  | x :: L, y :: M, h1, h2, h => by
    obtain ⟨h3, h4⟩ := List.pairwise_cons.1 h1
    obtain ⟨h5, h6⟩ := List.pairwise_cons.1 h2
    have hxy : x = y := by
      rcases List.mem_cons.1 ((h x).1 (List.mem_cons_self ..)) with e | e
      · exact e
      · rcases List.mem_cons.1 ((h y).2 (List.mem_cons_self ..)) with e2 | e2
        · exact e2.symm
        · exact absurd (bless_trans (h3 y e2) (h5 x e)) (bless_irrefl x)
    subst hxy
    congr 1
    refine sorted_same h4 h6 fun z => ?_
    have hz := h z
    rw [List.mem_cons, List.mem_cons] at hz
    constructor
    · intro hL
      rcases hz.1 (.inr hL) with e | e
      · subst e; exact absurd (h3 z hL) (bless_irrefl z)
      · exact e
    · intro hM
      rcases hz.2 (.inr hM) with e | e
      · subst e; exact absurd (h5 z hM) (bless_irrefl z)
      · exact e
/-- A bell laid in its place. -/
def insB (x : Bel) : List Bel → List Bel
  | [] => [x]
  | y :: L => if bless y x then y :: insB x L else x :: y :: L
theorem mem_insB {x y : Bel} : ∀ {L : List Bel}, y ∈ insB x L ↔ y = x ∨ y ∈ L
  | [] => by simp [insB]
  | z :: L => by
    unfold insB
    split
    · rw [List.mem_cons, mem_insB, List.mem_cons]
      constructor
      · rintro (h | h | h)
        · exact .inr (.inl h)
        · exact .inl h
        · exact .inr (.inr h)
      · rintro (h | h | h)
        · exact .inr (.inl h)
        · exact .inl h
        · exact .inr (.inr h)
    · simp
theorem insB_sorted {x : Bel} : ∀ {L : List Bel}, L.Pairwise bless → x ∉ L → (insB x L).Pairwise bless
  | [], _, _ => by simp [insB]
  | y :: L, h, hx => by
    obtain ⟨h1, h2⟩ := List.pairwise_cons.1 h
    unfold insB
    split
    · rename_i hy
      refine List.pairwise_cons.2 ⟨fun z hz => ?_, insB_sorted h2 (fun h => hx (List.mem_cons_of_mem _ h))⟩
      rcases mem_insB.1 hz with rfl | hz
      · exact hy
      · exact h1 z hz
    · rename_i hy
      have hxy : bless x y := (bless_total (fun e => hx (by rw [e]; exact List.mem_cons_self ..))).resolve_right hy
      refine List.pairwise_cons.2 ⟨fun z hz => ?_, h⟩
      rcases List.mem_cons.1 hz with rfl | hz
      · exact hxy
      · exact bless_trans hxy (h1 z hz)
/-- Where it is laid: behind all that are ahead of it. -/
theorem insB_split (x : Bel) : ∀ (L : List Bel), insB x L = L.takeWhile (fun y => decide (bless y x)) ++ x :: L.dropWhile (fun y => decide (bless y x))
  | [] => rfl
  | y :: L => by
    unfold insB
    split
    · rename_i h; rw [List.takeWhile_cons_of_pos (by simpa using h), List.dropWhile_cons_of_pos (by simpa using h), insB_split x L]; rfl
    · rename_i h; rw [List.takeWhile_cons_of_neg (by simpa using h), List.dropWhile_cons_of_neg (by simpa using h)]; rfl
/-- All bells but one. -/
def butB (b : Int) (L : List Bel) : List Bel := L.filter fun x => x.1 != b
theorem mem_butB {b : Int} {x : Bel} {L : List Bel} : x ∈ butB b L ↔ x ∈ L ∧ x.1 ≠ b := by simp [butB]
theorem Bells.but {L : List Bel} (h : Bells L) (b : Int) : Bells (butB b L) := h.sub List.filter_sublist
def setB (b at_ : Int) (L : List Bel) : List Bel := insB (b, at_) (butB b L)
theorem mem_setB {b at_ : Int} {x : Bel} {L : List Bel} : x ∈ setB b at_ L ↔ x = (b, at_) ∨ x ∈ L ∧ x.1 ≠ b := by rw [setB, mem_insB, mem_butB]
theorem Bells.set {L : List Bel} (h : Bells L) {b at_ : Int} (h0 : 0 ≤ b) (h1 : b < 4096) : Bells (setB b at_ L) := by
  refine ⟨insB_sorted (h.but b).sorted fun hx => (mem_butB.1 hx).2 rfl, fun x y hx hy e => ?_, fun x hx => ?_⟩
  · rcases mem_setB.1 hx with rfl | ⟨hx, hx2⟩
    · rcases mem_setB.1 hy with rfl | ⟨hy, hy2⟩
      · rfl
      · exact absurd e.symm hy2
    · rcases mem_setB.1 hy with rfl | ⟨hy, hy2⟩
      · exact absurd e hx2
      · exact h.apart x y hx hy e
  · rcases mem_setB.1 hx with rfl | ⟨hx, _⟩
    · exact ⟨h0, h1⟩
    · exact h.range x hx
/-- The bells that ring up to a time, and the rest. -/
def dueB (t : Int) (L : List Bel) : List Bel := L.takeWhile fun x => decide (x.2 ≤ t)
def restB (t : Int) (L : List Bel) : List Bel := L.dropWhile fun x => decide (x.2 ≤ t)
theorem due_rest (t : Int) (L : List Bel) : dueB t L ++ restB t L = L := List.takeWhile_append_dropWhile
theorem due_mem {t : Int} {x : Bel} : ∀ {L : List Bel}, L.Pairwise bless → (x ∈ dueB t L ↔ x ∈ L ∧ x.2 ≤ t)
  | [], _ => by simp [dueB]
  | y :: L, h => by
    obtain ⟨h1, h2⟩ := List.pairwise_cons.1 h
    by_cases hy : y.2 ≤ t
    · rw [dueB, List.takeWhile_cons_of_pos (by simpa using hy), List.mem_cons]
      have := due_mem (t := t) (x := x) h2
      rw [dueB] at this
      rw [this, List.mem_cons]
      constructor
      · rintro (rfl | ⟨a, b⟩)
        · exact ⟨.inl rfl, hy⟩
        · exact ⟨.inr a, b⟩
      · rintro ⟨rfl | a, b⟩
        · exact .inl rfl
        · exact .inr ⟨a, b⟩
    · rw [dueB, List.takeWhile_cons_of_neg (by simpa using hy)]
      refine ⟨fun h => (by cases h), fun ⟨ha, hb⟩ => ?_⟩
      rcases List.mem_cons.1 ha with rfl | ha
      · exact absurd hb hy
      · have h3 := h1 x ha; unfold bless at h3; omega
theorem rest_mem {t : Int} {x : Bel} {L : List Bel} (h : Bells L) : x ∈ restB t L ↔ x ∈ L ∧ t < x.2 := by
  have hd := due_mem (t := t) (x := x) h.sorted
  have hm : x ∈ L ↔ x ∈ dueB t L ∨ x ∈ restB t L := by rw [← List.mem_append, due_rest]
  have hall : ∀ {L : List Bel}, L.Pairwise bless → x ∈ restB t L → t < x.2 := by
    intro L
    induction L with
    | nil => intro _ h; simp [restB] at h
    | cons y L ih =>
      intro hp hx
      obtain ⟨h1, h2⟩ := List.pairwise_cons.1 hp
      by_cases hy : y.2 ≤ t
      · rw [restB, List.dropWhile_cons_of_pos (by simpa using hy)] at hx
        exact ih h2 hx
      · rw [restB, List.dropWhile_cons_of_neg (by simpa using hy)] at hx
        rcases List.mem_cons.1 hx with rfl | hx
        · omega
        · have h3 := h1 x hx; unfold bless at h3; omega
  constructor
  · intro hx; exact ⟨hm.2 (.inr hx), hall h.sorted hx⟩
  · rintro ⟨hx, ht⟩
    rcases hm.1 hx with h1 | h1
    · have := (hd.1 h1).2; omega
    · exact h1
theorem Bells.due {L : List Bel} (h : Bells L) (t : Int) : Bells (dueB t L) := h.sub (List.takeWhile_sublist _)
theorem Bells.rest {L : List Bel} (h : Bells L) (t : Int) : Bells (restB t L) := h.sub (List.dropWhile_sublist _)
/-- There are no more bells than numbers. -/
theorem Bells.length {L : List Bel} (h : Bells L) : L.length ≤ 4096 := by
  have hn : (L.map fun x => x.1.toNat).Nodup := by
    rw [List.Nodup, List.pairwise_map]
    refine (List.Pairwise.and_mem.1 h.sorted).imp fun {x y} ⟨hx, hy, hl⟩ e => ?_
    have h1 := h.range x hx
    have h2 := h.range y hy
    have h3 := h.apart x y hx hy (by omega)
    subst h3
    exact bless_irrefl x hl
  have hs : (L.map fun x => x.1.toNat) ⊆ List.range 4096 := fun n hn => by
    obtain ⟨x, hx, rfl⟩ := List.mem_map.1 hn
    have := h.range x hx
    exact List.mem_range.2 (by omega)
  have := List.Nodup.length_le_of_subset hn hs
  simpa using this
end Go.Proofs.Ytinfeajbnhkkiaa
