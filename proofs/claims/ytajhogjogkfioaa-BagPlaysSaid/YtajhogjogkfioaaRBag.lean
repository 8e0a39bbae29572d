/-
  The document's bag: what it is in memory, and its Look.
-/
import Derived.Test.YtajhogjogkfioaaSpoil
import Derived.Handy
namespace Go.Proofs.Ytajhogjogkfioaa
open Go.RowKit Go.Conc
set_option linter.unusedVariables false
set_option linter.unusedSimpArgs false
/-- A letter of the document: to whom, the text, whether it is spoilt. -/
structure RL where
  dest : Int
  text : List UInt8
  spoilt : Bool
def RL.cells (x : RL) : List Value := [.int .i64 x.dest, .string ⟨x.text.toArray⟩, .bool x.spoilt]
def rrow (L : List RL) : List Value := L.flatMap RL.cells
/-- The document's bag at block r, its list lv. -/
def RAt (w : World) (B r : Nat) (lv : Value) (room : Nat) (L : List RL) : Prop :=
  w.heap[r]? = some (.cells #[lv, .int .i64 (room : Int)] 31 (0, 0)) ∧ B ≤ r ∧ w.ownsRow B 36 3 lv L.length (rrow L)
/-- The blocks that its calls may turn. -/
def isRef : Obj → Prop
  | .cells _ t _ => t = 31 ∨ t = 36
  | _ => False
theorem isRef_bag (cs fz) : isRef (.cells cs 31 fz) := .inl rfl
theorem isRef_row (cs fz) : isRef (.cells cs 36 fz) := .inr rfl
theorem RAt.later {w w' : World} {B r room : Nat} {lv : Value} {L : List RL} (h : RAt w B r lv room L) (hb : Below w.heap.size w w') : RAt w' B r lv room L :=
  ⟨(hb.block r (heap_lt h.1)).trans h.1, h.2.1, own_below h.2.2 hb⟩
/-- The bag's calls leave the document's. -/
theorem RAt.kept {w w' : World} {B r room : Nat} {lv : Value} {L : List RL} (h : RAt w B r lv room L) (hk : Kept isBag2 w w') : RAt w' B r lv room L := by
  have n1 : ∀ cs fz, ¬ isBag2 (.cells cs 36 fz) := by
    rintro cs fz ((h | h) | ⟨_, _, h⟩)
    · exact absurd h (by decide)
    · exact absurd h (by decide)
    · injection h with _ h; cases h
  have n2 : ∀ cs fz, ¬ isBag2 (.cells cs 31 fz) := by
    rintro cs fz ((h | h) | ⟨_, _, h⟩)
    · exact absurd h (by decide)
    · exact absurd h (by decide)
    · injection h with _ h; cases h
  exact ⟨hk _ _ h.1 (n2 _ _), h.2.1, own_of_kept h.2.2 hk fun cs => n1 cs _⟩
/-- The document's calls leave the bag. -/
theorem BagAt.kept {w w' : World} {B p c room : Nat} {sv : Value} {L : List Ltr} (h : BagAt w B p c sv room L) (hk : Kept isRef w w') : BagAt w' B p c sv room L := by
  obtain ⟨hp, hBp, hBc, ⟨buf, s, r, hc, hroom⟩, ho, hL, hpw⟩ := h
  refine ⟨hk _ _ hp ?_, hBp, hBc, ⟨buf, s, r, hk _ _ hc id, hroom⟩, own_of_kept ho hk ?_, fun x hx => own_of_kept (hL x hx) hk ?_, hpw⟩
  · rintro (h | h) <;> exact absurd h (by decide)
  · intro cs; rintro (h | h) <;> exact absurd h (by decide)
  · intro cs; rintro (h | h) <;> exact absurd h (by decide)
theorem rrow_append (a b : List RL) : rrow (a ++ b) = rrow a ++ rrow b := by simp [rrow]
theorem rrow_len (L : List RL) : (rrow L).length = L.length * 3 := by
  induction L with
  | nil => rfl
  | cons y L ih =>
    have e : rrow (y :: L) = y.cells ++ rrow L := rfl
    rw [e, List.length_append, ih, List.length_cons]
    have : y.cells.length = 3 := rfl
    omega
theorem rrow_at {L : List RL} {i : Nat} {x : RL} (hx : L[i]? = some x) (j : Nat) (hj : j < 3) : (rrow L)[i * 3 + j]? = x.cells[j]? := by
  induction L generalizing i with
  | nil => simp at hx
  | cons y L ih =>
    have e : rrow (y :: L) = y.cells ++ rrow L := rfl
    have hy : y.cells.length = 3 := rfl
    rw [e]
    cases i with
    | zero =>
      simp at hx; subst hx
      rw [List.getElem?_append_left (by omega)]; simp
    | succ i =>
      simp at hx
      rw [List.getElem?_append_right (by omega), hy, show (i + 1) * 3 + j - 3 = i * 3 + j from by omega]
      exact ih hx
theorem rrow_take (L : List RL) (i : Nat) : (rrow L).take (i * 3) = rrow (L.take i) := by
  rcases Nat.lt_or_ge i L.length with hi | hi
  · have h : rrow L = rrow (L.take i) ++ rrow (L.drop i) := by rw [← rrow_append, List.take_append_drop]
    rw [h, List.take_left' (by rw [rrow_len, List.length_take]; congr 1; omega)]
  · rw [List.take_of_length_le (by rw [rrow_len]; omega), List.take_of_length_le hi]
theorem rrow_drop (L : List RL) (i : Nat) : (rrow L).drop (i * 3) = rrow (L.drop i) := by
  rcases Nat.lt_or_ge i L.length with hi | hi
  · have h : rrow L = rrow (L.take i) ++ rrow (L.drop i) := by rw [← rrow_append, List.take_append_drop]
    rw [h, List.drop_left' (by rw [rrow_len, List.length_take]; congr 1; omega)]
  · rw [List.drop_of_length_le (by rw [rrow_len]; omega), List.drop_of_length_le hi]; rfl
theorem rrow_one (L : List RL) : ∀ u ∈ rrow L, u.oneCell' = true := by
  intro u hu
  obtain ⟨x, hx, hu⟩ := List.mem_flatMap.1 hu
  simp only [RL.cells, List.mem_cons, List.not_mem_nil, or_false] at hu
  rcases hu with rfl | rfl | rfl <;> rfl
theorem rletterT : ElemT Try.prog 29 36 3 32 := elem_mk (z := .agg #[.int .i64 0, .string ByteArray.empty, .bool false]) Try.underlying29 (by kernel_rfl) rfl (by decide)
theorem cell_alloc {w : World} {b o : Nat} {u : Value} (h : w.cell? ⟨b, o, none⟩ = some u) : ∀ ob, (w.alloc ob).cell? ⟨b, o, none⟩ = some u := fun ob => (World.cell?_alloc_lt w ob _ (cell_lt h)).trans h
set_option maxHeartbeats 400000 in
theorem rlook_none {w : World} {B r room : Nat} {lv : Value} {L : List RL} (h : RAt w B r lv room L) (i : Int) (hi : ¬ (0 ≤ i ∧ i < L.length)) :
    Calls Try.prog 9 #[.pointer (some ⟨r, 0, none⟩), .int .i64 i] w fun e w' => e = .returned (.tuple #[.agg #[.int .i64 0, .string ByteArray.empty, .bool false], .int .i64 4]) ∧ Below w.heap.size w w' := by
  obtain ⟨hp, _, ho⟩ := h
  obtain ⟨A, cap, rfl⟩ := own_form ho
  have hc0 := cell_alloc (show w.cell? ⟨r, 0, none⟩ = some (.slice A L.length cap) from cell_of_row _ _ 0 _ _ (0, 0) hp)
  clear hp ho
  by_cases h0 : 0 ≤ i
  · have h1 : ¬ i < (L.length : Int) := fun h => hi ⟨h0, h⟩
    clear hi
    go_enter Try.func9, Try.ntmps9
    go_wp2_with fail
    go_returns
    exact ⟨rfl, (Below.refl _ _).alloc (Nat.le_refl _) _⟩
  · have h1 : i < 0 := by omega
    clear hi
    go_enter Try.func9, Try.ntmps9
    go_wp2_with fail
    go_returns
    exact ⟨rfl, (Below.refl _ _).alloc (Nat.le_refl _) _⟩
set_option maxHeartbeats 400000 in
theorem rlook_any {w : World} {B r room : Nat} {lv : Value} {L : List RL} (h : RAt w B r lv room L) (i : Nat) (x : RL) (hi : L[i]? = some x) :
    Calls Try.prog 9 #[.pointer (some ⟨r, 0, none⟩), .int .i64 (i : Int)] w fun e w' => e = .returned (.tuple #[.agg #[.int .i64 x.dest, .string ⟨x.text.toArray⟩, .bool x.spoilt], .int .i64 0]) ∧ Below w.heap.size w w' := by
  have hil := (List.getElem?_eq_some_iff.1 hi).1
  obtain ⟨hp, _, ho⟩ := h
  obtain ⟨g, cap, rfl, _, hgl⟩ := ho.form (by omega)
  have hk0 : w.cell? ⟨r, 0, none⟩ = some (.slice (some ⟨g, 0, none⟩) L.length cap) := cell_of_row _ _ 0 _ _ (0, 0) hp
  have hc0 : w.cell? ⟨g, i * 3, none⟩ = some (.int .i64 x.dest) := (ho.cellAt (i * 3) (by omega)).trans (rrow_at hi 0 (by omega))
  have hc1 : w.cell? ⟨g, i * 3 + 1, none⟩ = some (.string ⟨x.text.toArray⟩) := (ho.cellAt (i * 3 + 1) (by omega)).trans (rrow_at hi 1 (by omega))
  have hc2 : w.cell? ⟨g, i * 3 + 2, none⟩ = some (.bool x.spoilt) := (ho.cellAt (i * 3 + 2) (by omega)).trans (rrow_at hi 2 (by omega))
  have q1 : (i : Int) < (L.length : Int) := by omega
  have q0 : (0 : Int) ≤ (i : Int) := by omega
  have l0 := cell_alloc hk0
  have l1 := cell_alloc hc0
  have l2 := cell_alloc hc1
  have l3 := cell_alloc hc2
  clear hp ho hi hk0 hc0 hc1 hc2
  go_enter Try.func9, Try.ntmps9
  go_wp2_with fail
  go_returns
  exact ⟨rfl, (Below.refl _ _).alloc (Nat.le_refl _) _⟩
end Go.Proofs.Ytajhogjogkfioaa
