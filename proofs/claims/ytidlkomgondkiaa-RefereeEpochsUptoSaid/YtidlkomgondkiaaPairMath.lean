/-
  Plain mathematics of pairs and changes: what one change makes of rising pairs is told by its members alone.
-/
namespace Go.Proofs.Ytidlkomgondkiaa
section
variable {α : Type} [LT α] [LE α] [DecidableEq α] [Std.IsLinearOrder α] [Std.LawfulOrderLT α]
/-- Rising keys. -/
def Ris (L : List (α × α)) : Prop := L.Pairwise fun a b => a.1 < b.1
end
section
variable {α : Type} [LT α] [LE α] [Std.IsLinearOrder α] [Std.LawfulOrderLT α]
theorem ris_key {L : List (α × α)} (h : Ris L) {p q : α × α} (hp : p ∈ L) (hq : q ∈ L) (he : p.1 = q.1) : p = q := by
  induction L with
  | nil => cases hp
  | cons a L ih =>
    have h1 := List.pairwise_cons.1 h
    rcases List.mem_cons.1 hp with hp1 | hp1
    · rcases List.mem_cons.1 hq with hq1 | hq1
      · rw [hp1, hq1]
      · have := h1.1 q hq1; grind
    · rcases List.mem_cons.1 hq with hq1 | hq1
      · have := h1.1 p hp1; grind
      · exact ih h1.2 hp1 hq1
end
section
variable {α : Type} [LT α] [LE α] [DecidableEq α] [Std.IsLinearOrder α] [Std.LawfulOrderLT α]
end
section
variable {α : Type} [LT α] [LE α] [Std.IsLinearOrder α] [Std.LawfulOrderLT α]
theorem ris_uniq {A B : List (α × α)} (hA : Ris A) (hB : Ris B) (h : ∀ p, p ∈ A ↔ p ∈ B) : A = B := by
  induction A generalizing B with
  | nil =>
    cases B with
    | nil => rfl
    | cons b B => exact absurd ((h b).2 (by simp)) (by simp)
  | cons a A ih =>
    cases B with
    | nil => exact absurd ((h a).1 (by simp)) (by simp)
    | cons b B =>
      have h1 := List.pairwise_cons.1 hA
      have h2 := List.pairwise_cons.1 hB
      have e : a = b := by
        have ha := (h a).1 (by simp)
        have hb := (h b).2 (by simp)
        rcases List.mem_cons.1 ha with e | ha
        · exact e
        · rcases List.mem_cons.1 hb with e | hb
          · exact e.symm
          · have := h2.1 a ha; have := h1.1 b hb; grind
      subst e
      congr 1
      refine ih h1.2 h2.2 fun p => ?_
      have hp := h p
      simp only [List.mem_cons] at hp
      constructor
      · intro hx
        rcases hp.1 (.inr hx) with rfl | h3
        · have := h1.1 p hx; grind
        · exact h3
      · intro hx
        rcases hp.2 (.inr hx) with rfl | h3
        · have := h2.1 p hx; grind
        · exact h3
end
section
variable {α : Type} [LT α] [LE α] [DecidableEq α] [Std.IsLinearOrder α] [Std.LawfulOrderLT α]
/-- The keys that a change names. -/
def Named (kind : Int) (k v x : α) : Prop := if kind = 3 then k ≤ x ∧ x < v else x = k
/-- What one change makes of pairs. -/
def OneOf (L : List (α × α)) (kind : Int) (k v : α) (L' : List (α × α)) : Prop :=
  Ris L' ∧ ∀ p, p ∈ L' ↔ (p ∈ L ∧ ¬ Named kind k v p.1) ∨ (kind = 1 ∧ p = (k, v))
/-- Where a key is, or would be. -/
def At (L : List (α × α)) (k : α) (i : Nat) : Prop := (∀ p, p ∈ L.take i → p.1 < k) ∧ ∀ p, p ∈ L.drop i → ¬ p.1 < k
end
section
variable {α : Type} [LT α]
theorem at_take {L : List (α × α)} {k : α} {i : Nat} (h : At L k i) (p : α × α) : p ∈ L.take i ↔ p ∈ L ∧ p.1 < k := by
  constructor
  · intro hp; exact ⟨List.mem_of_mem_take hp, h.1 p hp⟩
  · rintro ⟨hp, hk⟩
    rw [← List.take_append_drop i L] at hp
    rcases List.mem_append.1 hp with hp | hp
    · exact hp
    · exact absurd hk (h.2 p hp)
end
section
variable {α : Type} [LT α] [LE α] [DecidableEq α] [Std.IsLinearOrder α] [Std.LawfulOrderLT α]
end
section
variable {α : Type} [LT α]
theorem at_drop {L : List (α × α)} {k : α} {i : Nat} (h : At L k i) (p : α × α) : p ∈ L.drop i ↔ p ∈ L ∧ ¬ p.1 < k := by
  constructor
  · intro hp; exact ⟨List.mem_of_mem_drop hp, h.2 p hp⟩
  · rintro ⟨hp, hk⟩
    rw [← List.take_append_drop i L] at hp
    rcases List.mem_append.1 hp with hp | hp
    · exact absurd (h.1 p hp) hk
    · exact hp
end
section
variable {α : Type} [LT α] [LE α] [DecidableEq α] [Std.IsLinearOrder α] [Std.LawfulOrderLT α]
end
section
variable {α : Type} [LT α]
theorem ris_cut {L : List (α × α)} (h : Ris L) {i j : Nat} (hij : i ≤ j) : Ris (L.take i ++ L.drop j) := by
  have hs : List.Sublist (L.take i ++ L.drop j) L := by
    have h1 : List.Sublist (L.drop j) (L.drop i) := List.drop_sublist_drop_left L hij
    have h2 : List.Sublist (L.take i ++ L.drop j) (L.take i ++ L.drop i) := List.Sublist.append_left h1 _
    rwa [List.take_append_drop] at h2
  exact List.Pairwise.sublist hs h
end
section
variable {α : Type} [LT α] [LE α] [DecidableEq α] [Std.IsLinearOrder α] [Std.LawfulOrderLT α]
end
section
variable {α : Type} [LT α] [LE α] [Std.IsLinearOrder α] [Std.LawfulOrderLT α]
theorem one_wipe {L : List (α × α)} (hL : Ris L) {k v : α} {i j m : Nat} (hi : At L k i) (hj : At L v j) (hm : m = if j > i then j else i) : OneOf L 3 k v (L.take i ++ L.drop m) := by
  have him : i ≤ m := by rw [hm]; split <;> omega
  refine ⟨ris_cut hL him, fun p => ?_⟩
  rw [List.mem_append, at_take hi]
  have hd : p ∈ L.drop m ↔ p ∈ L ∧ ¬ p.1 < k ∧ ¬ p.1 < v := by
    rw [hm]
    split
    · rename_i hlt
      rw [at_drop hj]
      constructor
      · rintro ⟨a, b⟩
        refine ⟨a, fun hk => ?_, b⟩
        have h1 : p ∈ L.take i := (at_take hi p).2 ⟨a, hk⟩
        have h2 : p ∈ L.take j := (List.take_sublist_take_left (by omega)).subset h1
        exact b ((at_take hj p).1 h2).2
      · rintro ⟨a, b, c⟩; exact ⟨a, c⟩
    · rename_i hlt
      rw [at_drop hi]
      constructor
      · rintro ⟨a, b⟩
        refine ⟨a, b, fun hv => ?_⟩
        have h1 : p ∈ L.take j := (at_take hj p).2 ⟨a, hv⟩
        have h2 : p ∈ L.take i := (List.take_sublist_take_left (by omega)).subset h1
        exact b ((at_take hi p).1 h2).2
      · rintro ⟨a, b, c⟩; exact ⟨a, b⟩
  rw [hd]
  unfold Named
  simp only [if_true]
  constructor
  · rintro (⟨a, b⟩ | ⟨a, b, c⟩)
    · exact .inl ⟨a, fun h => by have := h.1; grind⟩
    · exact .inl ⟨a, fun h => c h.2⟩
  · rintro (⟨a, b⟩ | ⟨a, _⟩)
    · by_cases h : p.1 < k
      · exact .inl ⟨a, h⟩
      · exact .inr ⟨a, h, fun h2 => b ⟨by grind, h2⟩⟩
    · omega
end
section
variable {α : Type} [LT α] [LE α] [DecidableEq α] [Std.IsLinearOrder α] [Std.LawfulOrderLT α]
end
section
variable {α : Type} 
theorem at_split {L : List (α × α)} {i : Nat} {x : α × α} (hx : L[i]? = some x) : L = L.take i ++ x :: L.drop (i + 1) := by
  have e := List.getElem?_eq_some_iff.1 hx
  conv => lhs; rw [← List.take_append_drop i L]
  rw [List.drop_eq_getElem_cons e.1, e.2]
end
section
variable {α : Type} [LT α] [LE α] [DecidableEq α] [Std.IsLinearOrder α] [Std.LawfulOrderLT α]
end
section
variable {α : Type} [LT α]
theorem ris_mid {L M : List (α × α)} {x : α × α} (h : Ris (L ++ x :: M)) : (∀ p, p ∈ L → p.1 < x.1) ∧ (∀ p, p ∈ M → x.1 < p.1) ∧ Ris (L ++ M) := by
  unfold Ris at *
  rw [List.pairwise_append] at h
  obtain ⟨h1, h2, h3⟩ := h
  rw [List.pairwise_cons] at h2
  refine ⟨fun p hp => h3 p hp x (by simp), h2.1, ?_⟩
  rw [List.pairwise_append]
  exact ⟨h1, h2.2, fun a ha b hb => h3 a ha b (by simp [hb])⟩
end
section
variable {α : Type} [LT α] [LE α] [DecidableEq α] [Std.IsLinearOrder α] [Std.LawfulOrderLT α]
end
section
variable {α : Type} [LT α]
theorem ris_put {L M : List (α × α)} {x : α × α} (h : Ris (L ++ M)) (h1 : ∀ p, p ∈ L → p.1 < x.1) (h2 : ∀ p, p ∈ M → x.1 < p.1) : Ris (L ++ x :: M) := by
  unfold Ris at *
  rw [List.pairwise_append] at h ⊢
  rw [List.pairwise_cons]
  refine ⟨h.1, ⟨h2, h.2.1⟩, fun a ha b hb => ?_⟩
  rcases List.mem_cons.1 hb with rfl | hb
  · exact h1 a ha
  · exact h.2.2 a ha b hb
end
section
variable {α : Type} [LT α] [LE α] [DecidableEq α] [Std.IsLinearOrder α] [Std.LawfulOrderLT α]
end
section
variable {α : Type} [LT α] [LE α] [Std.IsLinearOrder α] [Std.LawfulOrderLT α]
theorem one_clear {L : List (α × α)} (hL : Ris L) {k v : α} {i : Nat} {x : α × α} (hx : L[i]? = some x) (hk : x.1 = k) : OneOf L 2 k v (L.take i ++ L.drop (i + 1)) := by
  have e := at_split hx
  have hm := ris_mid (by rw [← e]; exact hL)
  refine ⟨hm.2.2, fun p => ?_⟩
  have hp : p ∈ L ↔ p ∈ L.take i ∨ p = x ∨ p ∈ L.drop (i + 1) := by
    conv => lhs; rw [e]
    simp
  rw [hp, List.mem_append]
  unfold Named
  simp only [show ¬ (2 : Int) = 3 from by decide, if_false, show ¬ (2 : Int) = 1 from by decide, false_and, or_false]
  constructor
  · rintro (h | h)
    · exact ⟨.inl h, by have := hm.1 p h; grind⟩
    · exact ⟨.inr (.inr h), by have := hm.2.1 p h; grind⟩
  · rintro ⟨h | rfl | h, h2⟩
    · exact .inl h
    · exact absurd hk h2
    · exact .inr h
end
section
variable {α : Type} [LT α] [LE α] [DecidableEq α] [Std.IsLinearOrder α] [Std.LawfulOrderLT α]
end
section
variable {α : Type} [LT α] [LE α]
theorem one_clear_not {L : List (α × α)} (hL : Ris L) {k v : α} (hn : ∀ p, p ∈ L → p.1 ≠ k) : OneOf L 2 k v L := by
  refine ⟨hL, fun p => ?_⟩
  unfold Named
  simp only [show ¬ (2 : Int) = 3 from by decide, if_false, show ¬ (2 : Int) = 1 from by decide, false_and, or_false]
  exact ⟨fun h => ⟨h, hn p h⟩, fun h => h.1⟩
end
section
variable {α : Type} [LT α] [LE α] [DecidableEq α] [Std.IsLinearOrder α] [Std.LawfulOrderLT α]
end
section
variable {α : Type} [LT α] [LE α] [Std.IsLinearOrder α] [Std.LawfulOrderLT α]
theorem one_put_there {L : List (α × α)} (hL : Ris L) {k v : α} {i : Nat} {x : α × α} (hx : L[i]? = some x) (hk : x.1 = k) : OneOf L 1 k v (L.take i ++ (x.1, v) :: L.drop (i + 1)) := by
  have e := at_split hx
  have hm := ris_mid (by rw [← e]; exact hL)
  refine ⟨ris_put hm.2.2 hm.1 hm.2.1, fun p => ?_⟩
  have hp : p ∈ L ↔ p ∈ L.take i ∨ p = x ∨ p ∈ L.drop (i + 1) := by
    conv => lhs; rw [e]
    simp
  rw [hp, List.mem_append, List.mem_cons]
  unfold Named
  simp only [show ¬ (1 : Int) = 3 from by decide, if_false, true_and]
  constructor
  · rintro (h | h | h)
    · exact .inl ⟨.inl h, by have := hm.1 p h; grind⟩
    · exact .inr (by rw [h, hk])
    · exact .inl ⟨.inr (.inr h), by have := hm.2.1 p h; grind⟩
  · rintro (⟨h | rfl | h, h2⟩ | h)
    · exact .inl h
    · exact absurd hk h2
    · exact .inr (.inr h)
    · exact .inr (.inl (by rw [h, hk]))
end
section
variable {α : Type} [LT α] [LE α] [DecidableEq α] [Std.IsLinearOrder α] [Std.LawfulOrderLT α]
end
section
variable {α : Type} [LT α] [LE α] [Std.IsLinearOrder α] [Std.LawfulOrderLT α]
theorem one_put_new {L : List (α × α)} (hL : Ris L) {k v : α} {i : Nat} (hi : At L k i) (hn : ∀ p, p ∈ L → p.1 ≠ k) : OneOf L 1 k v (L.take i ++ [(k, v)] ++ L.drop i) := by
  have hr : Ris (L.take i ++ L.drop i) := by rw [List.take_append_drop]; exact hL
  rw [List.append_assoc]
  refine ⟨ris_put hr hi.1 fun p hp => by have := hi.2 p hp; have := hn p (List.mem_of_mem_drop hp); grind, fun p => ?_⟩
  have hp : p ∈ L ↔ p ∈ L.take i ∨ p ∈ L.drop i := by rw [← List.mem_append, List.take_append_drop]
  rw [hp]
  unfold Named
  simp only [show ¬ (1 : Int) = 3 from by decide, if_false, true_and, List.mem_append, List.mem_cons, List.not_mem_nil, or_false]
  constructor
  · rintro (h | h | h)
    · exact .inl ⟨.inl h, hn p (List.mem_of_mem_take h)⟩
    · exact .inr h
    · exact .inl ⟨.inr h, hn p (List.mem_of_mem_drop h)⟩
  · rintro (⟨h | h, _⟩ | h)
    · exact .inl h
    · exact .inr (.inr h)
    · exact .inr (.inl h)
end
section
variable {α : Type} [LT α] [LE α] [DecidableEq α] [Std.IsLinearOrder α] [Std.LawfulOrderLT α]
end
end Go.Proofs.Ytidlkomgondkiaa
