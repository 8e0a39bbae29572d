/-
  Texts of this seat in one: SpanMath.
-/
/-
  Plain mathematics of spans: a list of spans that do not touch is told by its keys alone; how spans are joined.
-/
namespace Go.Proofs.YtcmollfhlillfaaGreatDoor
section
variable {α : Type} [LT α] [LE α] [DecidableLT α] [DecidableLE α] [Std.IsLinearOrder α] [Std.LawfulOrderLT α]
/-- A key in a span. -/
def InS (s : α × α) (k : α) : Prop := s.1 ≤ k ∧ k < s.2
/-- A key in one of spans. -/
def InL (L : List (α × α)) (k : α) : Prop := ∃ s, s ∈ L ∧ InS s k
/-- Spans that hold keys, rising, and do not touch. -/
def Canon : List (α × α) → Prop
  | [] => True
  | s :: L => s.1 < s.2 ∧ (∀ t, t ∈ L → s.2 < t.1) ∧ Canon L
end
section
variable {α : Type} [LT α] [LE α]
theorem InL.cons {s : α × α} {L : List (α × α)} {k : α} : InL (s :: L) k ↔ InS s k ∨ InL L k := by
  simp [InL]
end
section
variable {α : Type} [LT α] [LE α] [DecidableLT α] [DecidableLE α] [Std.IsLinearOrder α] [Std.LawfulOrderLT α]
end
section
variable {α : Type} [LT α] [LE α]
theorem InL.nil {k : α} : ¬ InL ([] : List (α × α)) k := by simp [InL]
end
section
variable {α : Type} [LT α] [LE α] [DecidableLT α] [DecidableLE α] [Std.IsLinearOrder α] [Std.LawfulOrderLT α]
end
section
variable {α : Type} [LT α] [LE α]
theorem InL.append {L M : List (α × α)} {k : α} : InL (L ++ M) k ↔ InL L k ∨ InL M k := by
  induction L with
  | nil => simp [InL.nil]
  | cons s L ih => simp [InL.cons, ih, or_assoc]
end
section
variable {α : Type} [LT α] [LE α] [DecidableLT α] [DecidableLE α] [Std.IsLinearOrder α] [Std.LawfulOrderLT α]
end
section
variable {α : Type} [LT α]
theorem Canon.mem {L : List (α × α)} (h : Canon L) : ∀ t, t ∈ L → t.1 < t.2 := by
  induction L with
  | nil => intro t ht; cases ht
  | cons s L ih =>
    intro t ht
    rcases List.mem_cons.1 ht with rfl | ht
    · exact h.1
    · exact ih h.2.2 t ht
end
section
variable {α : Type} [LT α] [LE α] [DecidableLT α] [DecidableLE α] [Std.IsLinearOrder α] [Std.LawfulOrderLT α]
end
section
variable {α : Type} [LT α] [LE α] [Std.IsLinearOrder α] [Std.LawfulOrderLT α]
theorem canon_uniq {A B : List (α × α)} (hA : Canon A) (hB : Canon B) (h : ∀ k, InL A k ↔ InL B k) : A = B := by
  induction A generalizing B with
  | nil =>
    cases B with
    | nil => rfl
    | cons b B =>
      have := (h b.1).2 ⟨b, by simp, by have := hB.1; unfold InS; grind⟩
      exact absurd this InL.nil
  | cons a A ih =>
    cases B with
    | nil =>
      have := (h a.1).1 ⟨a, by simp, by have := hA.1; unfold InS; grind⟩
      exact absurd this InL.nil
    | cons b B =>
      obtain ⟨ha1, ha2, ha3⟩ := hA
      obtain ⟨hb1, hb2, hb3⟩ := hB
      have low : ∀ {x : α × α} {L : List (α × α)}, x.1 < x.2 → (∀ t, t ∈ L → x.2 < t.1) → ∀ k, InL (x :: L) k → x.1 ≤ k := by
        intro x L h1 h2 k hk
        rcases InL.cons.1 hk with hk | ⟨t, ht, hk⟩
        · exact hk.1
        · have := h2 t ht; have := hk.1; grind
      have e1 : a.1 = b.1 := by
        have p := low hb1 hb2 a.1 ((h a.1).1 (InL.cons.2 (.inl ⟨by grind, ha1⟩)))
        have q := low ha1 ha2 b.1 ((h b.1).2 (InL.cons.2 (.inl ⟨by grind, hb1⟩)))
        grind
      have out : ∀ {x : α × α} {L : List (α × α)}, (∀ t, t ∈ L → x.2 < t.1) → ¬ InL (x :: L) x.2 := by
        intro x L h2 hk
        rcases InL.cons.1 hk with hk | ⟨t, ht, hk⟩
        · have := hk.2; grind
        · have := h2 t ht; have := hk.1; grind
      have e2 : a.2 = b.2 := by
        have p := out ha2
        have q := out hb2
        rw [h] at p
        rw [← h] at q
        have p' : ¬ InS b a.2 := fun h => p (InL.cons.2 (.inl h))
        have q' : ¬ InS a b.2 := fun h => q (InL.cons.2 (.inl h))
        unfold InS at p' q'
        grind
      have e : a = b := Prod.ext e1 e2
      subst e
      congr 1
      refine ih ha3 hb3 fun k => ?_
      have hk := h k
      rw [InL.cons, InL.cons] at hk
      constructor
      · intro hx
        obtain ⟨t, ht, hx'⟩ := hx
        have h1 := ha2 t ht
        have h2 := hx'.1
        rcases hk.1 (.inr ⟨t, ht, hx'⟩) with h3 | h3
        · have := h3.2; grind
        · exact h3
      · intro hx
        obtain ⟨t, ht, hx'⟩ := hx
        have h1 := hb2 t ht
        have h2 := hx'.1
        rcases hk.2 (.inr ⟨t, ht, hx'⟩) with h3 | h3
        · have := h3.2; grind
        · exact h3
end
section
variable {α : Type} [LT α] [LE α] [DecidableLT α] [DecidableLE α] [Std.IsLinearOrder α] [Std.LawfulOrderLT α]
end
section
variable {α : Type} [LT α]
theorem Canon.snoc {L : List (α × α)} {s : α × α} (h : Canon L) (hs : s.1 < s.2) (hl : ∀ t, t ∈ L → t.2 < s.1) : Canon (L ++ [s]) := by
  induction L with
  | nil => exact ⟨hs, fun t ht => (by cases ht), trivial⟩
  | cons a L ih =>
    refine ⟨h.1, fun t ht => ?_, ih h.2.2 fun t ht => hl t (List.mem_cons_of_mem _ ht)⟩
    rcases List.mem_append.1 ht with ht | ht
    · exact h.2.1 t ht
    · have : t = s := by simpa using ht
      subst this
      exact hl a (by simp)
end
section
variable {α : Type} [LT α] [LE α] [DecidableLT α] [DecidableLE α] [Std.IsLinearOrder α] [Std.LawfulOrderLT α]
end
section
variable {α : Type} [LT α]
theorem Canon.init {L : List (α × α)} {s : α × α} (h : Canon (L ++ [s])) : Canon L ∧ s.1 < s.2 ∧ ∀ t, t ∈ L → t.2 < s.1 := by
  induction L with
  | nil => exact ⟨trivial, h.1, fun t ht => (by cases ht)⟩
  | cons a L ih =>
    obtain ⟨h1, h2, h3⟩ := h
    obtain ⟨i1, i2, i3⟩ := ih h3
    refine ⟨⟨h1, fun t ht => h2 t (by simp [ht]), i1⟩, i2, fun t ht => ?_⟩
    rcases List.mem_cons.1 ht with rfl | ht
    · exact h2 s (by simp)
    · exact i3 t ht
end
section
variable {α : Type} [LT α] [LE α] [DecidableLT α] [DecidableLE α] [Std.IsLinearOrder α] [Std.LawfulOrderLT α]
/-- What stands joined of the spans so far; all that is to come begins not below. -/
def Joined (out : List (α × α)) (done : List (α × α)) (lo : α → Prop) : Prop :=
  Canon out ∧ (∀ k, InL out k ↔ InL done k) ∧ ∀ t, t ∈ out → lo t.1
end
section
variable {α : Type} [LT α] [LE α] [DecidableLT α] [Std.IsLinearOrder α] [Std.LawfulOrderLT α]
theorem canon_last {L : List (α × α)} {p s : α × α} (h : Canon (L ++ [p])) (hs : s.1 < s.2) (hps : p.1 ≤ s.1) (htouch : s.1 ≤ p.2) :
    Canon (L ++ [(p.1, if p.2 < s.2 then s.2 else p.2)]) ∧ ∀ k, InL (L ++ [(p.1, if p.2 < s.2 then s.2 else p.2)]) k ↔ InL (L ++ [p]) k ∨ InS s k := by
  obtain ⟨h1, h2, h3⟩ := h.init
  refine ⟨h1.snoc (by show p.1 < (if p.2 < s.2 then s.2 else p.2); split <;> grind) h3, fun k => ?_⟩
  simp only [InL.append, InL.cons, InL.nil, or_false]
  have : InS (p.1, if p.2 < s.2 then s.2 else p.2) k ↔ InS p k ∨ InS s k := by
    unfold InS
    show p.1 ≤ k ∧ k < (if p.2 < s.2 then s.2 else p.2) ↔ _
    split <;> grind
  rw [this, or_assoc]
end
section
variable {α : Type} [LT α] [LE α] [DecidableLT α] [DecidableLE α] [Std.IsLinearOrder α] [Std.LawfulOrderLT α]
end
section
variable {α : Type} [LT α] [LE α] [Std.IsLinearOrder α] [Std.LawfulOrderLT α]
theorem canon_next {L : List (α × α)} {p s : α × α} (h : Canon (L ++ [p])) (hs : s.1 < s.2) (hfar : p.2 < s.1) :
    Canon (L ++ [p] ++ [s]) ∧ ∀ k, InL (L ++ [p] ++ [s]) k ↔ InL (L ++ [p]) k ∨ InS s k := by
  obtain ⟨h1, h2, h3⟩ := h.init
  refine ⟨h.snoc hs fun t ht => ?_, fun k => ?_⟩
  · rcases List.mem_append.1 ht with ht | ht
    · have := h3 t ht; grind
    · have : t = p := by simpa using ht
      subst this; exact hfar
  · simp only [InL.append, InL.cons, InL.nil, or_false]
end
section
variable {α : Type} [LT α] [LE α] [DecidableLT α] [DecidableLE α] [Std.IsLinearOrder α] [Std.LawfulOrderLT α]
end
section
variable {α : Type} [LT α] [LE α] [DecidableLT α] [DecidableLE α] [Std.IsLinearOrder α] [Std.LawfulOrderLT α]
/-- Where the joining of spans that begin ever later stands: what is out, what is done, what is to come. -/
def MergeInv (out done rest : List (α × α)) : Prop :=
  Canon out ∧ (∀ k, InL out k ↔ InL done k) ∧ ∀ t, t ∈ out → ∀ s, s ∈ rest → t.1 ≤ s.1
/-- Rising by where they begin; each holds a key. -/
def Rising : List (α × α) → Prop
  | [] => True
  | s :: L => s.1 < s.2 ∧ (∀ t, t ∈ L → s.1 ≤ t.1) ∧ Rising L
end
section
variable {α : Type} [LT α] [LE α]
theorem merge_start (ys : List (α × α)) : MergeInv [] [] ys := ⟨trivial, fun _ => Iff.rfl, fun t ht => by cases ht⟩
end
section
variable {α : Type} [LT α] [LE α] [DecidableLT α] [DecidableLE α] [Std.IsLinearOrder α] [Std.LawfulOrderLT α]
end
section
variable {α : Type} [LT α] [LE α]
theorem inl_snoc {L : List (α × α)} {s : α × α} {k : α} : InL (L ++ [s]) k ↔ InL L k ∨ InS s k := by
  simp [InL.append, InL.cons, InL.nil]
end
section
variable {α : Type} [LT α] [LE α] [DecidableLT α] [DecidableLE α] [Std.IsLinearOrder α] [Std.LawfulOrderLT α]
end
section
variable {α : Type} [LT α] [LE α]
theorem merge_first {done rest : List (α × α)} {s : α × α} (h : MergeInv [] done (s :: rest)) (hr : Rising (s :: rest)) : MergeInv [s] (done ++ [s]) rest := by
  refine ⟨⟨hr.1, fun t ht => (by cases ht), trivial⟩, fun k => ?_, fun t ht u hu => ?_⟩
  · rw [inl_snoc, ← h.2.1 k, InL.cons]
    simp [InL.nil]
  · have : t = s := by simpa using ht
    subst this
    exact hr.2.1 u hu
end
section
variable {α : Type} [LT α] [LE α] [DecidableLT α] [DecidableLE α] [Std.IsLinearOrder α] [Std.LawfulOrderLT α]
end
section
variable {α : Type} [LT α] [LE α] [Std.IsLinearOrder α] [Std.LawfulOrderLT α]
theorem merge_far {L done rest : List (α × α)} {p s : α × α} (h : MergeInv (L ++ [p]) done (s :: rest)) (hr : Rising (s :: rest)) (hfar : p.2 < s.1) : MergeInv (L ++ [p] ++ [s]) (done ++ [s]) rest := by
  obtain ⟨h1, h2⟩ := canon_next h.1 hr.1 hfar
  refine ⟨h1, fun k => by rw [h2, h.2.1, inl_snoc], fun t ht u hu => ?_⟩
  rcases List.mem_append.1 ht with ht | ht
  · exact h.2.2 t ht u (List.mem_cons_of_mem _ hu)
  · have : t = s := by simpa using ht
    subst this
    exact hr.2.1 u hu
end
section
variable {α : Type} [LT α] [LE α] [DecidableLT α] [DecidableLE α] [Std.IsLinearOrder α] [Std.LawfulOrderLT α]
end
section
variable {α : Type} [LT α] [LE α] [DecidableLT α] [Std.IsLinearOrder α] [Std.LawfulOrderLT α]
theorem merge_touch {L done rest : List (α × α)} {p s : α × α} (h : MergeInv (L ++ [p]) done (s :: rest)) (hr : Rising (s :: rest)) (ht : s.1 ≤ p.2) :
    MergeInv (L ++ [(p.1, if p.2 < s.2 then s.2 else p.2)]) (done ++ [s]) rest := by
  have hps := h.2.2 p (by simp) s (by simp)
  obtain ⟨h1, h2⟩ := canon_last h.1 hr.1 hps ht
  refine ⟨h1, fun k => by rw [h2, h.2.1, inl_snoc], fun t ht u hu => ?_⟩
  rcases List.mem_append.1 ht with ht | ht
  · exact h.2.2 t (by simp [ht]) u (List.mem_cons_of_mem _ hu)
  · have : t = (p.1, if p.2 < s.2 then s.2 else p.2) := by simpa using ht
    subst this
    exact h.2.2 p (by simp) u (List.mem_cons_of_mem _ hu)
end
section
variable {α : Type} [LT α] [LE α] [DecidableLT α] [DecidableLE α] [Std.IsLinearOrder α] [Std.LawfulOrderLT α]
end
section
variable {α : Type} [LT α] [LE α]
theorem Rising.tail {s : α × α} {L : List (α × α)} (h : Rising (s :: L)) : Rising L := h.2.2
end
section
variable {α : Type} [LT α] [LE α] [DecidableLT α] [DecidableLE α] [Std.IsLinearOrder α] [Std.LawfulOrderLT α]
/-- A span without others: where it stands. -/
def CutInv (s0 : α × α) (cur : α) (out done rest : List (α × α)) : Prop :=
  Canon out ∧ (∀ k, InL out k ↔ InS s0 k ∧ ¬ InL done k ∧ k < cur) ∧ (∀ t, t ∈ out → t.2 < cur) ∧ s0.1 ≤ cur ∧ (∀ g, g ∈ done → g.2 ≤ cur) ∧ (cur = s0.1 ∨ ∀ g, g ∈ rest → cur < g.1)
end
section
variable {α : Type} [LT α] [LE α] [Std.IsLinearOrder α] [Std.LawfulOrderLT α]
theorem cut_start (s0 : α × α) (rest : List (α × α)) : CutInv s0 s0.1 [] [] rest :=
  ⟨trivial, fun k => ⟨fun h => absurd h InL.nil, fun ⟨h1, _, h3⟩ => by have := h1.1; grind⟩, fun t ht => (by cases ht), by grind, fun g hg => (by cases hg), .inl rfl⟩
end
section
variable {α : Type} [LT α] [LE α] [DecidableLT α] [DecidableLE α] [Std.IsLinearOrder α] [Std.LawfulOrderLT α]
end
section
variable {α : Type} [LT α] [LE α] [Std.IsLinearOrder α] [Std.LawfulOrderLT α]
theorem cut_done {s0 : α × α} {cur : α} {out done rest : List (α × α)} (h : CutInv s0 cur out done rest) {k : α} (hk : cur ≤ k) : ¬ InL done k := by
  rintro ⟨g, hg, hin⟩
  have := h.2.2.2.2.1 g hg
  have := hin.2
  grind
end
section
variable {α : Type} [LT α] [LE α] [DecidableLT α] [DecidableLE α] [Std.IsLinearOrder α] [Std.LawfulOrderLT α]
end
section
variable {α : Type} [LT α] [LE α] [DecidableLT α] [Std.IsLinearOrder α] [Std.LawfulOrderLT α]
theorem cut_next {s0 g : α × α} {cur : α} {out done rest : List (α × α)} (h : CutInv s0 cur out done (g :: rest)) (hc : Canon (g :: rest)) {out' : List (α × α)}
    (ho : out' = if cur < (if g.1 < s0.2 then g.1 else s0.2) then out ++ [(cur, if g.1 < s0.2 then g.1 else s0.2)] else out) :
    CutInv s0 (if cur < g.2 then g.2 else cur) out' (done ++ [g]) rest := by
  obtain ⟨h1, h2, h3, h4, h5, h6⟩ := h
  obtain ⟨c1, c2, c3⟩ := hc
  have key : ∀ k, (InS s0 k ∧ ¬ InL (done ++ [g]) k ∧ k < (if cur < g.2 then g.2 else cur)) ↔ InL out k ∨ (cur ≤ k ∧ k < (if g.1 < s0.2 then g.1 else s0.2)) := by
    intro k
    rw [h2, inl_snoc]
    constructor
    · rintro ⟨a, b, c⟩
      by_cases hk : k < cur
      · exact .inl ⟨a, fun x => b (.inl x), hk⟩
      · have b' : ¬ InS g k := fun x => b (.inr x)
        have a' := a
        unfold InS at b' a'
        refine .inr ⟨by grind, ?_⟩
        split at c <;> split <;> grind
    · rintro (⟨a, b, c⟩ | ⟨a, b⟩)
      · refine ⟨a, ?_, by split <;> grind⟩
        rintro (x | x)
        · exact b x
        · have a1 := a.1
          have x1 := x.1
          rcases h6 with h6 | h6
          · grind
          · have := h6 g (by simp); grind
      · refine ⟨⟨by grind, by split at b <;> grind⟩, ?_, by split at b <;> split <;> grind⟩
        rintro (x | x)
        · obtain ⟨t, ht, hin⟩ := x
          have := h5 t ht
          have := hin.2
          grind
        · have := x.1; split at b <;> grind
  have last6 : (if cur < g.2 then g.2 else cur) = s0.1 ∨ ∀ t, t ∈ rest → (if cur < g.2 then g.2 else cur) < t.1 := by
    split
    · exact .inr c2
    · rcases h6 with h6 | h6
      · exact .inl h6
      · exact .inr fun t ht => h6 t (by simp [ht])
  have h4' : s0.1 ≤ (if cur < g.2 then g.2 else cur) := by split <;> grind
  have h5' : ∀ t, t ∈ done ++ [g] → t.2 ≤ (if cur < g.2 then g.2 else cur) := by
    intro t ht
    rcases List.mem_append.1 ht with ht | ht
    · have := h5 t ht; split <;> grind
    · have : t = g := by simpa using ht
      subst this; split <;> grind
  have hle : cur ≤ (if cur < g.2 then g.2 else cur) := by split <;> grind
  subst ho
  by_cases hne : cur < (if g.1 < s0.2 then g.1 else s0.2)
  · rw [if_pos hne]
    refine ⟨h1.snoc hne h3, fun k => ?_, fun t ht => ?_, h4', h5', last6⟩
    · rw [key, inl_snoc]; rfl
    · rcases List.mem_append.1 ht with ht | ht
      · have := h3 t ht; grind
      · have : t = (cur, if g.1 < s0.2 then g.1 else s0.2) := by simpa using ht
        subst this
        show (if g.1 < s0.2 then g.1 else s0.2) < _
        split at hne <;> split <;> grind
  · rw [if_neg hne]
    refine ⟨h1, fun k => ?_, fun t ht => ?_, h4', h5', last6⟩
    · rw [key]
      constructor
      · exact .inl
      · rintro (x | x)
        · exact x
        · exact absurd x (by grind)
    · have := h3 t ht; grind
end
section
variable {α : Type} [LT α] [LE α] [DecidableLT α] [DecidableLE α] [Std.IsLinearOrder α] [Std.LawfulOrderLT α]
end
section
variable {α : Type} [LT α] [LE α] [DecidableLT α] [Std.IsLinearOrder α] [Std.LawfulOrderLT α]
theorem cut_end {s0 : α × α} {cur : α} {out done : List (α × α)} (h : CutInv s0 cur out done []) {out' : List (α × α)} (ho : out' = if cur < s0.2 then out ++ [(cur, s0.2)] else out) :
    Canon out' ∧ ∀ k, InL out' k ↔ InS s0 k ∧ ¬ InL done k := by
  have hd : ∀ {k : α}, cur ≤ k → ¬ InL done k := fun hk => cut_done h hk
  obtain ⟨h1, h2, h3, h4, h5, h6⟩ := h
  subst ho
  by_cases hne : cur < s0.2
  · rw [if_pos hne]
    refine ⟨h1.snoc hne h3, fun k => ?_⟩
    rw [inl_snoc, h2]
    constructor
    · rintro (⟨a, b, c⟩ | ⟨a, b⟩)
      · exact ⟨a, b⟩
      · exact ⟨⟨by grind, b⟩, hd a⟩
    · rintro ⟨a, b⟩
      by_cases hk : k < cur
      · exact .inl ⟨a, b, hk⟩
      · exact .inr ⟨by grind, a.2⟩
  · rw [if_neg hne]
    refine ⟨h1, fun k => ?_⟩
    rw [h2]
    constructor
    · rintro ⟨a, b, c⟩; exact ⟨a, b⟩
    · rintro ⟨a, b⟩
      refine ⟨a, b, ?_⟩
      have := a.2; grind
end
section
variable {α : Type} [LT α] [LE α] [DecidableLT α] [DecidableLE α] [Std.IsLinearOrder α] [Std.LawfulOrderLT α]
/-- The fewest spans of the keys with M, up to lo. -/
def BuildInv (M : α → Prop) (lo : α) (out : List (α × α)) : Prop :=
  Canon out ∧ (∀ k, InL out k ↔ M k ∧ k < lo) ∧ ∀ t, t ∈ out → t.2 ≤ lo
end
section
variable {α : Type} [LT α] [LE α]
theorem build_start {M : α → Prop} {lo : α} (h : ∀ k, k < lo → ¬ M k) : BuildInv M lo [] :=
  ⟨trivial, fun k => ⟨fun h => absurd h InL.nil, fun ⟨a, b⟩ => absurd a (h k b)⟩, fun t ht => by cases ht⟩
end
section
variable {α : Type} [LT α] [LE α] [DecidableLT α] [DecidableLE α] [Std.IsLinearOrder α] [Std.LawfulOrderLT α]
end
section
variable {α : Type} [LT α] [LE α] [DecidableLT α] [Std.IsLinearOrder α] [Std.LawfulOrderLT α]
theorem build_no {M : α → Prop} {lo hi : α} {out : List (α × α)} (h : BuildInv M lo out) (hlt : lo < hi) (hM : ∀ k, lo ≤ k → k < hi → (M k ↔ M lo)) (hn : ¬ M lo) : BuildInv M hi out := by
  refine ⟨h.1, fun k => ?_, fun t ht => by have := h.2.2 t ht; grind⟩
  rw [h.2.1]
  constructor
  · rintro ⟨a, b⟩; exact ⟨a, by grind⟩
  · rintro ⟨a, b⟩
    refine ⟨a, ?_⟩
    by_cases hk : k < lo
    · exact hk
    · exact absurd ((hM k (by grind) b).1 a) hn
end
section
variable {α : Type} [LT α] [LE α] [DecidableLT α] [DecidableLE α] [Std.IsLinearOrder α] [Std.LawfulOrderLT α]
end
section
variable {α : Type} [LT α] [LE α] [DecidableLT α] [Std.IsLinearOrder α] [Std.LawfulOrderLT α]
theorem build_yes {M : α → Prop} {lo hi : α} {out : List (α × α)} (h : BuildInv M lo out) (hlt : lo < hi) (hM : ∀ k, lo ≤ k → k < hi → (M k ↔ M lo)) (hn : M lo) (hl : ∀ L p, out = L ++ [p] → p.2 ≠ lo) : BuildInv M hi (out ++ [(lo, hi)]) := by
  have hl' : ∀ t, t ∈ out → t.2 < lo := by
    intro t ht
    rcases List.eq_nil_or_concat out with h0 | ⟨L, p, h0⟩
    · subst h0; cases ht
    · have hp := hl L p (by simpa using h0)
      have h0 : out = L ++ [p] := by simpa using h0
      subst h0
      have c := h.1.init
      have hp2 := h.2.2 p (by simp)
      rcases List.mem_append.1 ht with ht | ht
      · have := c.2.2 t ht; have := c.2.1; grind
      · have : t = p := by simpa using ht
        subst this; grind
  refine ⟨h.1.snoc hlt hl', fun k => ?_, fun t ht => ?_⟩
  · rw [inl_snoc, h.2.1]
    constructor
    · rintro (⟨a, b⟩ | ⟨a, b⟩)
      · exact ⟨a, by grind⟩
      · exact ⟨(hM k a b).2 hn, b⟩
    · rintro ⟨a, b⟩
      by_cases hk : k < lo
      · exact .inl ⟨a, hk⟩
      · exact .inr ⟨by grind, b⟩
  · rcases List.mem_append.1 ht with ht | ht
    · have := hl' t ht; grind
    · have : t = (lo, hi) := by simpa using ht
      subst this; show hi ≤ hi; grind
end
section
variable {α : Type} [LT α] [LE α] [DecidableLT α] [DecidableLE α] [Std.IsLinearOrder α] [Std.LawfulOrderLT α]
end
section
variable {α : Type} [LT α] [LE α] [DecidableLT α] [Std.IsLinearOrder α] [Std.LawfulOrderLT α]
theorem build_on {M : α → Prop} {lo hi : α} {L : List (α × α)} {p : α × α} (h : BuildInv M lo (L ++ [p])) (hlt : lo < hi) (hM : ∀ k, lo ≤ k → k < hi → (M k ↔ M lo)) (hn : M lo) (hp : p.2 = lo) : BuildInv M hi (L ++ [(p.1, hi)]) := by
  obtain ⟨c1, c2, c3⟩ := h.1.init
  refine ⟨c1.snoc (by show p.1 < hi; grind) c3, fun k => ?_, fun t ht => ?_⟩
  · have h2 := h.2.1 k
    rw [inl_snoc] at h2 ⊢
    have e : InS (p.1, hi) k ↔ InS p k ∨ (lo ≤ k ∧ k < hi) := by unfold InS; show p.1 ≤ k ∧ k < hi ↔ _; grind
    rw [e, ← or_assoc, h2]
    constructor
    · rintro (⟨a, b⟩ | ⟨a, b⟩)
      · exact ⟨a, by grind⟩
      · exact ⟨(hM k a b).2 hn, b⟩
    · rintro ⟨a, b⟩
      by_cases hk : k < lo
      · exact .inl ⟨a, hk⟩
      · exact .inr ⟨by grind, b⟩
  · rcases List.mem_append.1 ht with ht | ht
    · have := c3 t ht; grind
    · have : t = (p.1, hi) := by simpa using ht
      subst this; show hi ≤ hi; grind
end
section
variable {α : Type} [LT α] [LE α] [DecidableLT α] [DecidableLE α] [Std.IsLinearOrder α] [Std.LawfulOrderLT α]
/-- Rising texts, each once. -/
def Up : List α → Prop
  | [] => True
  | s :: L => (∀ t, t ∈ L → s < t) ∧ Up L
end
section
variable {α : Type} [LT α]
theorem Up.append {L M : List α} : Up (L ++ M) ↔ Up L ∧ Up M ∧ ∀ s, s ∈ L → ∀ t, t ∈ M → s < t := by
  induction L with
  | nil => simp [Up]
  | cons s L ih =>
    simp only [List.cons_append, Up, ih, List.mem_append, List.mem_cons]
    constructor
    · rintro ⟨a, b, c, d⟩
      exact ⟨⟨fun t ht => a t (.inl ht), b⟩, c, fun u hu t ht => by
                                              rcases hu with rfl | hu
                                              next => exact a t (.inr ht)
                                              next hu => exact d u hu t ht⟩
    · rintro ⟨⟨a, b⟩, c, d⟩
      exact ⟨fun t ht => by
                                           rcases ht with ht | ht
                                           next ht => exact a t ht
                                           next ht => exact d s (.inl rfl) t ht, b, c, fun u hu t ht => d u (.inr hu) t ht⟩
end
section
variable {α : Type} [LT α] [LE α] [DecidableLT α] [DecidableLE α] [Std.IsLinearOrder α] [Std.LawfulOrderLT α]
end
section
variable {α : Type} [LT α]
theorem up_insert {A B : List α} {s : α} (h : Up (A ++ B)) (hA : ∀ t, t ∈ A → t < s) (hB : ∀ t, t ∈ B → s < t) : Up (A ++ [s] ++ B) := by
  rw [Up.append] at h
  rw [Up.append, Up.append]
  refine ⟨⟨h.1, ⟨fun t ht => (by cases ht), trivial⟩, fun u hu t ht => ?_⟩, h.2.1, fun u hu t ht => ?_⟩
  · have : t = s := by simpa using ht
    subst this; exact hA u hu
  · rcases List.mem_append.1 hu with hu | hu
    · exact h.2.2 u hu t ht
    · have : u = s := by simpa using hu
      subst this; exact hB t ht
end
section
variable {α : Type} [LT α] [LE α] [DecidableLT α] [DecidableLE α] [Std.IsLinearOrder α] [Std.LawfulOrderLT α]
end
section
variable {α : Type} [LT α] [LE α] [Std.IsLinearOrder α] [Std.LawfulOrderLT α]
theorem gap_ins {A B : List α} {lo hi : α} (h : Up (A ++ lo :: hi :: B)) {s : α × α} (h1 : s.1 ∈ A ++ lo :: hi :: B) (h2 : s.2 ∈ A ++ lo :: hi :: B) {k : α} (hl : lo ≤ k) (hh : k < hi) : InS s k ↔ InS s lo := by
  rw [Up.append] at h
  obtain ⟨_, ⟨b1, b2, b3⟩, c⟩ := h
  have side : ∀ x, x ∈ A ++ lo :: hi :: B → x ≤ lo ∨ hi ≤ x := by
    intro x hx
    rcases List.mem_append.1 hx with hx | hx
    · have := c x hx lo (by simp); grind
    · rcases List.mem_cons.1 hx with rfl | hx
      · left; grind
      · rcases List.mem_cons.1 hx with rfl | hx
        · right; grind
        · have := b2 x hx; right; grind
  have s1 := side _ h1
  have s2 := side _ h2
  unfold InS
  grind
end
section
variable {α : Type} [LT α] [LE α] [DecidableLT α] [DecidableLE α] [Std.IsLinearOrder α] [Std.LawfulOrderLT α]
end
section
variable {α : Type} [LT α] [LE α] [Std.IsLinearOrder α] [Std.LawfulOrderLT α]
theorem gap_inl {A B : List α} {lo hi : α} (h : Up (A ++ lo :: hi :: B)) {L : List (α × α)} (hL : ∀ s, s ∈ L → s.1 ∈ A ++ lo :: hi :: B ∧ s.2 ∈ A ++ lo :: hi :: B) {k : α} (hl : lo ≤ k) (hh : k < hi) : InL L k ↔ InL L lo := by
  unfold InL
  constructor
  · rintro ⟨s, hs, hk⟩
    exact ⟨s, hs, (gap_ins h (hL s hs).1 (hL s hs).2 hl hh).1 hk⟩
  · rintro ⟨s, hs, hk⟩
    exact ⟨s, hs, (gap_ins h (hL s hs).1 (hL s hs).2 hl hh).2 hk⟩
end
section
variable {α : Type} [LT α] [LE α] [DecidableLT α] [DecidableLE α] [Std.IsLinearOrder α] [Std.LawfulOrderLT α]
end
section
variable {α : Type} [LT α] [LE α] [Std.IsLinearOrder α] [Std.LawfulOrderLT α]
theorem below_first {B : List α} {lo : α} (h : Up (lo :: B)) {L : List (α × α)} (hL : ∀ s, s ∈ L → s.1 ∈ lo :: B) {k : α} (hk : k < lo) : ¬ InL L k := by
  rintro ⟨s, hs, hin⟩
  have := hin.1
  rcases List.mem_cons.1 (hL s hs) with h0 | h0
  · grind
  · have := h.1 _ h0; grind
end
section
variable {α : Type} [LT α] [LE α] [DecidableLT α] [DecidableLE α] [Std.IsLinearOrder α] [Std.LawfulOrderLT α]
end
section
variable {α : Type} [LT α] [LE α] [Std.IsLinearOrder α] [Std.LawfulOrderLT α]
theorem behind_last {A : List α} {lo : α} (h : Up (A ++ [lo])) {L : List (α × α)} (hL : ∀ s, s ∈ L → s.2 ∈ A ++ [lo]) {k : α} (hk : lo ≤ k) : ¬ InL L k := by
  rintro ⟨s, hs, hin⟩
  have := hin.2
  rw [Up.append] at h
  rcases List.mem_append.1 (hL s hs) with h0 | h0
  · have := h.2.2 _ h0 lo (by simp); grind
  · have h0 : s.2 = lo := by simpa using h0
    grind
end
section
variable {α : Type} [LT α] [LE α] [DecidableLT α] [DecidableLE α] [Std.IsLinearOrder α] [Std.LawfulOrderLT α]
end
section
variable {α : Type} [LT α]
theorem canon_drop {L : List (α × α)} (h : Canon L) (k : Nat) : Canon (L.drop k) := by
  induction L generalizing k with
  | nil => simpa using h
  | cons a L ih =>
    cases k with
    | zero => exact h
    | succ k => simpa using ih h.2.2 k
end
end Go.Proofs.YtcmollfhlillfaaGreatDoor
