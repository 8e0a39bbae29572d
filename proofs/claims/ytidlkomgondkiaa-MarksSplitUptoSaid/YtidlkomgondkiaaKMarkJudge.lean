/-
  Plain facts: verdicts on several transactions, one behind the other; those that are fine are written.
-/
import Derived.Test.YtidlkomgondkiaaKMMany
namespace Go.Proofs.Ytidlkomgondkiaa
open Go.RowKit
set_option linter.unusedVariables false
/-- What writing several spans leaves. -/
def WrittenL (L : List Mk) (S : List Spn) (v : Int) (M : List Mk) : Prop := Marked M ∧ (∀ x, (InL S x → verL M x = v) ∧ (¬ InL S x → verL M x = verL L x)) ∧ (∀ o, o ∈ M → o.2 = v ∨ ∃ k, k ∈ L ∧ o.2 = k.2) ∧ M.length ≤ L.length + 2 * S.length
theorem writtenL_nil {L : List Mk} (h : Marked L) (v : Int) : WrittenL L [] v L := ⟨h, fun x => ⟨fun h => absurd h InL.nil, fun _ => rfl⟩, fun o ho => .inr ⟨o, ho, rfl⟩, by simp⟩
theorem writtenL_snoc {L M N : List Mk} {S : List Spn} {s : Spn} {v : Int} (h : WrittenL L S v M) (k : WrittenM M s v N) (hn : N.length ≤ M.length + 2) : WrittenL L (S ++ [s]) v N := by
  refine ⟨k.1, fun x => ?_, fun o ho => ?_, ?_⟩
  · have h1 := h.2.1 x
    have h2 := k.2.1 x
    rw [InL.append, InL.cons]
    by_cases hs : InS s x
    · exact ⟨fun _ => h2.1 hs, fun hn => absurd (.inr (.inl hs)) hn⟩
    · rw [h2.2 hs]
      refine ⟨fun h3 => h1.1 (h3.elim id fun h4 => h4.elim (fun h5 => absurd h5 hs) fun h5 => absurd h5 InL.nil), fun h3 => h1.2 fun h4 => h3 (.inl h4)⟩
  · rcases k.2.2 o ho with h1 | ⟨j, hj, e⟩
    · exact .inl h1
    · rcases h.2.2.1 j hj with h2 | ⟨i, hi, e2⟩
      · exact .inl (e.trans h2)
      · exact .inr ⟨i, hi, e.trans e2⟩
  · have := h.2.2.2
    simp only [List.length_append, List.length_cons, List.length_nil]
    omega
/-- A transaction is written: the keys that it names, at a version. -/
def WroteT (L : List Mk) (l : Int) (C : List Chg) (v : Int) (M : List Mk) (l' : Int) : Prop := ∃ R, Canon R ∧ (∀ k, InL R k ↔ InL (spansC C) k) ∧ R.length ≤ C.length ∧ WrittenL L R v M ∧ l' = if R = [] then l else v
/-- One verdict, and what it leaves. -/
def JudgeOne (v f : Int) (L : List Mk) (l : Int) (t : Tx) (j : Int) (M : List Mk) (l' : Int) : Prop := j = judgeV L f t.1 t.2.1 ∧ if j = 1 then WroteT L l t.2.2 v M l' else M = L ∧ l' = l
/-- Verdicts on several. -/
def JudgeAll (v f : Int) : List Mk → Int → List Tx → List Int → List Mk → Int → Prop
  | L, l, [], V, M, l' => V = [] ∧ M = L ∧ l' = l
  | L, l, t :: T, V, M, l' => ∃ j N n V', JudgeOne v f L l t j N n ∧ V = j :: V' ∧ JudgeAll v f N n T V' M l'
theorem judgeAll_snoc {v f : Int} {t : Tx} {j : Int} : ∀ {T : List Tx} {L M N : List Mk} {l m n : Int} {V : List Int}, JudgeAll v f L l T V M m → JudgeOne v f M m t j N n → JudgeAll v f L l (T ++ [t]) (V ++ [j]) N n := by
  intro T
  induction T with
  | nil =>
    intro L M N l m n V h k
    obtain ⟨rfl, rfl, rfl⟩ := h
    exact ⟨j, N, n, [], k, rfl, rfl, rfl, rfl⟩
  | cons a T ih =>
    intro L M N l m n V h k
    obtain ⟨j1, K, q, V', h1, rfl, h2⟩ := h
    exact ⟨j1, K, q, V' ++ [j], h1, rfl, ih h2 k⟩
theorem judgeAll_length {v f : Int} : ∀ {T : List Tx} {L M : List Mk} {l m : Int} {V : List Int}, JudgeAll v f L l T V M m → V.length = T.length := by
  intro T
  induction T with
  | nil => intro L M l m V h; obtain ⟨rfl, _, _⟩ := h; rfl
  | cons a T ih => intro L M l m V h; obtain ⟨j1, K, q, V', h1, rfl, h2⟩ := h; simp [ih h2]
/-- What stands of marks: they are marks, and no version is above the last one. -/
def Fit (L : List Mk) (l : Int) : Prop := Marked L ∧ 0 ≤ l ∧ ∀ k, k ∈ L → k.2 ≤ l
theorem fit_one {v f : Int} {L M : List Mk} {l m j : Int} {t : Tx} (h : JudgeOne v f L l t j M m) (hL : Fit L l) (hv : l ≤ v) : Fit M m ∧ m ≤ v ∧ l ≤ m ∧ M.length ≤ L.length + 2 * t.2.2.length := by
  obtain ⟨rfl, h⟩ := h
  by_cases hj : judgeV L f t.1 t.2.1 = 1
  · rw [if_pos hj] at h
    obtain ⟨R, hc, hk, hRl, hw, rfl⟩ := h
    have hlen : M.length ≤ L.length + 2 * t.2.2.length := by have := hw.2.2.2; omega
    by_cases hR : R = []
    · rw [if_pos hR]
      subst hR
      refine ⟨⟨hw.1, hL.2.1, fun k hk => ?_⟩, hv, Int.le_refl _, hlen⟩
      have h2 := hw.1.apart.ver (k := k) (x := k.1.1) hk (by have := (hw.1.apart.1 k hk).1; unfold InS; grind)
      rw [(hw.2.1 k.1.1).2 InL.nil] at h2
      obtain ⟨i, hi, _, e⟩ := hL.1.apart.pos (x := k.1.1) (by have := (hw.1.apart.1 k hk).2; omega)
      have := hL.2.2 i hi
      omega
    · rw [if_neg hR]
      refine ⟨⟨hw.1, by have := hL.2.1; omega, fun k hk => ?_⟩, Int.le_refl _, hv, hlen⟩
      rcases hw.2.2.1 k hk with h2 | ⟨i, hi, e⟩
      · omega
      · have := hL.2.2 i hi; omega
  · rw [if_neg hj] at h
    obtain ⟨rfl, rfl⟩ := h
    exact ⟨hL, hv, Int.le_refl _, by omega⟩
theorem fit_all {v f : Int} : ∀ {T : List Tx} {L M : List Mk} {l m : Int} {V : List Int}, JudgeAll v f L l T V M m → Fit L l → l ≤ v → (∀ t, t ∈ T → t.2.2.length ≤ 24) → Fit M m ∧ m ≤ v ∧ l ≤ m ∧ M.length ≤ L.length + 48 * T.length := by
  intro T
  induction T with
  | nil => intro L M l m V h hL hv _; obtain ⟨_, rfl, rfl⟩ := h; exact ⟨hL, hv, Int.le_refl _, by simp⟩
  | cons a T ih =>
    intro L M l m V h hL hv ht
    obtain ⟨j1, K, q, V', h1, rfl, h2⟩ := h
    obtain ⟨h3, h4, h5, h6⟩ := fit_one h1 hL hv
    obtain ⟨h7, h8, h9, h10⟩ := ih h2 h3 h4 fun t hk => ht t (List.mem_cons_of_mem _ hk)
    have := ht a (List.mem_cons_self ..)
    exact ⟨h7, h8, by omega, by rw [List.length_cons]; omega⟩
theorem soundT_iff {t : Tx} : soundT t = true ↔ 0 ≤ t.1 ∧ t.2.1.length ≤ 24 ∧ t.2.2.length ≤ 24 ∧ chkAll t.2.2 = 0 ∧ ∀ s, s ∈ t.2.1 → s.1.size ≤ 17 ∧ s.2.size ≤ 17 ∧ s.1 ≤ s.2 := by
  unfold soundT soundS
  simp only [Bool.and_eq_true, decide_eq_true_eq, List.all_eq_true]
  constructor
  · rintro ⟨⟨⟨⟨a, b⟩, c⟩, d⟩, e⟩; exact ⟨a, b, c, d, e⟩
  · rintro ⟨a, b, c, d, e⟩; exact ⟨⟨⟨⟨a, b⟩, c⟩, d⟩, e⟩
end Go.Proofs.Ytidlkomgondkiaa
