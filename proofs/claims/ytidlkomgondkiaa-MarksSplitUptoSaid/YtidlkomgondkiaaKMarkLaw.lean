/-
  Plain facts for the laws of Marks: what is written at two versions, and forgotten.
-/
import Derived.Test.YtidlkomgondkiaaKMOpen
namespace Go.Proofs.Ytidlkomgondkiaa
open Go.RowKit
set_option linter.unusedVariables false
theorem wroteT_vs {L M : List Mk} {l l' v : Int} {C : List Chg} (h : WroteT L l C v M l') : ∀ o, o ∈ M → o.2 = v ∨ ∃ k, k ∈ L ∧ o.2 = k.2 := by
  obtain ⟨R, hc, hk, hl, hw, hl'⟩ := h
  exact hw.2.2.1
theorem lastL_mem {L : List Mk} (h : Marked L) (s : Spn) : lastL L s = 0 ∨ ∃ k, k ∈ L ∧ (∃ x, InS s x ∧ InS k.1 x) ∧ lastL L s = k.2 := by
  rcases (lastL_max h.apart s).2.2 with h0 | ⟨x, hx, hv⟩
  · exact .inl h0
  · by_cases h0 : lastL L s = 0
    · exact .inl h0
    · obtain ⟨k, hk, hxk, e⟩ := h.apart.pos (x := x) (by rw [hv]; exact h0)
      exact .inr ⟨k, hk, ⟨x, hx, hxk⟩, hv.symm.trans e⟩
theorem last_mk {w : World} {B0 : Nat} {L : List Mk} {f l : Int} (s : Spn) (h : MK w B0 L f l) (hn : L.length ≤ 1048576) :
    Calls Try.prog 21 #[.pointer (some ⟨B0, 0, none⟩), .agg #[.string s.1, .string s.2]] w fun e w' => e = .returned (.tuple #[.int .i64 (lastL L s), .bool (decide (0 < lastL L s))]) ∧ Later w w' := by
  obtain ⟨A, n, c, h1, h2, h3⟩ := h
  exact last_any (c := c) s h1 (Rd.of_own h2) h3 (by omega)
/-- What is forgotten up to a version is not last. -/
theorem lastL_forget {L : List Mk} (h : Marked L) {f : Int} (hf : 0 ≤ f) (s : Spn) : lastL (L.filter (newer f)) s = if lastL L s ≤ f then 0 else lastL L s := by
  have hm := lastL_max h.apart s
  refine lastL_of (marked_filter h _) (fun x hx => ?_) (by split <;> omega) ?_
  · have h1 : verL (L.filter (newer f)) x = _ := ver_forget h f hf x
    rw [h1]
    have := hm.1 x hx
    split <;> split <;> omega
  · split
    · exact .inl rfl
    · rcases hm.2.2 with h0 | ⟨x, hx, hv⟩
      · exact .inl h0
      · refine .inr ⟨x, hx, ?_⟩
        have h1 : verL (L.filter (newer f)) x = _ := ver_forget h f hf x
        rw [h1, hv, if_neg (by assumption)]
theorem filter_none {L : List Mk} {f : Int} (h : ∀ k, k ∈ L → k.2 ≤ f) : L.filter (newer f) = [] := by
  rw [List.filter_eq_nil_iff]
  intro k hk
  simp [newer]; exact h k hk
/-- What the two writes of MarksWrites leave. -/
theorem writes_plain {a b : List Chg} {s : Spn} {V V2 : List Int} {M N : List Mk} {m n : Int} (h1 : JudgeAll 10 3 [] 0 [(0, [], a)] V M m) (h2 : JudgeAll 20 3 M m [(0, [], b)] V2 N n) :
    ((lastL M s = 0 ∧ lastL N s = 0 ∧ lastL (N.filter (newer 10)) s = 0) ∨ (lastL M s = 0 ∧ lastL N s = 20 ∧ lastL (N.filter (newer 10)) s = 20) ∨ (lastL M s = 10 ∧ lastL N s = 10 ∧ lastL (N.filter (newer 10)) s = 0) ∨ (lastL M s = 10 ∧ lastL N s = 20 ∧ lastL (N.filter (newer 10)) s = 20)) ∧
    (N.filter (newer 10)).filter (newer 20) = [] := by
  obtain ⟨j, rfl, a1⟩ := judgeAll_one h1
  obtain ⟨k, rfl, a2⟩ := judgeAll_one h2
  obtain ⟨rfl, w1⟩ := fine_of a1 (judgeV_nil _ _ _)
  obtain ⟨rfl, w2⟩ := fine_of a2 (judgeV_nil _ _ _)
  have hM : ∀ o, o ∈ M → o.2 = 10 := fun o ho => (wroteT_vs w1 o ho).elim id fun ⟨k, hk, _⟩ => nomatch hk
  have hN : ∀ o, o ∈ N → o.2 = 20 ∨ o.2 = 10 := fun o ho => (wroteT_vs w2 o ho).elim .inl fun ⟨k, hk, e⟩ => .inr (e.trans (hM k hk))
  obtain ⟨mM, -, -⟩ := wroteT_ver w1
  obtain ⟨mN, vN, -⟩ := wroteT_ver w2
  refine ⟨?_, by rw [List.filter_eq_nil_iff]; intro k hk; have := hN k (List.mem_filter.1 hk).1; simp [newer]; omega⟩
  rw [lastL_forget mN (by omega)]
  have xM : lastL M s = 0 ∨ lastL M s = 10 := (lastL_mem mM s).elim .inl fun ⟨k, hk, _, e⟩ => .inr (e.trans (hM k hk))
  have xN : lastL N s = 0 ∨ lastL N s = 20 ∨ lastL N s = 10 := (lastL_mem mN s).elim .inl fun ⟨k, hk, _, e⟩ => .inr ((hN k hk).elim (fun h => .inl (e.trans h)) fun h => .inr (e.trans h))
  have h10 : lastL M s = 10 → 10 ≤ lastL N s := fun h => by
    rcases (lastL_max mM.apart s).2.2 with h0 | ⟨x, hx, hv⟩
    · omega
    · have h3 := (lastL_max mN.apart s).1 x hx
      rw [vN] at h3
      split at h3 <;> omega
  have h0 : lastL M s = 0 → lastL N s ≠ 10 := fun h e => by
    rcases (lastL_max mN.apart s).2.2 with h0 | ⟨x, hx, hv⟩
    · omega
    · have h3 := (lastL_max mM.apart s).1 x hx
      rw [vN, e] at hv
      split at hv <;> omega
  rcases xM with e1 | e1 <;> rcases xN with e2 | e2 | e2 <;> rw [e1, e2] <;> simp <;> omega
end Go.Proofs.Ytidlkomgondkiaa
