/-
  Plain facts: the document's Judge and Size, by what Marks say of keys.
-/
import Derived.Test.YtidlkomgondkiaaKMarkLaw
namespace Go.Proofs.Ytidlkomgondkiaa
open Go.RowKit
set_option linter.unusedVariables false
theorem lastW_map {v : Int} {x : ByteArray} : ∀ {R : List Spn} {W : List Mk}, (InL R x → lastW (W ++ R.map fun r => (r, v)) x = v) ∧ (¬ InL R x → lastW (W ++ R.map fun r => (r, v)) x = lastW W x) := by
  intro R
  induction R with
  | nil => intro W; exact ⟨fun h => absurd h InL.nil, fun _ => by rw [List.map_nil, List.append_nil]⟩
  | cons r R ih =>
    intro W
    have e : W ++ (r :: R).map (fun r => (r, v)) = (W ++ [(r, v)]) ++ R.map fun r => (r, v) := by simp
    rw [e]
    by_cases hR : InL R x
    · exact ⟨fun _ => ih.1 hR, fun h => absurd (InL.cons.2 (.inr hR)) h⟩
    · rw [ih.2 hR]
      exact ⟨fun h => lastW_yes (show InS ((r, v) : Mk).1 x from (InL.cons.1 h).resolve_right hR), fun h => lastW_no (show ¬ InS ((r, v) : Mk).1 x from fun h2 => h (InL.cons.2 (.inl h2)))⟩
/-- One transaction written on both sides. -/
theorem agree_wrote {L M W : List Mk} {f l m v : Int} {C : List Chg} {R : List Spn} (h : Agree L W f) (hv : f < v) (hw : WroteT L l C v M m) (hc : Canon R) (hk : ∀ k, InL R k ↔ InL (spansC C) k) :
    Agree M (W ++ R.map fun r => (r, v)) f ∧ m = (if R = [] then l else v) ∧ R.length ≤ C.length := by
  obtain ⟨R0, hc0, hk0, hl, hw0, hm⟩ := hw
  obtain rfl : R0 = R := canon_uniq hc0 hc fun x => (hk0 x).trans (hk x).symm
  refine ⟨fun x => ?_, hm, hl⟩
  by_cases hx : InL R0 x
  · rw [(hw0.2.1 x).1 hx, lastW_map.1 hx]
    exact (if_neg (by omega)).symm
  · rw [(hw0.2.1 x).2 hx, lastW_map.2 hx]
    exact h x
theorem judgeAll_next {v f : Int} {L M : List Mk} {l m : Int} {T : List Tx} {V : List Int} {k : Nat} {t : Tx} (h : JudgeAll v f L l (T.drop k) (V.drop k) M m) (ht : T[k]? = some t) :
    ∃ j N n, V[k]? = some j ∧ JudgeOne v f L l t j N n ∧ JudgeAll v f N n (T.drop (k + 1)) (V.drop (k + 1)) M m := by
  have e := List.getElem?_eq_some_iff.1 ht
  rw [List.drop_eq_getElem_cons e.1, e.2] at h
  obtain ⟨j, N, n, V', h1, h2, h3⟩ := h
  have h4 : V[k]? = some j := by
    have h := List.getElem?_drop (xs := V) (i := k) (j := 0)
    rw [h2] at h; exact h.symm
  refine ⟨j, N, n, h4, h1, ?_⟩
  have h5 : V.drop (k + 1) = V' := by rw [← List.drop_drop, h2]; rfl
  rw [h5]; exact h3
theorem judgeAll_done {v f : Int} {L M : List Mk} {l m : Int} {T : List Tx} {V : List Int} (h : JudgeAll v f L l (T.drop T.length) (V.drop T.length) M m) : M = L ∧ m = l := by
  rw [List.drop_length] at h
  exact h.2
/-- Where what is left of a write begins. -/
theorem piece_fromL {k : Spn} {S R : List Spn} (hc : Canon R) (hk : ∀ x, InL R x ↔ InS k x ∧ ¬ InL S x) {r : Spn} (hr : r ∈ R) : r.1 = k.1 ∨ ∃ s, s ∈ S ∧ r.1 = s.2 := by
  by_cases h1 : r.1 = k.1
  · exact .inl h1
  · by_cases h2 : ∃ s, s ∈ S ∧ r.1 = s.2
    · exact .inr h2
    · exfalso
      have hrr := hc.mem r hr
      have hin := ((hk r.1).1 ⟨r, hr, by unfold InS; grind⟩)
      have hlt : k.1 < r.1 := by have := hin.1; unfold InS at this; grind
      obtain ⟨y, hy, hf⟩ := max_below (k.1 :: S.map (fun t => t.2) ++ R.map (fun t => t.2)) (x := r.1) (by have := empty_lo k.1; grind)
      have hy1 : k.1 ≤ y := by
        rcases hf k.1 (by simp) with h | h
        · exact h
        · grind
      have hkr : InS k r.1 := hin.1
      have hys : ¬ InL S y := by
        rintro ⟨s, hs, hsy⟩
        have h3 := hf s.2 (by simp; exact .inr (.inl ⟨s.1, hs⟩))
        have h4 : ¬ InS s r.1 := fun h => hin.2 ⟨s, hs, h⟩
        have h5 : ¬ r.1 = s.2 := fun h => h2 ⟨s, hs, h⟩
        unfold InS at hsy h4
        grind
      obtain ⟨t, ht, hty⟩ := (hk y).2 ⟨by unfold InS at hkr ⊢; grind, hys⟩
      have h3 := hf t.2 (by simp; exact .inr (.inr ⟨t.1, ht⟩))
      have h4 := canon_apart hc ht hr
      unfold InS at hty
      grind
theorem left_len {W : List Mk} {i : Nat} {k : Mk} {R : List Spn} (h : LeftW W i k R) (hi : i < W.length) : R.length ≤ W.length := by
  have hd : (spansW (W.drop (i + 1))).length = W.length - (i + 1) := by simp [spansW]
  have h1 := nodup_length (A := (R.map fun r => (r, (1 : Int))).map fun k => k.1.1) (B := k.1.1 :: (spansW (W.drop (i + 1))).map fun t => t.2) (apart_nodup (canon_marked h.1 (by omega)).apart) fun x hx => by
    obtain ⟨o, ho, rfl⟩ := List.mem_map.1 hx
    obtain ⟨r, hr, rfl⟩ := List.mem_map.1 ho
    rcases piece_fromL h.1 h.2 hr with h2 | ⟨s, hs, h2⟩
    · show r.1 ∈ _; rw [h2]; exact List.mem_cons_self ..
    · show r.1 ∈ _; rw [h2]; exact List.mem_cons_of_mem _ (List.mem_map.2 ⟨s, hs, rfl⟩)
  simp only [List.length_map, List.length_cons, hd] at h1
  omega
theorem touches_snoc {P Q : List Mk} {i : Nat} {k : Mk} (h : P[i]? = some k) : touches (P.take (i + 1)) Q = touches (P.take i) Q + Q.countP fun j => touch k j := by
  unfold touches; rw [take_snoc h, List.map_append, List.sum_append]; simp
theorem countP_snoc {Q : List Mk} {i : Nat} {k : Mk} {p : Mk → Bool} (h : Q[i]? = some k) : (Q.take (i + 1)).countP p = (Q.take i).countP p + (if p k = true then 1 else 0) := by
  rw [take_snoc h, List.countP_append, List.countP_cons, List.countP_nil]; omega
theorem touches_le {P : List Mk} (hP : Apart P) (i : Nat) : touches (P.take i) P ≤ P.length := by
  have h1 := touches_runs hP P
  have h2 : touches (P.take i) P + touches (P.drop i) P = touches P P := by
    unfold touches
    rw [← List.sum_append, ← List.map_append, List.take_append_drop]
  omega
theorem agree_verdict {L : List Mk} {W : List Mk} {f n : Int} {s : Spn} (h : Agree L W f) (hm : Marked L) (hn : LastI W f s W.length n) : n = lastL L s := (agree_last h hm hn).symm
end Go.Proofs.Ytidlkomgondkiaa
