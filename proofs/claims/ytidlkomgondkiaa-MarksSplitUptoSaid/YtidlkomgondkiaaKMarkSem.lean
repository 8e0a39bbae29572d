/-
  Plain facts: what Judge leaves, told by the versions of keys; and the marks of awake.
-/
import Derived.Test.YtidlkomgondkiaaKMSize
namespace Go.Proofs.Ytidlkomgondkiaa
open Go.RowKit
set_option linter.unusedVariables false
open Classical in
theorem wroteT_ver {L M : List Mk} {l l' v : Int} {C : List Chg} (h : WroteT L l C v M l') : Marked M ∧ (∀ x, verL M x = if InL (spansC C) x then v else verL L x) ∧ (l' = l ∨ l' = v) ∧ M.length ≤ L.length + 2 * C.length := by
  obtain ⟨R, hc, hk, hl, hw, hl'⟩ := h
  refine ⟨hw.1, fun x => ?_, ?_, by have := hw.2.2.2; omega⟩
  · by_cases hx : InL (spansC C) x
    · rw [if_pos hx]; exact (hw.2.1 x).1 ((hk x).2 hx)
    · rw [if_neg hx]; exact (hw.2.1 x).2 fun h => hx ((hk x).1 h)
  · rw [hl']; split
    · exact .inl rfl
    · exact .inr rfl
theorem lastL_of {L : List Mk} (h : Marked L) {s : Spn} {n : Int} (h1 : ∀ x, InS s x → verL L x ≤ n) (h0 : 0 ≤ n) (h2 : n = 0 ∨ ∃ x, InS s x ∧ verL L x = n) : lastL L s = n :=
  isMax_uniq (lastL_max h.apart s) ⟨h1, h0, h2⟩
theorem runs_one {k : Mk} (hk : k.1.1 < k.1.2) (hv : 0 < k.2) : runs [k] = 1 := by
  have h : Marked [k] := ⟨hk, hv, fun j hj => (by cases hj), trivial⟩
  unfold runs
  rw [List.countP_cons, List.countP_nil, start_first h]
  rfl
theorem verL_one {k : Mk} {x : ByteArray} : (InS k.1 x → verL [k] x = k.2) ∧ (¬ InS k.1 x → verL [k] x = 0) :=
  ⟨fun h => verL_yes h, fun h => by rw [verL_no h]; rfl⟩
/-- Marks of one run. -/
theorem runs_of {M : List Mk} (h : Marked M) {k : Mk} (hk : k.1.1 < k.1.2) (hv : 0 < k.2) (hs : ∀ x, (InS k.1 x → verL M x = k.2) ∧ (¬ InS k.1 x → verL M x = 0)) : runs M = 1 := by
  rw [← runs_one hk hv]
  refine runs_eq h.apart (Marked.apart ⟨hk, hv, fun j hj => (by cases hj), trivial⟩) fun x => ?_
  by_cases hx : InS k.1 x
  · rw [(hs x).1 hx, verL_yes hx]
  · rw [(hs x).2 hx, verL_no hx]; rfl
theorem judgeAll_two {v f : Int} {L M : List Mk} {l m : Int} {t u : Tx} {V : List Int} (h : JudgeAll v f L l [t, u] V M m) : ∃ j k N n, V = [j, k] ∧ JudgeOne v f L l t j N n ∧ JudgeOne v f N n u k M m := by
  obtain ⟨j, N, n, V', h1, rfl, k, N', n', V'', h2, rfl, rfl, rfl, rfl⟩ := h
  exact ⟨j, k, N, n, rfl, h1, h2⟩
theorem judgeAll_one {v f : Int} {L M : List Mk} {l m : Int} {t : Tx} {V : List Int} (h : JudgeAll v f L l [t] V M m) : ∃ j, V = [j] ∧ JudgeOne v f L l t j M m := by
  obtain ⟨j, N, n, V', h1, rfl, rfl, rfl, rfl⟩ := h
  exact ⟨j, rfl, h1⟩
theorem judgeAll_nil {v f : Int} {L M : List Mk} {l m : Int} {V : List Int} (h : JudgeAll v f L l [] V M m) : V = [] ∧ M = L ∧ m = l := h
theorem fine_of {v f : Int} {L M : List Mk} {l m j : Int} {t : Tx} (h : JudgeOne v f L l t j M m) (hj : judgeV L f t.1 t.2.1 = 1) : j = 1 ∧ WroteT L l t.2.2 v M m := by
  obtain ⟨h1, h2⟩ := h
  rw [hj] at h1
  rw [if_pos h1] at h2
  exact ⟨h1, h2⟩
theorem bad_of {v f : Int} {L M : List Mk} {l m j : Int} {t : Tx} (h : JudgeOne v f L l t j M m) (hj : judgeV L f t.1 t.2.1 ≠ 1) : j = judgeV L f t.1 t.2.1 ∧ M = L ∧ m = l := by
  obtain ⟨h1, h2⟩ := h
  rw [← h1] at hj
  rw [if_neg hj] at h2
  exact ⟨h1, h2⟩
/-- The marks of awake. -/
theorem aw_marks {V : List Int} {M : List Mk} {m : Int} (h : JudgeAll 9 5 [] 0 [(0, [], [(1, ⟨#[97]⟩, ⟨#[]⟩)]), (6, [(⟨#[97]⟩, ⟨#[98]⟩)], [])] V M m) :
    V = [1, 2] ∧ Marked M ∧ lastL M (⟨#[97]⟩, ⟨#[99]⟩) = 9 ∧ runs M = 1 ∧ M.length ≤ 2 := by
  have h1 : (⟨#[97]⟩ : ByteArray) < ⟨#[98]⟩ := by decide
  have h2 : (⟨#[97]⟩ : ByteArray) < ⟨#[99]⟩ := by decide
  obtain ⟨j, k, N, n, rfl, a, b⟩ := judgeAll_two h
  obtain ⟨rfl, hw⟩ := fine_of a (judgeV_nil _ _ _)
  obtain ⟨hm, hv, hl, hlen⟩ := wroteT_ver hw
  have hs : ∀ x, InL (spansC [((1 : Int), (⟨#[97]⟩ : ByteArray), (⟨#[]⟩ : ByteArray))]) x ↔ InS ((⟨#[97]⟩ : ByteArray), (⟨#[97]⟩ : ByteArray) ++ ⟨#[0]⟩) x := fun x => by
    show InL [spanC 1 ⟨#[97]⟩ ⟨#[]⟩] x ↔ _
    rw [InL.cons, or_iff_left InL.nil]
    unfold spanC
    rw [if_neg (by decide)]
  have hn := next_lt (⟨#[97]⟩ : ByteArray)
  generalize (⟨#[97]⟩ : ByteArray) = ka at *
  generalize (⟨#[98]⟩ : ByteArray) = kb at *
  generalize (⟨#[99]⟩ : ByteArray) = kc at *
  have hva : verL N ka = 9 := by rw [hv, if_pos ((hs ka).2 ⟨by grind, hn⟩)]
  have hle : ∀ x, verL N x ≤ 9 := fun x => by
    rw [hv]; split
    · exact Int.le_refl _
    · show (0 : Int) ≤ 9; omega
  have hb := lastL_of hm (s := (ka, kb)) (n := 9) (fun x _ => hle x) (by omega) (.inr ⟨ka, ⟨by grind, h1⟩, hva⟩)
  have hc := lastL_of hm (s := (ka, kc)) (n := 9) (fun x _ => hle x) (by omega) (.inr ⟨ka, ⟨by grind, h2⟩, hva⟩)
  have hj : judgeV N 5 6 [(ka, kb)] = 2 := judgeV_clash (by omega) (List.mem_singleton.2 rfl) (by rw [hb]; omega)
  obtain ⟨rfl, rfl, _⟩ := bad_of b (by show judgeV N 5 6 [(ka, kb)] ≠ 1; rw [hj]; omega)
  refine ⟨by show [1, judgeV M 5 6 [(ka, kb)]] = _; rw [hj], hm, hc, ?_, hlen⟩
  refine runs_of hm (k := ((ka, ka ++ ⟨#[0]⟩), 9)) hn (by show (0 : Int) < 9; omega) fun x => ⟨fun hx => ?_, fun hx => ?_⟩
  · rw [hv, if_pos ((hs x).2 hx)]
  · rw [hv, if_neg (fun h => hx ((hs x).1 h))]; rfl
end Go.Proofs.Ytidlkomgondkiaa
