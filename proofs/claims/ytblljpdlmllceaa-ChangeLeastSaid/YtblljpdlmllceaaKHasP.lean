/-
  The law's own 'has'; what Spans and Cut answer, in one form.
-/
import Derived.Test.YtblljpdlmllceaaG7
namespace Go.Proofs.Ytblljpdlmllceaa
open Go.RowKit
set_option linter.unusedVariables false
set_option linter.unusedSimpArgs false
def HasPost (L : List Pr) (x : Pr) (w : World) (e : Ending) (w' : World) : Prop := (∃ r : Bool, e = .returned (.bool r) ∧ (r = true ↔ x ∈ L)) ∧ Later w w'
set_option maxHeartbeats 1000000 in
theorem hasp_any {w : World} {A : Option Addr} {n c : Nat} {L : List Pr} (x : Pr) (hr : Rd w 2 A n (prow L)) (hl : L.length = n) (hn : n ≤ 4398046511104) :
    Calls Try.prog 29 #[.slice A n c, .agg #[.string x.1, .string x.2]] w (HasPost L x w) := by
  obtain ⟨W0, hW0⟩ : ∃ W0, W0 = w.alloc (.cells #[.string x.1, .string x.2] 55) := ⟨_, rfl⟩
  have HBX := hide_ (show W0.heap[w.heap.size]? = some (.cells #[.string x.1, .string x.2] 55 (0, 0)) by rw [hW0]; exact heap_alloc_new w _)
  have HB0 := hide_ (show Later w W0 by rw [hW0]; exact later_alloc _ _)
  have HR := hide_ (hr.below HB0.out)
  have HW := hide_ hW0.symm
  have HL := hide_ hl
  have hn2 : (n : Int) ≤ 4398046511104 := by omega
  clear hr hl hW0
  go_enter Try.func29, Try.ntmps29
  go_wp2_with fail
  rw [HW.out]
  go_loopw [5] (fun s5 wr => ∃ k : Nat, k ≤ n ∧ s5 = .int .i64 k ∧ Hid (x ∉ L.take k) ∧ Hid (Later W0 wr)) (fun i _ => n - (intOf i).toNat)
  case atStart => exact ⟨0, Nat.zero_le _, rfl, hide_ (by simp), Later.refl _⟩
  case round =>
    obtain ⟨k, hk, rfl, HN, HB⟩ := hrel
    by_cases hlt : k < n
    · have q1 : (k : Int) < (n : Int) := by omega
      have q2 : (k : Int) ≤ 4398046511104 := by omega
      obtain ⟨s, hs⟩ : ∃ s, L[k]? = some s := ⟨_, List.getElem?_eq_getElem (by rw [HL.out]; exact hlt)⟩
      obtain ⟨b, o, rfl, c1, c2⟩ := (HR.out.below HB.out).pair hs
      have hx1 := (HB.out.block w.heap.size (heap_lt0 HBX.out)).trans HBX.out
      have y0 := cell_of_row _ _ 0 _ _ (0, 0) hx1
      have y1 := cell_of_row _ _ 1 _ _ (0, 0) hx1
      have HS := hide_ (take_snoc hs)
      have HM := hide_ (List.mem_of_getElem? hs)
      have e2 := guard_pair
      by_cases hsx : s = x
      · subst hsx
        have e1 := fun W => eq_pair s s W
        simp only [decide_true] at e1
        clear hs hx1
        go_wp2_with fail
        go_quiet (fail)
        go_wp2_with fail
        go_ret
        exact ⟨⟨true, rfl, fun _ => HM.out, fun _ => rfl⟩, (Later.trans HB0.out (below_drewN HB.out _))⟩
      · have e1 := fun W => eq_pair s x W
        simp only [hsx, decide_false] at e1
        have HSX := hide_ hsx
        clear hs hsx hx1
        go_wp2_with fail
        go_quiet (fail)
        go_wp2_with fail
        go_roundw
        case rel => exact ⟨k + 1, by omega, by go_num, hide_ (by rw [HS.out]; simp only [List.mem_append, List.mem_singleton]; rintro (h | h); exact HN.out h; exact HSX.out h.symm), below_drewN HB.out _⟩
        case measure => simp [intOf]; omega
    · obtain rfl : k = n := by omega
      have HF := hide_ (show L.take k = L by rw [← HL.out, List.take_length])
      go_wp2_with fail
      go_ret
      exact ⟨⟨false, rfl, fun h => (by cases h), fun h => absurd (by rw [HF.out]; exact h) HN.out⟩, Later.trans HB0.out HB.out⟩
/-- What Spans answers, in one form. -/
def SpansSum (C : List Chg) (p : Nat) (w : World) (e : Ending) (w' : World) : Prop :=
  (∃ (A' : Option Addr) (R : List Spn) (q c' : Nat) (err : Int), e = .returned (.tuple #[.slice A' q c', .int .i64 err]) ∧ R.length = q ∧ q ≤ p ∧ Rd w' 2 A' q (srow R) ∧ (err = 0 ↔ chkAll C = 0) ∧ (err = 0 → Canon R ∧ ∀ k, InL R k ↔ InL (spansC C) k)) ∧ Later w w'
theorem spans_sum {w : World} {A : Option Addr} {p c : Nat} {C : List Chg} (hr : Rd w 3 A p (crow C)) (hl : C.length = p) (hn : p ≤ 1048576) :
    Calls Try.prog 25 #[.slice A p c] w (SpansSum C p w) := by
  refine (spans_any (c := c) hr hl hn).mono fun e w' h => ?_
  rcases h with ⟨⟨h0, rfl⟩ | ⟨h0, A', R, q, rfl, hq, hqp, hA, hR, hc, hk⟩, hb⟩
  · exact ⟨⟨none, [], 0, 0, chkAll C, rfl, rfl, Nat.zero_le _, Rd.nil _ _ _, Iff.rfl, fun h => absurd h h0⟩, hb⟩
  · exact ⟨⟨A', R, q, q, 0, rfl, hq, hqp, hR, ⟨fun _ => h0, fun _ => rfl⟩, fun _ => ⟨hc, hk⟩⟩, hb⟩
/-- What Cut answers, in one form. -/
def CutSum (s : Spn) (C : List Chg) (p : Nat) (w : World) (e : Ending) (w' : World) : Prop :=
  (∃ (A' : Option Addr) (D : List Chg) (m c' : Nat) (err : Int), e = .returned (.tuple #[.slice A' m c', .int .i64 err]) ∧ D.length = m ∧ m ≤ p ∧ Rd w' 3 A' m (crow D) ∧ (err = 0 → s.1.size ≤ 17 ∧ s.2.size ≤ 17 ∧ D = cutC s C)) ∧ Later w w'
theorem cut_sum {w : World} {A : Option Addr} {p c : Nat} {C : List Chg} (s : Spn) (hr : Rd w 3 A p (crow C)) (hl : C.length = p) (hn : p ≤ 1048576) (hs1 : s.1.size ≤ maxLen) (hs2 : s.2.size ≤ maxLen) :
    Calls Try.prog 21 #[.agg #[.string s.1, .string s.2], .slice A p c] w (CutSum s C p w) := by
  refine (cut_any (c := c) s hr hl hn hs1 hs2).mono fun e w' h => ?_
  rcases h with ⟨⟨h0, rfl⟩ | ⟨h0, hlg, rfl⟩ | ⟨h0, hz1, hz2, u, m, rfl, hm, hmp, ho⟩, hb⟩
  · exact ⟨⟨none, [], 0, 0, chkAll C, rfl, rfl, Nat.zero_le _, Rd.nil _ _ _, fun h => absurd h h0⟩, hb⟩
  · exact ⟨⟨none, [], 0, 0, 6, rfl, rfl, Nat.zero_le _, Rd.nil _ _ _, fun h => (by cases h)⟩, hb⟩
  · obtain ⟨A1, c1, rfl⟩ := own_form ho
    exact ⟨⟨A1, cutC s C, m, c1, 0, rfl, hm, hmp, Rd.of_own ho, fun _ => ⟨hz1, hz2, rfl⟩⟩, hb⟩

end Go.Proofs.Ytblljpdlmllceaa
