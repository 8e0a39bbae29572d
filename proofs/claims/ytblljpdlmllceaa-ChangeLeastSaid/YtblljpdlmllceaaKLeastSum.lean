/-
  What Least answers, in one form; a list of changes cut at a constant.
-/
import Derived.Test.YtblljpdlmllceaaKLeast
import Derived.Test.YtblljpdlmllceaaKHasP
import Derived.Test.YtblljpdlmllceaaKSameC
namespace Go.Proofs.Ytblljpdlmllceaa
open Go.RowKit
set_option linter.unusedVariables false
set_option linter.unusedSimpArgs false
/-- What Least answers, in one form. -/
def LeastSum (C : List Chg) (p : Nat) (w : World) (e : Ending) (w' : World) : Prop :=
  (∃ (A' : Option Addr) (D : List Chg) (n c' : Nat) (err : Int), e = .returned (.tuple #[.slice A' n c', .int .i64 err]) ∧ D.length = n ∧ n ≤ p * p + p ∧ Rd w' 3 A' n (crow D) ∧ (err = 0 ↔ chkAll C = 0) ∧ (chkAll C ≠ 0 → err = chkAll C) ∧
    (err = 0 → ∃ (R : List Spn) (M : List Pr), Canon R ∧ (∀ x, InL R x ↔ goneOf C x) ∧ AppOf [] C M ∧ D = leastC R M)) ∧ Later w w'
theorem least_sum {w : World} {A : Option Addr} {p c : Nat} {C : List Chg} (hr : Rd w 3 A p (crow C)) (hl : C.length = p) (hn : p ≤ 1048576) :
    Calls Try.prog 30 #[.slice A p c] w (LeastSum C p w) := by
  refine (least_any (c := c) hr hl hn).mono fun e w' h => ?_
  rcases h with ⟨⟨h0, rfl⟩ | ⟨h0, u, n, R, M, rfl, hc, hk, hM, hln, hnp, ho⟩, hb⟩
  · exact ⟨⟨none, [], 0, 0, chkAll C, rfl, rfl, Nat.zero_le _, Rd.nil _ _ _, Iff.rfl, fun _ => rfl, fun h => absurd h h0⟩, hb⟩
  · obtain ⟨A', c', rfl⟩ := own_form ho
    exact ⟨⟨A', leastC R M, n, c', 0, rfl, hln, hnp, Rd.of_own ho, ⟨fun _ => h0, fun _ => rfl⟩, fun h => absurd h0 h, fun _ => ⟨R, M, hc, hk, hM, rfl⟩⟩, hb⟩
theorem rd_take3 {w : World} {A : Option Addr} {n : Nat} {L : List Chg} (hr : Rd w 3 A n (crow L)) (hl : L.length = n) {m : Nat} (hm : m ≤ n) : Rd w 3 A m (crow (L.take m)) ∧ (L.take m).length = m := by
  refine ⟨?_, by rw [List.length_take, hl]; omega⟩
  have := hr.take hm
  rwa [show (crow L).take (m * 3) = crow (L.take m) from rec_take encC_len L m] at this
def CutAt (A : Option Addr) (m : Nat) (M : List Chg) (w : World) : Prop := Rd w 3 A m (crow M) ∧ M.length = m ∧ (A = none → m = 0)
end Go.Proofs.Ytblljpdlmllceaa
