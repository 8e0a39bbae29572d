/-
  front: slices.Clone of numbers and of texts.
-/
import Derived.Test.YtcmollfhlillfaaGreatDoorFrB
namespace Go.Proofs.YtcmollfhlillfaaGreatDoor
open Go.RowKit
set_option linter.unusedVariables false
set_option linter.unusedSimpArgs false
/-- What a clone is: a row of its own of the same cells; nil of nil. -/
def ClonePost (w : World) (t : TypeId) (size n : Nat) (A : Option Addr) (xs : List Value) (e : Ending) (w' : World) : Prop :=
  ∃ A' c', e = .returned (.slice A' n c') ∧ w'.ownsRow w.heap.size t size (.slice A' n c') n xs ∧ Later w w' ∧ (A' = none ↔ A = none)
set_option maxHeartbeats 2000000 in
set_option maxRecDepth 100000 in
theorem clone_int {w : World} {A : Option Addr} {n c : Nat} {xs : List Value} (hr : Rd w 1 A n xs) (h1 : ∀ u ∈ xs, u.oneCell' = true) (hn : n ≤ 1099511627776) (hA : A = none → n = 0) :
    Calls Tryz.prog 27 #[.slice A n c] w (ClonePost w 3 1 n A xs) := by
  have HR := hide_ hr; have H1 := hide_ h1
  rcases A with _ | a
  · have hn0 : n = 0 := hA rfl
    subst hn0
    have hx : xs = [] := List.eq_nil_of_length_eq_zero (by have := hr.1; omega)
    subst hx
    clear hr h1 hA HR H1
    have hnil := eql_slice_nil_any (P := Tryz.prog) Tryz.underlying35 w none 0 c 0 0
    go_enter Tryz.func27, Tryz.ntmps27
    go_wp2_with fail
    go_ret
    exact ⟨none, 0, rfl, World.ownsRow_nil _ _ _ _, Later.refl _, Iff.rfl⟩
  · clear hr h1 hA
    have hnil := eql_slice_nil_any (P := Tryz.prog) Tryz.underlying35 w (some a) n c 0 0
    have hn2 : (n : Int) ≤ 1099511627776 := by omega
    go_enter Tryz.func27, Tryz.ntmps27
    go_wp2_with (at_builtin; refine wpList_append_rd _ rfl (.tmp 5) (.tmp 6) 35 rfl w.heap.size 3 1 8 intT (.slice (some ⟨w.heap.size, 0, none⟩) 0 0) 0 [] rfl (own_new w #[] 3 1 0 w.heap.size rfl (by unfold maxLen; omega) (Nat.le_refl _)) (some a) n c xs rfl (HR.out.alloc _) H1.out (by omega) (by unfold maxLen; omega) (by simp) (fun h => by cases h) ?c8)
    case c8 =>
      intro v9 w9 hown hg hat
      obtain ⟨A9, c9, hv9⟩ := own_form hown
      subst hv9
      have HN := hide_ (show A9 ≠ none from fun h => by subst h; rcases hat with h | h <;> cases h)
      have HB := hide_ (show Later w w9 from own_grown (later_alloc w (.cells #[] 3)) (own_new w #[] 3 1 0 w.heap.size rfl (by unfold maxLen; omega) (Nat.le_refl _)) hg (by simp))
      have HO := hide_ (show w9.ownsRow w.heap.size 3 1 (.slice A9 n c9) n xs by simpa using hown)
      clear hown hg hat
      go_wp2_with fail
      go_ret
      exact ⟨A9, c9, rfl, HO.out, HB.out, ⟨fun h => absurd h HN.out, fun h => by cases h⟩⟩
set_option maxHeartbeats 2000000 in
set_option maxRecDepth 100000 in
theorem clone_str {w : World} {A : Option Addr} {n c : Nat} {xs : List Value} (hr : Rd w 1 A n xs) (h1 : ∀ u ∈ xs, u.oneCell' = true) (hn : n ≤ 1099511627776) (hA : A = none → n = 0) :
    Calls Tryz.prog 28 #[.slice A n c] w (ClonePost w 9 1 n A xs) := by
  have HR := hide_ hr; have H1 := hide_ h1
  rcases A with _ | a
  · have hn0 : n = 0 := hA rfl
    subst hn0
    have hx : xs = [] := List.eq_nil_of_length_eq_zero (by have := hr.1; omega)
    subst hx
    clear hr h1 hA HR H1
    have hnil := eql_slice_nil_any (P := Tryz.prog) Tryz.underlying38 w none 0 c 0 0
    go_enter Tryz.func28, Tryz.ntmps28
    go_wp2_with fail
    go_ret
    exact ⟨none, 0, rfl, World.ownsRow_nil _ _ _ _, Later.refl _, Iff.rfl⟩
  · clear hr h1 hA
    have hnil := eql_slice_nil_any (P := Tryz.prog) Tryz.underlying38 w (some a) n c 0 0
    have hn2 : (n : Int) ≤ 1099511627776 := by omega
    go_enter Tryz.func28, Tryz.ntmps28
    go_wp2_with (at_builtin; refine wpList_append_rd _ rfl (.tmp 5) (.tmp 6) 38 rfl w.heap.size 9 1 16 strT (.slice (some ⟨w.heap.size, 0, none⟩) 0 0) 0 [] rfl (own_new w #[] 9 1 0 w.heap.size rfl (by unfold maxLen; omega) (Nat.le_refl _)) (some a) n c xs rfl (HR.out.alloc _) H1.out (by omega) (by unfold maxLen; omega) (by simp) (fun h => by cases h) ?c8)
    case c8 =>
      intro v9 w9 hown hg hat
      obtain ⟨A9, c9, hv9⟩ := own_form hown
      subst hv9
      have HN := hide_ (show A9 ≠ none from fun h => by subst h; rcases hat with h | h <;> cases h)
      have HB := hide_ (show Later w w9 from own_grown (later_alloc w (.cells #[] 9)) (own_new w #[] 9 1 0 w.heap.size rfl (by unfold maxLen; omega) (Nat.le_refl _)) hg (by simp))
      have HO := hide_ (show w9.ownsRow w.heap.size 9 1 (.slice A9 n c9) n xs by simpa using hown)
      clear hown hg hat
      go_wp2_with fail
      go_ret
      exact ⟨A9, c9, rfl, HO.out, HB.out, ⟨fun h => absurd h HN.out, fun h => by cases h⟩⟩

end Go.Proofs.YtcmollfhlillfaaGreatDoor
