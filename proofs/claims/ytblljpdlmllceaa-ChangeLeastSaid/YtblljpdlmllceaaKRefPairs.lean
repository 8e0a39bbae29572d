/-
  The document's Pairs: equal pairs are the same.
-/
import Derived.Test.YtblljpdlmllceaaKRefSound
import Derived.Test.YtblljpdlmllceaaKApply
namespace Go.Proofs.Ytblljpdlmllceaa
open Go.RowKit
set_option linter.unusedVariables false
set_option linter.unusedSimpArgs false
theorem toList_inj (a b : ByteArray) : a.toList = b.toList ↔ a = b := by
  rw [Lib.toList_data, Lib.toList_data]
  exact ⟨ba_ext, fun h => by rw [h]⟩
/-- '==' of two spans. -/
theorem eq_pair (x y : Pr) (W : World) : (binOp .eql 55 (.agg #[.string x.1, .string x.2]) (.agg #[.string y.1, .string y.2])).run Try.prog W = .ok (.bool (decide (x = y))) W := by
  have hS : Try.prog.underlying 55 = some (.struct (Try.prog.fieldsOf 55)) := by kernel_rfl
  have hp : Try.prog.stoodInHeld 55 = false := by kernel_rfl
  rw [run_eql_struct, show (10000 : Nat) = 9999 + 1 from rfl, run_equalIn_agg W 9999 55 _ _ hS hp]
  simp only [Program.fieldsOf, Try.underlying55]
  go_simp
  simp only [toList_inj]
  obtain ⟨x1, x2⟩ := x
  obtain ⟨y1, y2⟩ := y
  by_cases h1 : x1 = y1 <;> by_cases h2 : x2 = y2 <;> simp [h1, h2]
theorem neq_pair (x y : Pr) (W : World) : (binOp .neq 55 (.agg #[.string x.1, .string x.2]) (.agg #[.string y.1, .string y.2])).run Try.prog W = .ok (.bool (!decide (x = y))) W := by
  have hS : Try.prog.underlying 55 = some (.struct (Try.prog.fieldsOf 55)) := by kernel_rfl
  have hp : Try.prog.stoodInHeld 55 = false := by kernel_rfl
  rw [run_neq_struct, show (10000 : Nat) = 9999 + 1 from rfl, run_equalIn_agg W 9999 55 _ _ hS hp]
  simp only [Program.fieldsOf, Try.underlying55]
  go_simp
  simp only [toList_inj]
  obtain ⟨x1, x2⟩ := x
  obtain ⟨y1, y2⟩ := y
  by_cases h1 : x1 = y1 <;> by_cases h2 : x2 = y2 <;> simp [h1, h2]
theorem guard_pair (op : BinOp) (x y : Operand) (xs ys : Array Value) (W : World) : (eqGuard op 55 x y (.agg xs) (.agg ys)).run Try.prog W = .ok () W := run_eqGuard_agg W op 55 x y xs ys (by kernel_rfl)
set_option maxHeartbeats 1000000 in
theorem pairs_yes {w : World} {A A' : Option Addr} {n c c' : Nat} {L : List Pr} (hr : Rd w 2 A n (prow L)) (hr' : Rd w 2 A' n (prow L)) (hl : L.length = n) (hn : n ≤ 4398046511104) :
    Calls Try.prog 15 #[.slice A n c, .slice A' n c'] w fun e w' => e = .returned (.bool true) ∧ Later w w' := by
  have HR := hide_ hr
  have HR' := hide_ hr'
  have HL := hide_ hl
  have hn2 : (n : Int) ≤ 4398046511104 := by omega
  clear hr hr' hl
  go_enter Try.func15, Try.ntmps15
  go_wp2_with fail
  go_loopw [5] (fun s5 wr => ∃ k : Nat, k ≤ n ∧ s5 = .int .i64 k ∧ Hid (Later w wr)) (fun i _ => n - (intOf i).toNat)
  case atStart => exact ⟨0, Nat.zero_le _, rfl, Later.refl w⟩
  case round =>
    obtain ⟨k, hk, rfl, HB⟩ := hrel
    by_cases hlt : k < n
    · have q1 : (k : Int) < (n : Int) := by omega
      have q2 : (k : Int) ≤ 4398046511104 := by omega
      obtain ⟨s, hs⟩ : ∃ s, L[k]? = some s := ⟨_, List.getElem?_eq_getElem (by rw [HL.out]; exact hlt)⟩
      obtain ⟨b, o, rfl, c1, c2⟩ := (HR.out.below HB.out).pair hs
      obtain ⟨b', o', rfl, c3, c4⟩ := (HR'.out.below HB.out).pair hs
      have e1 := fun W => neq_pair s s W
      simp only [decide_true, Bool.not_true] at e1
      have e2 := guard_pair
      clear hs
      go_wp2_with fail
      go_quiet (fail)
      go_wp2_with fail
      go_roundw
      case rel => exact ⟨k + 1, by omega, by go_num, below_drewN HB.out _⟩
      case measure => simp [intOf]; omega
    · go_wp2_with fail
      go_ret
      exact ⟨rfl, HB.out⟩
theorem one_fun {L M M' : List Pr} {kind : Int} {k v : ByteArray} (h : OneOf L kind k v M) (h' : OneOf L kind k v M') : M = M' := ris_uniq h.1 h'.1 fun p => (h.2 p).trans (h'.2 p).symm
theorem app_fun {C : List Chg} : ∀ {L M M' : List Pr}, AppOf L C M → AppOf L C M' → M = M' := by
  induction C with
  | nil => intro L M M' h h'; exact h.trans h'.symm
  | cons c C ih =>
    intro L M M' h h'
    obtain ⟨N, h1, h2⟩ := h
    obtain ⟨N', h1', h2'⟩ := h'
    obtain rfl := one_fun h1 h1'
    exact ih h2 h2'
end Go.Proofs.Ytblljpdlmllceaa
