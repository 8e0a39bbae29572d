/-
  The document's Same of changes: equal changes are the same.
-/
import Derived.Test.YtblljpdlmllceaaKSpans
namespace Go.Proofs.Ytblljpdlmllceaa
open Go.RowKit
set_option linter.unusedVariables false
set_option linter.unusedSimpArgs false
theorem neq_chg (x y : Chg) (W : World) : (binOp .neq 32 (.agg #[.int .i64 x.1, .string x.2.1, .string x.2.2]) (.agg #[.int .i64 y.1, .string y.2.1, .string y.2.2])).run Try.prog W = .ok (.bool (!decide (x = y))) W := by
  have hS : Try.prog.underlying 32 = some (.struct (Try.prog.fieldsOf 32)) := by kernel_rfl
  have hp : Try.prog.stoodInHeld 32 = false := by kernel_rfl
  rw [run_neq_struct, show (10000 : Nat) = 9999 + 1 from rfl, run_equalIn_agg W 9999 32 _ _ hS hp]
  simp only [Program.fieldsOf, Try.underlying32]
  go_simp
  simp only [toList_inj]
  obtain ⟨x0, x1, x2⟩ := x
  obtain ⟨y0, y1, y2⟩ := y
  by_cases h0 : x0 = y0 <;> by_cases h1 : x1 = y1 <;> by_cases h2 : x2 = y2 <;> simp [h0, h1, h2]
theorem guard_chg (op : BinOp) (x y : Operand) (xs ys : Array Value) (W : World) : (eqGuard op 32 x y (.agg xs) (.agg ys)).run Try.prog W = .ok () W := run_eqGuard_agg W op 32 x y xs ys (by kernel_rfl)
set_option maxHeartbeats 1000000 in
theorem csame_yes {w : World} {A A' : Option Addr} {n c c' : Nat} {L : List Chg} (hr : Rd w 3 A n (crow L)) (hr' : Rd w 3 A' n (crow L)) (hl : L.length = n) (hn : n ≤ 4398046511104) :
    Calls Try.prog 23 #[.slice A n c, .slice A' n c'] w fun e w' => e = .returned (.bool true) ∧ Later w w' := by
  have HR := hide_ hr
  have HR' := hide_ hr'
  have HL := hide_ hl
  have hn2 : (n : Int) ≤ 4398046511104 := by omega
  clear hr hr' hl
  go_enter Try.func23, Try.ntmps23
  go_wp2_with fail
  go_loopw [5] (fun s5 wr => ∃ k : Nat, k ≤ n ∧ s5 = .int .i64 k ∧ Hid (Later w wr)) (fun i _ => n - (intOf i).toNat)
  case atStart => exact ⟨0, Nat.zero_le _, rfl, Later.refl w⟩
  case round =>
    obtain ⟨k, hk, rfl, HB⟩ := hrel
    by_cases hlt : k < n
    · have q1 : (k : Int) < (n : Int) := by omega
      have q2 : (k : Int) ≤ 4398046511104 := by omega
      obtain ⟨s, hs⟩ : ∃ s, L[k]? = some s := ⟨_, List.getElem?_eq_getElem (by rw [HL.out]; exact hlt)⟩
      obtain ⟨b, o, rfl, c1, c2, c3⟩ := (HR.out.below HB.out).chg hs
      obtain ⟨b', o', rfl, c4, c5, c6⟩ := (HR'.out.below HB.out).chg hs
      have e1 := fun W => neq_chg s s W
      simp only [decide_true, Bool.not_true] at e1
      have e2 := guard_chg
      clear hs
      go_wp2_with fail
      go_quiet (fail)
      go_wp2_with fail
      go_roundw
      case rel => exact ⟨k + 1, by omega, by go_num, below_drewN HB.out _⟩
      case measure => simp [intOf]; omega
    · go_wp2_with fail
      go_ret
      exact ⟨rfl, HB.out⟩

end Go.Proofs.Ytblljpdlmllceaa
