/-
  TaleTexts: a text is a script just if it is the text of what it is told to be.
-/
import Derived.Test.YtapiglfbkncahaaDoorTAwake
import Derived.Test.YtapiglfbkncahaaDoorTRead
import Derived.Test.YtapiglfbkncahaaDoorSplit
namespace Go.Proofs.YtapiglfbkncahaaDoor
open Go.RowKit
set_option linter.unusedVariables false
theorem eql_set (x y : SV) (W : World) : (binOp .eql 35 x.val y.val).run Tryd.prog W = .ok (.bool (decide (x = y))) W := by
  have hS : Tryd.prog.underlying 35 = some (.struct (Tryd.prog.fieldsOf 35)) := by kernel_rfl
  have hp : Tryd.prog.stoodInHeld 35 = false := by kernel_rfl
  unfold SV.val
  rw [run_eql_struct, show (10000 : Nat) = 9999 + 1 from rfl, run_equalIn_agg W 9999 35 _ _ hS hp]
  simp only [Program.fieldsOf, Tryd.underlying35]
  go_simp
  obtain ⟨x1, x2, x3, x4, x5, x6⟩ := x
  obtain ⟨y1, y2, y3, y4, y5, y6⟩ := y
  by_cases h1 : x1 = y1 <;> by_cases h2 : x2 = y2 <;> by_cases h3 : x3 = y3 <;> by_cases h4 : x4 = y4 <;> by_cases h5 : x5 = y5 <;> by_cases h6 : x6 = y6 <;> simp [h1, h2, h3, h4, h5, h6]
theorem neq_set (x y : SV) (W : World) : (binOp .neq 35 x.val y.val).run Tryd.prog W = .ok (.bool (!decide (x = y))) W := by
  have hS : Tryd.prog.underlying 35 = some (.struct (Tryd.prog.fieldsOf 35)) := by kernel_rfl
  have hp : Tryd.prog.stoodInHeld 35 = false := by kernel_rfl
  unfold SV.val
  rw [run_neq_struct, show (10000 : Nat) = 9999 + 1 from rfl, run_equalIn_agg W 9999 35 _ _ hS hp]
  simp only [Program.fieldsOf, Tryd.underlying35]
  go_simp
  obtain ⟨x1, x2, x3, x4, x5, x6⟩ := x
  obtain ⟨y1, y2, y3, y4, y5, y6⟩ := y
  by_cases h1 : x1 = y1 <;> by_cases h2 : x2 = y2 <;> by_cases h3 : x3 = y3 <;> by_cases h4 : x4 = y4 <;> by_cases h5 : x5 = y5 <;> by_cases h6 : x6 = y6 <;> simp [h1, h2, h3, h4, h5, h6]
theorem guard_set (op : BinOp) (x y : Operand) (xs ys : Array Value) (W : World) : (eqGuard op 35 x y (.agg xs) (.agg ys)).run Tryd.prog W = .ok () W := run_eqGuard_agg W op 35 x y xs ys (by kernel_rfl)
set_option maxHeartbeats 2000000 in
set_option maxRecDepth 100000 in
theorem texts_any {B : Nat} {w : World} (h : Env B w) (t : List UInt8) (hl : t.length ≤ 67108864) : Calls Tryd.prog 6 #[.string ⟨t.toArray⟩] w fun e w' => e = .returned (.bool true) ∧ Later w w' := by
  have HE := hide_ h
  have hne := fun (x y : SV) => eql_set x y
  have hgu := guard_set
  have HRE := hide_ (read_any h t hl)
  clear h hl
  go_enter Tryd.func6, Tryd.ntmps6
  go_wp2_with fail
  refine HRE.out.mono ?_; rintro e w1 ⟨ho, hl1⟩
  rcases ho with ⟨s, A, n, c, L, rfl, hRd, hLn, hs, hmid, hscr⟩ | ⟨rfl, hno⟩
  · obtain ⟨W2, hW2⟩ : ∃ W2, W2 = w1.alloc (.cells s.row 35) := ⟨_, rfl⟩
    have hl2 : Later w1 W2 := by rw [hW2]; exact later_alloc _ _
    have HR2 := hide_ (show W2.heap[w1.heap.size]? = some (.cells s.row 35 (0, 0)) by rw [hW2]; exact heap_alloc_new w1 _)
    have HL2 := hide_ (hl1.trans hl2)
    have HRD := hide_ (hRd.below hl2)
    have HSC := hide_ hscr
    have hn4 : n ≤ 4096 := by rw [← hLn]; obtain ⟨_, p⟩ := script_parts hscr; exact p.len
    have hscr := script_any (HE.out.later HL2.out) s hs HRD.out hLn (by omega) hmid (c := c)
    unfold ScriptPost at hscr
    rw [HSC.out] at hscr
    have HSP := hide_ (show Calls Tryd.prog 11 #[.agg #[.int .i64 s.n0, .int .i64 s.n1, .int .i64 s.n2, .int .i64 s.n3, .int .i64 s.n4, .int .i64 s.n5], .slice A n c] W2 fun e w' => e = .returned (.tuple #[.string ⟨t.toArray⟩, .int .i64 0]) ∧ Later W2 w' from hscr)
    have HW2 := hide_ hW2.symm
    unfold SV.row at HW2
    obtain ⟨⟨y0, y1, y2, y3, y4, y5⟩, _⟩ := six_nums HR2.out
    unfold SV.val
    clear hW2 hl1 hl2 hRd hLn hs hmid hscr hne hgu
    go_wp2_with (rw [HW2.out])
    refine HSP.out.mono ?_; rintro e w3 ⟨rfl, hl3⟩
    have HL3 := hide_ (HL2.out.trans hl3)
    clear hl3 y0 y1 y2 y3 y4 y5
    go_wp2_with fail
    refine (awake_any (HE.out.later HL3.out)).mono ?_; rintro e w4 ⟨rfl, hl4⟩
    have HL4 := hide_ (HL3.out.trans hl4)
    clear hl4
    go_wp2_with fail
    go_ret
    exact ⟨rfl, HL4.out⟩
  · obtain ⟨W2, hW2⟩ : ∃ W2, W2 = w1.alloc (.cells SV.zero.row 35) := ⟨_, rfl⟩
    have HR2 := hide_ (show W2.heap[w1.heap.size]? = some (.cells SV.zero.row 35 (0, 0)) by rw [hW2]; exact heap_alloc_new w1 _)
    have HL2 := hide_ (show Later w W2 by rw [hW2]; exact hl1.trans (later_alloc _ _))
    have HW2 := hide_ hW2.symm
    unfold SV.row SV.zero at HW2
    unfold SV.val SV.zero
    clear hW2 hl1 hno
    go_wp2_with fail
    rw [HW2.out]
    refine (awake_any (HE.out.later HL2.out)).mono ?_; rintro e w4 ⟨rfl, hl4⟩
    have HL4 := hide_ (HL2.out.trans hl4)
    obtain ⟨⟨y0, y1, y2, y3, y4, y5⟩, _⟩ := six_nums (later_row hl4 HR2.out)
    simp only [SV.zero] at y0 y1 y2 y3 y4 y5
    clear hl4
    have hz := hne SV.zero SV.zero
    unfold SV.val SV.zero at hz
    go_wp2_with fail
    go_ret
    exact ⟨rfl, HL4.out⟩

end Go.Proofs.YtapiglfbkncahaaDoor
