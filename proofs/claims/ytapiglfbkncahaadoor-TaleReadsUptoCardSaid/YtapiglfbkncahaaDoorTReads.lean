/-
  TaleReads: a text is a line just if it is the line of the act that it is told to be.
-/
import Derived.Test.YtapiglfbkncahaaDoorTAwake
import Derived.Test.YtapiglfbkncahaaDoorTLLine
import Derived.Test.YtapiglfbkncahaaDoorSplit
namespace Go.Proofs.YtapiglfbkncahaaDoor
open Go.RowKit
set_option linter.unusedVariables false
set_option maxHeartbeats 1000000 in
set_option maxRecDepth 100000 in
theorem reads_any {B : Nat} {w : World} (h : Env B w) (l : List UInt8) (hl : l.length ≤ 1073741824) : Calls Tryd.prog 4 #[.string ⟨l.toArray⟩] w fun e w' => e = .returned (.bool true) ∧ Later w w' := by
  have HE := hide_ h
  have hact := act_any h l hl
  unfold ActPost at hact
  have hne := fun (x y : AV) => eql_act x y
  have hgu := guard_act
  cases hx : actF l with
  | none =>
    rw [hx] at hact
    have HAC := hide_ (show Calls Tryd.prog 10 #[.string ⟨l.toArray⟩] w fun e w' => e = .returned (.tuple #[.agg #[.int .i64 0, .int .i64 0, .int .i64 0, .int .i64 0, .string ⟨#[]⟩, .string ⟨#[]⟩], .int .i64 17]) ∧ Later w w' from hact)
    clear h hact hx
    go_enter Tryd.func4, Tryd.ntmps4
    go_wp2_with fail
    refine HAC.out.mono ?_; rintro e w1 ⟨rfl, hl1⟩
    obtain ⟨W2, hW2⟩ : ∃ W2, W2 = w1.alloc (.cells #[.int .i64 0, .int .i64 0, .int .i64 0, .int .i64 0, .string ⟨#[]⟩, .string ⟨#[]⟩] 23) := ⟨_, rfl⟩
    have hr2 : W2.heap[w1.heap.size]? = some (.cells AV.zero.row 23 (0, 0)) := by rw [hW2]; exact heap_alloc_new w1 _
    have HL2 := hide_ (show Later w W2 by rw [hW2]; exact hl1.trans (later_alloc _ _))
    have HW2 := hide_ hW2.symm
    clear hW2 hl1
    go_wp2_with fail
    rw [HW2.out]
    refine (awake_any (HE.out.later HL2.out)).mono ?_; rintro e w3 ⟨rfl, hl3⟩
    obtain ⟨⟨o0, o1, o2, o3, o4, o5⟩, _⟩ := six_cells (later_row hl3 hr2)
    simp only [AV.zero] at o0 o1 o2 o3 o4 o5
    have HL3 := hide_ (HL2.out.trans hl3)
    clear hl3 hr2
    go_wp2_with fail
    go_ret
    exact ⟨rfl, HL3.out⟩
  | some x =>
    rw [hx] at hact
    have HXL := hide_ (actF_line hx)
    have HXO := hide_ (actF_ok (by omega) hx)
    have HAC := hide_ (show Calls Tryd.prog 10 #[.string ⟨l.toArray⟩] w fun e w' => e = .returned (.tuple #[.agg #[.int .i64 x.kind, .int .i64 x.a, .int .i64 x.b, .int .i64 x.n, .string ⟨x.key.toArray⟩, .string ⟨x.val.toArray⟩], .int .i64 0]) ∧ Later w w' from hact)
    clear h hact hx
    go_enter Tryd.func4, Tryd.ntmps4
    go_wp2_with fail
    refine HAC.out.mono ?_; rintro e w1 ⟨rfl, hl1⟩
    obtain ⟨W2, hW2⟩ : ∃ W2, W2 = w1.alloc (.cells x.row 23) := ⟨_, rfl⟩
    have hr2 : W2.heap[w1.heap.size]? = some (.cells x.row 23 (0, 0)) := by rw [hW2]; exact heap_alloc_new w1 _
    have HL2 := hide_ (show Later w W2 by rw [hW2]; exact hl1.trans (later_alloc _ _))
    have HW2 := hide_ hW2.symm
    unfold AV.row at HW2
    clear hW2 hl1
    go_wp2_with fail
    rw [HW2.out]
    refine (lline_any x HXO.out).mono ?_; rintro e w3 ⟨⟨s, b, rfl, h1, h2⟩, hl3⟩
    have HL3 := hide_ (HL2.out.trans hl3)
    have hb : b = true := by
      cases b with
      | true => rfl
      | false => have := h2 rfl; rw [HXL.out] at this; cases this
    subst hb
    have hs : l = s := by have := h1 rfl; rw [HXL.out] at this; injection this
    subst hs
    clear h1 h2 hl3
    unfold strV
    go_wp2_with fail
    refine (awake_any (HE.out.later HL3.out)).mono ?_; rintro e w4 ⟨rfl, hl4⟩
    have HL4 := hide_ (HL3.out.trans hl4)
    clear hl4
    go_wp2_with fail
    go_ret
    exact ⟨rfl, HL4.out⟩

end Go.Proofs.YtapiglfbkncahaaDoor
