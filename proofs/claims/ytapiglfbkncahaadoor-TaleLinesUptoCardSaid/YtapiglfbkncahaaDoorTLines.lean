/-
  TaleLines: any act as a line.
-/
import Derived.Test.YtapiglfbkncahaaDoorTAwake
import Derived.Test.YtapiglfbkncahaaDoorTInv
import Derived.Test.YtapiglfbkncahaaDoorTLLine
import Derived.Test.YtapiglfbkncahaaDoorSplit
namespace Go.Proofs.YtapiglfbkncahaaDoor
open Go.RowKit
set_option linter.unusedVariables false
theorem encP_small {x : AV} (hx : x.Ok) (hk : x.key.length ≤ 1048576) (hv : x.val.length ≤ 1048576) (p : UInt8) : (encP x p).length ≤ 4194305 := by
  have h1 := Lib.itoa_length_le x.a hx.a.1 hx.a.2
  have h2 := Lib.itoa_length_le x.b hx.b.1 hx.b.2
  have h3 := Lib.itoa_length_le x.n hx.n.1 hx.n.2
  have h4 := quoteL_len x.key
  have h5 := quoteL_len x.val
  unfold encP
  split
  · omega
  · split
    · omega
    · split
      · omega
      · split <;> omega
theorem line_len {x : AV} (hx : x.Ok) (hk : x.key.length ≤ 1048576) (hv : x.val.length ≤ 1048576) {l : List UInt8} (h : lineF x = some l) : l.length ≤ 16777224 := by
  unfold lineF at h
  split at h
  · rename_i hkd
    split at h
    · injection h with h
      have hp := part_len (k := x.kind.toNat) (by omega) (by omega)
      have := joinW_len (M := 4194305) (wordsF x x.kind.toNat) (fun y hy => by
        rcases List.mem_cons.1 hy with rfl | hy
        · omega
        · obtain ⟨p, _, rfl⟩ := List.mem_map.1 hy; exact encP_small hx hk hv p)
      rw [h] at this
      have e : (wordsF x x.kind.toNat).length = (partT.getD x.kind.toNat []).length + 1 := by simp [wordsF]
      rw [e] at this
      omega
    · cases h
  · cases h
set_option maxHeartbeats 1000000 in
set_option maxRecDepth 100000 in
theorem lines_any {B : Nat} {w : World} (h : Env B w) (x : AV) (hx : x.Ok) (hk : x.key.length ≤ 1048576) (hv : x.val.length ≤ 1048576) : Calls Tryd.prog 3 #[x.val6] w fun e w' => e = .returned (.bool true) ∧ Later w w' := by
  have HE := hide_ h
  have HX := hide_ hx
  unfold AV.val6
  have hne := fun (x y : AV) => eql_act x y
  have hgu := guard_act
  obtain ⟨W1, hW1⟩ : ∃ W1, W1 = w.alloc (.cells x.row 23) := ⟨_, rfl⟩
  have hr1 : W1.heap[w.heap.size]? = some (.cells x.row 23 (0, 0)) := by rw [hW1]; exact heap_alloc_new w _
  have HL1 := hide_ (show Later w W1 by rw [hW1]; exact later_alloc _ _)
  have HR1 := hide_ hr1
  have HW1 := hide_ hW1.symm
  unfold AV.row at HW1
  obtain ⟨⟨o0, o1, o2, o3, o4, o5⟩, _⟩ := six_cells hr1
  clear h hx hW1 hr1
  cases hc : lineF x with
  | none =>
    have HC := hide_ hc
    have hline := line_any (HE.out.later HL1.out) x HX.out
    unfold LinePost at hline
    rw [hc] at hline
    have HLI := hide_ (show Calls Tryd.prog 7 #[.agg #[.int .i64 x.kind, .int .i64 x.a, .int .i64 x.b, .int .i64 x.n, .string ⟨x.key.toArray⟩, .string ⟨x.val.toArray⟩]] W1 fun e w' => e = .returned (.tuple #[.string ⟨#[]⟩, .int .i64 1]) ∧ Later W1 w' from hline)
    clear hline hc
    go_enter Tryd.func3, Tryd.ntmps3
    go_wp2_with (rw [HW1.out])
    refine HLI.out.mono ?_; rintro e w2 ⟨rfl, hl2⟩
    have HL2 := hide_ (HL1.out.trans hl2)
    obtain ⟨⟨p0, p1, p2, p3, p4, p5⟩, _⟩ := six_cells (later_row hl2 HR1.out)
    clear hl2 o0 o1 o2 o3 o4 o5
    go_wp2_with fail
    refine (lline_any x HX.out).mono ?_; rintro e w3 ⟨⟨s, b, rfl, h1, h2⟩, hl3⟩
    have HL3 := hide_ (HL2.out.trans hl3)
    have hb : b = false := by
      cases b with
      | false => rfl
      | true => have := h1 rfl; rw [HC.out] at this; cases this
    subst hb
    clear h1 h2 hl3
    unfold strV
    go_wp2_with fail
    refine (awake_any (HE.out.later HL3.out)).mono ?_; rintro e w4 ⟨rfl, hl4⟩
    have HL4 := hide_ (HL3.out.trans hl4)
    clear hl4
    go_wp2_with fail
    go_ret
    exact ⟨rfl, HL4.out⟩
  | some l =>
    have HC := hide_ hc
    have HLEN := hide_ (line_len HX.out hk hv hc)
    have HACF := hide_ (actF_of_line HX.out hc)
    have hline := line_any (HE.out.later HL1.out) x HX.out
    unfold LinePost at hline
    rw [hc] at hline
    have HLI := hide_ (show Calls Tryd.prog 7 #[.agg #[.int .i64 x.kind, .int .i64 x.a, .int .i64 x.b, .int .i64 x.n, .string ⟨x.key.toArray⟩, .string ⟨x.val.toArray⟩]] W1 fun e w' => e = .returned (.tuple #[.string ⟨l.toArray⟩, .int .i64 0]) ∧ Later W1 w' from hline)
    clear hline hc
    go_enter Tryd.func3, Tryd.ntmps3
    go_wp2_with (rw [HW1.out])
    refine HLI.out.mono ?_; rintro e w2 ⟨rfl, hl2⟩
    have HL2 := hide_ (HL1.out.trans hl2)
    have HR2 := hide_ (later_row hl2 HR1.out)
    obtain ⟨⟨p0, p1, p2, p3, p4, p5⟩, _⟩ := six_cells HR2.out
    clear hl2 o0 o1 o2 o3 o4 o5
    go_wp2_with fail
    refine (lline_any x HX.out).mono ?_; rintro e w3 ⟨⟨s, b, rfl, h1, h2⟩, hl3⟩
    have HL3 := hide_ (HL2.out.trans hl3)
    have HR3 := hide_ (later_row hl3 HR2.out)
    have hb : b = true := by
      cases b with
      | true => rfl
      | false => have := h2 rfl; rw [HC.out] at this; cases this
    subst hb
    have hs : l = s := by have := h1 rfl; rw [HC.out] at this; injection this
    subst hs
    clear h1 h2 hl3 p0 p1 p2 p3 p4 p5
    have hact := act_any (HE.out.later HL3.out) l (by have := HLEN.out; omega)
    unfold ActPost at hact
    rw [HACF.out] at hact
    have HAC := hide_ (show Calls Tryd.prog 10 #[.string ⟨l.toArray⟩] w3 fun e w' => e = .returned (.tuple #[.agg #[.int .i64 x.kind, .int .i64 x.a, .int .i64 x.b, .int .i64 x.n, .string ⟨x.key.toArray⟩, .string ⟨x.val.toArray⟩], .int .i64 0]) ∧ Later w3 w' from hact)
    clear hact
    unfold strV
    go_wp2_with fail
    refine HAC.out.mono ?_; rintro e w4 ⟨rfl, hl4⟩
    obtain ⟨W5, hW5⟩ : ∃ W5, W5 = w4.alloc (.cells x.row 23) := ⟨_, rfl⟩
    have HR5 := hide_ (show W5.heap[w4.heap.size]? = some (.cells x.row 23 (0, 0)) by rw [hW5]; exact heap_alloc_new w4 _)
    have HR4 := hide_ (show W5.heap[w.heap.size]? = some (.cells x.row 23 (0, 0)) by rw [hW5]; exact later_row (hl4.trans (later_alloc _ _)) HR3.out)
    have HL5 := hide_ (show Later w W5 by rw [hW5]; exact (HL3.out.trans hl4).trans (later_alloc _ _))
    have HW5 := hide_ hW5.symm
    unfold AV.row at HW5
    clear hW5 hl4
    go_wp2_with fail
    rw [HW5.out]
    refine (awake_any (HE.out.later HL5.out)).mono ?_; rintro e w6 ⟨rfl, hl6⟩
    have HL6 := hide_ (HL5.out.trans hl6)
    obtain ⟨⟨q0, q1, q2, q3, q4, q5⟩, _⟩ := six_cells (later_row hl6 HR5.out)
    obtain ⟨⟨r0, r1, r2, r3, r4, r5⟩, _⟩ := six_cells (later_row hl6 HR4.out)
    clear hl6
    go_wp2_with fail
    go_ret
    exact ⟨rfl, HL6.out⟩

end Go.Proofs.YtapiglfbkncahaaDoor
