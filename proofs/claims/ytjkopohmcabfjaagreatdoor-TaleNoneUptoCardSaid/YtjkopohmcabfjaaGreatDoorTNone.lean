/-
  TaleNone: a text that is no script runs nowhere.
-/
import Derived.Test.YtjkopohmcabfjaaGreatDoorTAwake
import Derived.Test.YtjkopohmcabfjaaGreatDoorTRead
import Derived.Test.YtjkopohmcabfjaaGreatDoorSplit
namespace Go.Proofs.YtjkopohmcabfjaaGreatDoor
open Go.RowKit
set_option linter.unusedVariables false
theorem no_x (t : List UInt8) (s : SV) (L : List AV) : scriptF s L ≠ (t ++ [120], 0) := fun h => by
  unfold scriptF at h
  split at h
  · have h2 := congrArg Prod.snd h; simp at h2
  · split at h
    · have h2 := congrArg Prod.snd h; simp at h2
    · split at h
      · have h2 := congrArg Prod.snd h; simp at h2
      · have h2 := congrArg Prod.fst h
        simp only at h2
        have h3 := congrArg (fun l => l.getLast?) h2
        simp at h3
set_option maxHeartbeats 2000000 in
set_option maxRecDepth 100000 in
theorem run_none {B : Nat} {w : World} (h : Env B w) (t : List UInt8) (hl : t.length ≤ 67108863) : Calls Tryz.prog 5 #[.string ⟨(t ++ [120]).toArray⟩] w fun e w' => e = .returned (.tuple #[.string ⟨#[]⟩, .int .i64 17]) ∧ Later w w' := by
  have HRE := hide_ (read_any h (t ++ [120]) (by simp; omega))
  have HNX := hide_ (no_x t)
  clear h hl
  go_enter Tryz.func5, Tryz.ntmps5
  go_wp2_with fail
  refine HRE.out.mono ?_; rintro e w1 ⟨ho, hl1⟩
  rcases ho with ⟨s, A, n, c, L, rfl, hRd, hLn, hs, hmid, hscr⟩ | ⟨rfl, hno⟩
  · exact absurd hscr (HNX.out s L)
  · obtain ⟨W2, hW2⟩ : ∃ W2, W2 = w1.alloc (.cells SV.zero.row 23) := ⟨_, rfl⟩
    have HL2 := hide_ (show Later w W2 by rw [hW2]; exact hl1.trans (later_alloc _ _))
    have HW2 := hide_ hW2.symm
    unfold SV.row SV.zero at HW2
    unfold SV.val SV.zero
    clear hW2 hl1 hno
    go_wp2_with fail
    rw [HW2.out]
    go_ret2
    exact ⟨rfl, HL2.out⟩
set_option maxHeartbeats 2000000 in
set_option maxRecDepth 100000 in
theorem none_any {B : Nat} {w : World} (h : Env B w) (t : List UInt8) (hl : t.length ≤ 67108863) : Calls Tryz.prog 3 #[.string ⟨t.toArray⟩] w fun e w' => e = .returned (.bool true) ∧ Later w w' := by
  have HE := hide_ h
  have HRE := hide_ (read_any h t (by omega))
  have HTL := hide_ hl
  have htl : (⟨t.toArray⟩ : ByteArray).size ≤ 67108863 := by show t.toArray.size ≤ _; simpa using hl
  obtain ⟨T, hT⟩ : ∃ T : ByteArray, T = ⟨t.toArray⟩ := ⟨_, rfl⟩
  have HT := hide_ hT
  rw [← hT] at htl
  rw [← hT] at HRE
  rw [← hT]
  have HTX := hide_ (show T ++ ({ data := #[120] } : ByteArray) = ⟨(t ++ [120]).toArray⟩ from ba_ext (by rw [hT, ByteArray.data_append, Array.toList_append]))
  clear h hl hT
  go_enter Tryz.func3, Tryz.ntmps3
  go_wp2_with fail
  refine HRE.out.mono ?_; rintro e w1 ⟨ho, hl1⟩
  have HL1 := hide_ hl1
  clear hl1
  rcases ho with ⟨s, A, n, c, L, rfl, hRd, hLn, hs, hmid, hscr⟩ | ⟨rfl, hno⟩
  · clear hRd hLn hs hmid hscr
    obtain ⟨W2, hW2⟩ : ∃ W2, W2 = w1.alloc (.cells s.row 23) := ⟨_, rfl⟩
    have HL2 := hide_ (show Later w W2 by rw [hW2]; exact HL1.out.trans (later_alloc _ _))
    have HW2 := hide_ hW2.symm
    unfold SV.row at HW2
    unfold SV.val
    clear hW2
    go_wp2_with (rw [HW2.out])
    rw [HTX.out]
    refine (run_none (HE.out.later HL2.out) t HTL.out).mono ?_; rintro e w3 ⟨rfl, hl3⟩
    have HL3 := hide_ (HL2.out.trans hl3)
    clear hl3
    go_wp2_with fail
    refine (awake_any (HE.out.later HL3.out)).mono ?_; rintro e w4 ⟨rfl, hl4⟩
    have HL4 := hide_ (HL3.out.trans hl4)
    clear hl4
    go_wp2_with fail
    go_ret
    exact ⟨rfl, HL4.out⟩
  · clear hno
    obtain ⟨W2, hW2⟩ : ∃ W2, W2 = w1.alloc (.cells SV.zero.row 23) := ⟨_, rfl⟩
    have HL2 := hide_ (show Later w W2 by rw [hW2]; exact HL1.out.trans (later_alloc _ _))
    have HW2 := hide_ hW2.symm
    unfold SV.row SV.zero at HW2
    unfold SV.val SV.zero
    clear hW2
    go_wp2_with fail
    rw [HTX.out, HW2.out]
    refine (run_none (HE.out.later HL2.out) t HTL.out).mono ?_; rintro e w3 ⟨rfl, hl3⟩
    have HL3 := hide_ (HL2.out.trans hl3)
    clear hl3
    go_wp2_with fail
    refine (awake_any (HE.out.later HL3.out)).mono ?_; rintro e w4 ⟨rfl, hl4⟩
    have HL4 := hide_ (HL3.out.trans hl4)
    clear hl4
    go_wp2_with fail
    go_ret
    exact ⟨rfl, HL4.out⟩

end Go.Proofs.YtjkopohmcabfjaaGreatDoor
