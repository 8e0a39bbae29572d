/-
  The walk of the law's own 'awake': it answers true.
-/
import Derived.Test.YthbimhkhpkknnaaOpen
namespace Go.Proofs.Ythbimhkhpkknnaa
open Go.RowKit
theorem crc_nine : crc [49, 50, 51, 52, 53, 54, 55, 56, 57] = 3808858755 := by decide +kernel
theorem crc_ab : sealed [97, 98] = [54, 41, 162, 226, 97, 98] := by decide +kernel
theorem crc_ab2 : crc [97, 98] = leV 54 41 162 226 := by decide +kernel
set_option maxHeartbeats 400000 in
theorem awake_any (w : World) :
    Calls Try.prog 8 #[] w fun e w' => e = .returned (.bool true) ∧ Below w.heap.size w w' := by
  have kc := fun (w : World) (C : Array Value) (n c : Nat) => Lib.run_convert_bytes_const (P := Try.prog) w 23 5 C n c Try.underlying23 Try.underlying5
  go_enter Try.func8, Try.ntmps8
  go_wp2_with fail
  refine (seal_any _ _ [97, 98] _ (by decide) (by simp) (Rd.new _ _ _ 2 _ rfl)).mono ?_
  rintro e w1 ⟨v1, rfl, ho1, hb1⟩
  obtain ⟨g1, c1, rfl, _, hlt1⟩ := ho1.form (by decide)
  have hR1 := Rd.of_own ho1
  have hc1 : 6 ≤ c1 := own_cap ho1
  have HO1 := Lib.hid ho1; have HB1 := Lib.hid hb1
  clear ho1 hb1
  go_wp2_with fail
  rw [crc_ab] at hR1
  refine (open_good g1 0 c1 54 41 162 226 [97, 98] _ (by decide) hc1 hR1 crc_ab2).mono ?_
  rintro e w2 ⟨v2, rfl, ho2, hb2⟩
  obtain ⟨g2, c2, rfl, _, hlt2⟩ := ho2.form (by decide)
  have hR2 := Rd.of_own ho2
  have hs : ∀ o, (convert 23 9 (.slice (some ⟨g2, 0, none⟩) 2 c2)).run Try.prog (w2.alloc o) = .ok (.string ⟨#[97, 98]⟩) (w2.alloc o) := fun o =>
    run_str_rd 23 9 5 c2 (l := [97, 98]) Try.underlying23 Try.underlying5 Try.underlying9 (by simp) (hR2.alloc _)
  have HB2 := Lib.hid hb2; have HO2 := Lib.hid ho2; have H1 := Lib.hid hR1; have H2 := Lib.hid hR2
  clear ho2 hb2 hR1 hR2
  have hn : ((crc [49, 50, 51, 52, 53, 54, 55, 56, 57] : Int) == 3808858755) = true := by rw [crc_nine]; rfl
  go_wp2_with fail
  refine (sum_any _ _ [49, 50, 51, 52, 53, 54, 55, 56, 57] _ (by decide) (Rd.new _ _ _ 9 _ rfl)).mono ?_
  rintro e w3 ⟨rfl, rfl⟩
  go_wp2
  go_ret
  exact ⟨rfl, (((Below.refl _ _).alloc (Nat.le_refl _) _).trans (HB1.out.mono (by simp))).trans (HB2.out.mono (Nat.le_trans (by simp) HB1.out.size)) |>.alloc (Nat.le_trans (Nat.le_trans (by simp) HB1.out.size) HB2.out.size) _⟩
end Go.Proofs.Ythbimhkhpkknnaa
