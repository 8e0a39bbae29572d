/-
  The walks of the reference's Seal and Open.
-/
import Derived.Test.YthbimhkhpkknnaaOpen
import Derived.Deep.RegionHeld3
namespace Go.Proofs.Ythbimhkhpkknnaa
open Go.RowKit
set_option linter.unusedVariables false
theorem le4_take (s k : Nat) (hk : k < 4) : (le4 s).take (k + 1) = (le4 s).take k ++ [UInt8.ofNat (s / 256 ^ k)] := by
  match k, hk with
  | 0, _ => simp [le4]
  | 1, _ => simp [le4]
  | 2, _ => simp [le4]
  | 3, _ => simp [le4]
theorem sealed_length (l : List UInt8) : (sealed l).length = 4 + l.length := by simp [sealed, le4]; omega
set_option maxHeartbeats 1000000 in
theorem rseal_any (A : Option Addr) (c : Nat) (l : List UInt8) (w : World) (hl : l.length ≤ 140737488351232) (hA : A = none → l.length = 0) (hR : Rd w 1 A l.length (bvs l)) :
    Calls Try.prog 16 #[.slice A l.length c] w fun e w' => ∃ v, e = .returned v ∧ w'.ownsRow w.heap.size 5 1 v (4 + l.length) (bvs (sealed l)) ∧ Below w.heap.size w w' := by
  have hs := crc_lt l
  have HA := Lib.hid hA
  clear hA
  go_enter Try.func16, Try.ntmps16
  go_wp2_with (first
    | (go_at_call 10; refine (rsum_any _ _ _ _ (by unfold maxLen; omega) hR).mono ?_; rintro e w2 ⟨rfl, rfl⟩))
  go_loopw [3, 4, 5] (fun s v i wr => ∃ k : Nat, k ≤ 4 ∧ i = .int .i64 k ∧ s = .int .u32 ((crc l / 256 ^ k : Nat) : Int) ∧ wr.ownsRow w.heap.size 5 1 v k (bvs ((le4 (crc l)).take k)) ∧ Below w.heap.size w wr) (fun _ _ i _ => 4 - (intOf i).toNat)
  case atStart => exact ⟨0, by omega, rfl, by simp, own_new w #[] 5 1 0 w.heap.size rfl (by unfold maxLen; omega) (Nat.le_refl _), (Below.refl _ _).alloc (Nat.le_refl _) _⟩
  case round =>
    obtain ⟨k, hk, rfl, rfl, ho, hb⟩ := hrel
    by_cases hlt : k < 4
    · have hq : crc l / 256 ^ k < 4294967296 := Nat.lt_of_le_of_lt (Nat.div_le_self _ _) hs
      have hq1 : crc l / 256 ^ (k + 1) = crc l / 256 ^ k / 256 := by rw [Nat.pow_succ, Nat.div_div_eq_div_mul]
      have ht := le4_take (crc l) k hlt
      generalize crc l / 256 ^ k = x at hq hq1 ht
      have HQ := Lib.hid hq1; have HT := Lib.hid ht; have HO := Lib.hid ho; have HB := Lib.hid hb
      clear hq1 ht ho hb
      go_wp2_with (at_builtin; refine wpList_append_rd _ rfl (.tmp 13) (.tmp 17) 23 rfl w.heap.size 5 1 1 byteT _ k _ rfl (HO.out.alloc _) _ 1 1 _ rfl (Rd.new _ _ _ 1 _ rfl) (by simp [Value.oneCell']) (by omega) (by unfold maxLen; omega) (by have := HB.out.size; simp; omega) (by simp) ?_; intro v1 w1 hown1 hg1 hat1; have HO1 := Lib.hid hown1; have HB1 := Lib.hid (own_grown (HB.out.alloc HB.out.size _) (HO.out.alloc _) hg1 (by have := HB.out.size; simp; omega)); clear hown1 hg1 hat1)
      go_roundw
      case rel =>
        refine ⟨k + 1, by omega, by go_num, by rw [HQ.out]; simp, ?_, HB1.out⟩
        have h2 := HO1.out
        rw [HT.out]
        simpa [bvs, bv_ofNat] using h2
      case measure => simp [intOf]; omega
    · have hk4 : k = 4 := by omega
      have ho4 := ho
      rw [hk4] at ho4
      have hR1 := hR.below hb
      have HO := Lib.hid ho4; have HB := Lib.hid hb; have HK := Lib.hid hk4
      clear ho ho4 hb hk4 hR
      go_wp2_with (at_builtin; refine wpList_append_rd _ rfl (.tmp 21) (.tmp 22) 23 rfl w.heap.size 5 1 1 byteT _ 4 _ rfl HO.out A l.length c (bvs l) rfl hR1 (bvs_one l) (by omega) (by unfold maxLen; omega) HB.out.size HA.out ?_; intro v1 w1 hown1 hg1 hat1; have HO1 := Lib.hid hown1; have HB1 := Lib.hid (own_grown HB.out HO.out hg1 HB.out.size); clear hown1 hg1 hat1)
      go_ret
      refine ⟨v1, rfl, ?_, HB1.out⟩
      have h2 := HO1.out
      rw [show (le4 (crc l)).take 4 = le4 (crc l) from rfl] at h2
      simpa [sealed, bvs] using h2
end Go.Proofs.Ythbimhkhpkknnaa
