/-
  The walks of Sum, Seal and Open, of the program and of its reference.
-/
import Derived.Test.YthbimhkhpkknnaaCasta
namespace Go.Proofs.Ythbimhkhpkknnaa
open Go.RowKit
theorem byteT : ElemT Try.prog 23 5 1 1 := elem_mk (z := .int .u8 0) Try.underlying23 (by kernel_rfl) rfl (by decide)
set_option maxHeartbeats 400000 in
theorem sum_any (A : Option Addr) (c : Nat) (l : List UInt8) (w : World) (hl : l.length ≤ maxLen) (hR : Rd w 1 A l.length (bvs l)) :
    Calls Try.prog 9 #[.slice A l.length c] w fun e w' => e = .returned (.int .u32 (crc l)) ∧ w = w' := by
  go_enter Try.func9, Try.ntmps9
  go_wp2_with (go_at_call 11; refine (more_any 0 (by omega) _ _ _ _ hl hR).mono ?_; rintro e w' ⟨rfl, rfl⟩)
  go_ret
  exact ⟨rfl, rfl⟩
set_option maxHeartbeats 400000 in
theorem rsum_any (A : Option Addr) (c : Nat) (l : List UInt8) (w : World) (hl : l.length ≤ maxLen) (hR : Rd w 1 A l.length (bvs l)) :
    Calls Try.prog 10 #[.slice A l.length c] w fun e w' => e = .returned (.int .u32 (crc l)) ∧ w = w' := by
  go_enter Try.func10, Try.ntmps10
  go_wp2_with (go_at_call 12; refine (rmore_any 0 (by omega) _ _ _ _ hl hR).mono ?_; rintro e w' ⟨rfl, rfl⟩)
  go_ret
  exact ⟨rfl, rfl⟩
/-- The four bytes of a sum, the lowest first. -/
def le4 (s : Nat) : List UInt8 := [UInt8.ofNat s, UInt8.ofNat (s / 256), UInt8.ofNat (s / 65536), UInt8.ofNat (s / 16777216)]
def sealed (l : List UInt8) : List UInt8 := le4 (crc l) ++ l
theorem bv_ofNat (n : Nat) : bv (UInt8.ofNat n) = .int .u8 ((n : Int) % 256) := by
  unfold bv; rw [UInt8.toNat_ofNat']; simp
theorem le4_cells (s : Nat) (h : s < 4294967296) : bvs (le4 s) = [.int .u8 ((s : Int) % 256), .int .u8 ((s : Int) / 256 % 256), .int .u8 ((s : Int) / 65536 % 256), .int .u8 ((s : Int) / 16777216)] := by
  have e : (s : Int) / 16777216 = (s : Int) / 16777216 % 256 := by omega
  rw [e]
  simp [bvs, le4, bv_ofNat]
set_option maxHeartbeats 400000 in
theorem seal_any (A : Option Addr) (c : Nat) (l : List UInt8) (w : World) (hl : l.length ≤ 140737488351232) (hA : A = none → l.length = 0) (hR : Rd w 1 A l.length (bvs l)) :
    Calls Try.prog 15 #[.slice A l.length c] w fun e w' => ∃ v, e = .returned v ∧ w'.ownsRow w.heap.size 5 1 v (4 + l.length) (bvs (sealed l)) ∧ Below w.heap.size w w' := by
  have hs := crc_lt l
  have hc4 := Lib.hid (le4_cells (crc l) hs)
  have HA := Lib.hid hA
  clear hA
  go_enter Try.func15, Try.ntmps15
  go_wp2_with (first
    | (go_at_call 9; refine (sum_any _ _ _ _ (by unfold maxLen; omega) hR).mono ?_; rintro e w2 ⟨rfl, rfl⟩)
    | (at_builtin
       refine wpList_append_rd _ rfl (.tmp 17) (.tmp 18) 23 rfl w.heap.size 5 1 1 byteT _ 4 _ rfl (own_new w _ 5 1 4 w.heap.size rfl (by unfold maxLen; omega) (Nat.le_refl _)) A l.length c (bvs l) rfl (hR.alloc _) (bvs_one l)
         (by omega) (by unfold maxLen; omega) (by simp) HA.out ?_
       intro v1 w1 hown1 hg1 hat1
       have hb1 : Hid (Below w.heap.size w w1) := hide_ (own_grown ((Below.refl _ w).alloc (Nat.le_refl _) _) (own_new w _ 5 1 4 w.heap.size rfl (by unfold maxLen; omega) (Nat.le_refl _)) hg1 (by simp))
       have ho1 := Lib.hid hown1
       clear hown1 hg1 hat1))
  go_ret
  refine ⟨v1, rfl, ?_, hb1.out⟩
  have := ho1.out
  rw [← hc4.out] at this
  simpa [bvs, sealed] using this
end Go.Proofs.Ythbimhkhpkknnaa
