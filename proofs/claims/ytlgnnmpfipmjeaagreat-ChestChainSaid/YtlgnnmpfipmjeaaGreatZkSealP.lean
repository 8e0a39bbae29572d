/-
  The sum and the seal of bytes.
-/
import Derived.Test.YtlgnnmpfipmjeaaGreatProg
import Derived.Test.YtlgnnmpfipmjeaaGreatZkCMath
import Derived.Test.YtlgnnmpfipmjeaaGreatZkBytes
import Derived.Test.YtlgnnmpfipmjeaaGreatZkKPut
namespace Go.Proofs.YtlgnnmpfipmjeaaGreat
open Go.RowKit
set_option linter.unusedVariables false
set_option linter.unusedSimpArgs false
theorem u32v {a b : Int} (h : a = b) : Value.int .u32 a = .int .u32 b := by rw [h]
theorem and1_nat (y : Nat) (h : y < 4294967296) : bits .and .u32 (↑y) 1 = ((y &&& 1 : Nat) : Int) := u32_and_nat y 1 h (by omega)
theorem bst_odd {y : Nat} (hy : y < 4294967296) (h : (bits BinOp.and IntKind.u32 (↑y) 1 == 1) = true) :
    bits BinOp.xor IntKind.u32 (↑y / 2) 2197175160 = ((bst y : Nat) : Int) := by
  rw [and1_nat y hy, beq_iff_eq] at h
  have : y &&& 1 = 1 := by omega
  unfold bst; rw [if_pos this]
  have e : ((y : Int) / 2) = ((y / 2 : Nat) : Int) := by omega
  rw [e, show (2197175160 : Int) = ((2197175160 : Nat) : Int) from rfl, u32_xor_nat _ _ (by omega) (by omega), Nat.shiftRight_eq_div_pow]
theorem bst_even {y : Nat} (hy : y < 4294967296) (h : (bits BinOp.and IntKind.u32 (↑y) 1 == 1) = false) :
    ((y : Int) / 2) = ((bst y : Nat) : Int) := by
  rw [and1_nat y hy, beq_eq_false_iff_ne] at h
  have : ¬ y &&& 1 = 1 := by omega
  unfold bst; rw [if_neg this, Nat.shiftRight_eq_div_pow]; omega
set_option maxHeartbeats 400000 in
theorem step_any (r : Nat) (hr : r < 4294967296) (w : World) :
    Calls Tryz.prog 104 #[.int .u32 r] w fun e w' => e = .returned (.int .u32 (bsts 8 r)) ∧ w = w' := by
  go_enter Tryz.func104, Tryz.ntmps104
  go_wp2
  go_loop [0, 3] (fun x i => ∃ k : Nat, k ≤ 8 ∧ i = .int .i64 k ∧ x = .int .u32 (bsts k r)) (fun _ i => 8 - (intOf i).toNat)
  case atStart => exact ⟨0, Nat.zero_le _, rfl, rfl⟩
  case round =>
    obtain ⟨k, hk, rfl, rfl⟩ := hrel
    have hx := bsts_lt hr k
    have hs : bsts (k + 1) r = bst (bsts k r) := rfl
    obtain ⟨y, hy⟩ : ∃ y, y = bsts k r := ⟨_, rfl⟩
    rw [← hy] at hx hs ⊢
    have Hs := Lib.hid hs; have Hy := Lib.hid hy
    clear hs hy
    by_cases hlt : k < 8
    · go_wp2
      all_goals go_round
      case rel => exact ⟨k + 1, by omega, by go_num, by rw [Hs.out]; exact u32v (bst_odd hx ‹_›)⟩
      case measure => simp [intOf]; omega
      case rel => exact ⟨k + 1, by omega, by go_num, by rw [Hs.out]; exact u32v (bst_even hx ‹_›)⟩
      case measure => simp [intOf]; omega
    · go_wp2
      go_ret
      have hk8 : k = 8 := by omega
      exact ⟨ret_int (by rw [Hy.out, hk8]), rfl⟩
theorem xor_max (s : Nat) (hs : s < 4294967296) : bits .xor .u32 IntKind.u32.max (s : Int) = ((turnAll s : Nat) : Int) := by
  rw [show IntKind.u32.max = ((4294967295 : Nat) : Int) from by decide, u32_xor_nat _ _ (by omega) hs]
  unfold turnAll; rw [Nat.xor_comm]
theorem feed_take (r : Nat) (l : List UInt8) (k : Nat) (x : UInt8) (h : l[k]? = some x) :
    feed r (l.take (k + 1)) = bsts 8 (feed r (l.take k) ^^^ x.toNat) := by
  rw [List.take_add_one, h, feed_append]; rfl
theorem shr_xor (y z : Nat) (hy : y < 4294967296) (hz : z < 4294967296) : bits .xor .u32 ((y : Int) / 256) (z : Int) = ((y >>> 8 ^^^ z : Nat) : Int) := by
  have e : (y : Int) / (256 : Int) = ((y >>> 8 : Nat) : Int) := by
    rw [Nat.shiftRight_eq_div_pow]; simp
  rw [e]
  exact u32_xor_nat _ _ (by rw [Nat.shiftRight_eq_div_pow]; omega) hz
set_option maxHeartbeats 400000 in
theorem more_any (s : Nat) (hs : s < 4294967296) (A : Option Addr) (c : Nat) (l : List UInt8) (w : World) (hl : l.length ≤ maxLen) (hR : Rd w 1 A l.length (bvs l)) :
    Calls Tryz.prog 90 #[.int .u32 s, .slice A l.length c] w fun e w' => e = .returned (.int .u32 (crcMore s l)) ∧ w = w' := by
  unfold maxLen at hl
  go_enter Tryz.func90, Tryz.ntmps90
  go_wp2
  rw [xor_max s hs]
  go_loop [5, 12] (fun x i => ∃ k : Nat, k ≤ l.length ∧ i = .int .i64 k ∧ x = .int .u32 (feed (turnAll s) (l.take k))) (fun _ i => l.length - (intOf i).toNat)
  case atStart => exact ⟨0, Nat.zero_le _, rfl, rfl⟩
  case round =>
    obtain ⟨k, hk, rfl, rfl⟩ := hrel
    have hx := feed_lt (turnAll_lt hs) (l.take k)
    by_cases hlt : k < l.length
    · have hp : 0 < l.length := Nat.lt_of_le_of_lt (Nat.zero_le _) hlt
      obtain ⟨b, o, rfl, hcell⟩ := hR.byte hlt
      have hx1 : l[k]? = some l[k] := List.getElem?_eq_getElem hlt
      obtain ⟨x, hxx⟩ : ∃ x, x = l[k] := ⟨_, rfl⟩
      rw [← hxx] at hcell hx1
      have hft := feed_take (turnAll s) l k x hx1
      obtain ⟨y, hy⟩ : ∃ y, y = feed (turnAll s) (l.take k) := ⟨_, rfl⟩
      rw [← hy] at hft hx ⊢
      rw [← feed1] at hft
      have hb := byte_lt x
      have e1 : bits .xor .u32 (y : Int) (x.toNat : Int) = ((y ^^^ x.toNat : Nat) : Int) := u32_xor_nat _ _ hx (by omega)
      have e2 : bits .and .u32 ((y ^^^ x.toNat : Nat) : Int) 255 = (((y ^^^ x.toNat) &&& 255 : Nat) : Int) :=
        u32_and_nat _ 255 (Nat.xor_lt_two_pow (n := 32) hx (by omega)) (by omega)
      have l1 : (y ^^^ x.toNat) &&& 255 < 4294967296 := Nat.lt_of_le_of_lt Nat.and_le_right (by omega)
      have e4 : bits .xor .u32 ((y : Int) / 256) ((bsts 8 ((y ^^^ x.toNat) &&& 255) : Nat) : Int) = ((y >>> 8 ^^^ bsts 8 ((y ^^^ x.toNat) &&& 255) : Nat) : Int) := by
        exact shr_xor y _ hx (bsts_lt l1 8)
      have E4 := Lib.hid e4; clear e4
      have Hf := Lib.hid hft
      clear hft hy hR hx1 hxx
      go_wp2_with (go_at_call 104; refine (step_any _ l1 _).mono ?_; rintro e w' ⟨rfl, rfl⟩)
      go_round
      case rel => exact ⟨k + 1, by omega, by go_num, by rw [Hf.out]; exact u32v E4.out⟩
      case measure => simp [intOf]; omega
    · have hk2 : k = l.length := by omega
      have hf : bits .xor .u32 IntKind.u32.max ((feed (turnAll s) (l.take k) : Nat) : Int) = ((crcMore s l : Nat) : Int) := by
        rw [xor_max _ hx, hk2, List.take_length]; rfl
      have HF := Lib.hid hf; have HK := Lib.hid hk2; clear hf hk2
      go_wp2
      go_ret
      exact ⟨ret_int HF.out, rfl⟩
set_option maxHeartbeats 400000 in
theorem sum_any (A : Option Addr) (c : Nat) (l : List UInt8) (w : World) (hl : l.length ≤ maxLen) (hR : Rd w 1 A l.length (bvs l)) :
    Calls Tryz.prog 71 #[.slice A l.length c] w fun e w' => e = .returned (.int .u32 (crc l)) ∧ w = w' := by
  go_enter Tryz.func71, Tryz.ntmps71
  go_wp2_with (go_at_call 90; refine (more_any 0 (by omega) _ _ _ _ hl hR).mono ?_; rintro e w' ⟨rfl, rfl⟩)
  go_ret
  exact ⟨rfl, rfl⟩
/-- The four bytes of a sum, the lowest first. -/
def le4 (s : Nat) : List UInt8 := [UInt8.ofNat s, UInt8.ofNat (s / 256), UInt8.ofNat (s / 65536), UInt8.ofNat (s / 16777216)]
def sealed (l : List UInt8) : List UInt8 := le4 (crc l) ++ l
theorem bv_ofNat (n : Nat) : bv (UInt8.ofNat n) = .int .u8 ((n : Int) % 256) := by
  unfold bv; rw [UInt8.toNat_ofNat']; simp
theorem le4_cells (s : Nat) (h : s < 4294967296) : bvs (le4 s) = [.int .u8 ((s : Int) % 256), .int .u8 ((s : Int) / 256 % 256), .int .u8 ((s : Int) / 65536 % 256), .int .u8 ((s : Int) / 16777216)] := by
  have e : (s : Int) / 16777216 = (s : Int) / 16777216 % 256 := by omega
  rw [e]
  simp [bvs, le4, bv_ofNat]
set_option maxHeartbeats 400000 in
theorem seal_any (A : Option Addr) (c : Nat) (l : List UInt8) (w : World) (hl : l.length ≤ 140737488351232) (hA : A = none → l.length = 0) (hR : Rd w 1 A l.length (bvs l)) :
    Calls Tryz.prog 102 #[.slice A l.length c] w fun e w' => ∃ v, e = .returned v ∧ w'.ownsRow w.heap.size 5 1 v (4 + l.length) (bvs (sealed l)) ∧ Below w.heap.size w w' := by
  have hs := crc_lt l
  have hc4 := Lib.hid (le4_cells (crc l) hs)
  have HA := Lib.hid hA
  clear hA
  go_enter Tryz.func102, Tryz.ntmps102
  go_wp2_with (first
    | (go_at_call 71; refine (sum_any _ _ _ _ (by unfold maxLen; omega) hR).mono ?_; rintro e w2 ⟨rfl, rfl⟩)
    | (at_builtin
       refine wpList_append_rd _ rfl (.tmp 17) (.tmp 18) 43 rfl w.heap.size 5 1 1 kbyteT _ 4 _ rfl (own_new w _ 5 1 4 w.heap.size rfl (by unfold maxLen; omega) (Nat.le_refl _)) A l.length c (bvs l) rfl (hR.alloc _) (bvs_one l)
         (by omega) (by unfold maxLen; omega) (by simp) HA.out ?_
       intro v1 w1 hown1 hg1 hat1
       have hb1 : Hid (Below w.heap.size w w1) := hide_ (own_grown ((Below.refl _ w).alloc (Nat.le_refl _) _) (own_new w _ 5 1 4 w.heap.size rfl (by unfold maxLen; omega) (Nat.le_refl _)) hg1 (by simp))
       have ho1 := Lib.hid hown1
       clear hown1 hg1 hat1))
  go_ret
  refine ⟨v1, rfl, ?_, hb1.out⟩
  have := ho1.out
  rw [← hc4.out] at this
  simpa [bvs, sealed] using this
end Go.Proofs.YtlgnnmpfipmjeaaGreat
