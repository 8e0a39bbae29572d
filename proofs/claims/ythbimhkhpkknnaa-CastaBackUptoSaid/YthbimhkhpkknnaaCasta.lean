/-
  The walks of package casta and of its reference: what each call returns, for any bytes.
-/
import Derived.Test.YthbimhkhpkknnaaRows
import Derived.Test.YthbimhkhpkknnaaMath
import Derived.Test.YthbimhkhpkknnaaBytes
namespace Go.Proofs.Ythbimhkhpkknnaa
open Go.RowKit
theorem u32v {a b : Int} (h : a = b) : Value.int .u32 a = .int .u32 b := by rw [h]
theorem and1_nat (y : Nat) (h : y < 4294967296) : bits .and .u32 (↑y) 1 = ((y &&& 1 : Nat) : Int) := u32_and_nat y 1 h (by omega)
theorem bst_odd {y : Nat} (hy : y < 4294967296) (h : (bits BinOp.and IntKind.u32 (↑y) 1 == 1) = true) :
    bits BinOp.xor IntKind.u32 (↑y / 2) 2197175160 = ((bst y : Nat) : Int) := by
  rw [and1_nat y hy, beq_iff_eq] at h
  have : y &&& 1 = 1 := by omega
  unfold bst; rw [if_pos this]
  have e : ((y : Int) / 2) = ((y / 2 : Nat) : Int) := by omega
  rw [e, show (2197175160 : Int) = ((2197175160 : Nat) : Int) from rfl, u32_xor_nat _ _ (by omega) (by omega), Nat.shiftRight_eq_div_pow]
theorem bst_even {y : Nat} (hy : y < 4294967296) (h : (bits BinOp.and IntKind.u32 (↑y) 1 == 1) = false) :
    ((y : Int) / 2) = ((bst y : Nat) : Int) := by
  rw [and1_nat y hy, beq_eq_false_iff_ne] at h
  have : ¬ y &&& 1 = 1 := by omega
  unfold bst; rw [if_neg this, Nat.shiftRight_eq_div_pow]; omega
set_option maxHeartbeats 400000 in
theorem step_any (r : Nat) (hr : r < 4294967296) (w : World) :
    Calls Try.prog 17 #[.int .u32 r] w fun e w' => e = .returned (.int .u32 (bsts 8 r)) ∧ w = w' := by
  go_enter Try.func17, Try.ntmps17
  go_wp2
  go_loop [0, 3] (fun x i => ∃ k : Nat, k ≤ 8 ∧ i = .int .i64 k ∧ x = .int .u32 (bsts k r)) (fun _ i => 8 - (intOf i).toNat)
  case atStart => exact ⟨0, Nat.zero_le _, rfl, rfl⟩
  case round =>
    obtain ⟨k, hk, rfl, rfl⟩ := hrel
    have hx := bsts_lt hr k
    have hs : bsts (k + 1) r = bst (bsts k r) := rfl
    obtain ⟨y, hy⟩ : ∃ y, y = bsts k r := ⟨_, rfl⟩
    rw [← hy] at hx hs ⊢
    have Hs := Lib.hid hs; have Hy := Lib.hid hy
    clear hs hy
    by_cases hlt : k < 8
    · go_wp2
      all_goals go_round
      case rel => exact ⟨k + 1, by omega, by go_num, by rw [Hs.out]; exact u32v (bst_odd hx ‹_›)⟩
      case measure => simp [intOf]; omega
      case rel => exact ⟨k + 1, by omega, by go_num, by rw [Hs.out]; exact u32v (bst_even hx ‹_›)⟩
      case measure => simp [intOf]; omega
    · go_wp2
      go_ret
      have hk8 : k = 8 := by omega
      exact ⟨ret_int (by rw [Hy.out, hk8]), rfl⟩
theorem xor_max (s : Nat) (hs : s < 4294967296) : bits .xor .u32 IntKind.u32.max (s : Int) = ((turnAll s : Nat) : Int) := by
  rw [show IntKind.u32.max = ((4294967295 : Nat) : Int) from by decide, u32_xor_nat _ _ (by omega) hs]
  unfold turnAll; rw [Nat.xor_comm]
theorem feed_take (r : Nat) (l : List UInt8) (k : Nat) (x : UInt8) (h : l[k]? = some x) :
    feed r (l.take (k + 1)) = bsts 8 (feed r (l.take k) ^^^ x.toNat) := by
  rw [List.take_add_one, h, feed_append]; rfl
theorem shr_xor (y z : Nat) (hy : y < 4294967296) (hz : z < 4294967296) : bits .xor .u32 ((y : Int) / 256) (z : Int) = ((y >>> 8 ^^^ z : Nat) : Int) := by
  have e : (y : Int) / (256 : Int) = ((y >>> 8 : Nat) : Int) := by
    rw [Nat.shiftRight_eq_div_pow]; simp
  rw [e]
  exact u32_xor_nat _ _ (by rw [Nat.shiftRight_eq_div_pow]; omega) hz
set_option maxHeartbeats 400000 in
theorem more_any (s : Nat) (hs : s < 4294967296) (A : Option Addr) (c : Nat) (l : List UInt8) (w : World) (hl : l.length ≤ maxLen) (hR : Rd w 1 A l.length (bvs l)) :
    Calls Try.prog 11 #[.int .u32 s, .slice A l.length c] w fun e w' => e = .returned (.int .u32 (crcMore s l)) ∧ w = w' := by
  unfold maxLen at hl
  go_enter Try.func11, Try.ntmps11
  go_wp2
  rw [xor_max s hs]
  go_loop [5, 12] (fun x i => ∃ k : Nat, k ≤ l.length ∧ i = .int .i64 k ∧ x = .int .u32 (feed (turnAll s) (l.take k))) (fun _ i => l.length - (intOf i).toNat)
  case atStart => exact ⟨0, Nat.zero_le _, rfl, rfl⟩
  case round =>
    obtain ⟨k, hk, rfl, rfl⟩ := hrel
    have hx := feed_lt (turnAll_lt hs) (l.take k)
    by_cases hlt : k < l.length
    · have hp : 0 < l.length := Nat.lt_of_le_of_lt (Nat.zero_le _) hlt
      obtain ⟨b, o, rfl, hcell⟩ := hR.byte hlt
      have hx1 : l[k]? = some l[k] := List.getElem?_eq_getElem hlt
      obtain ⟨x, hxx⟩ : ∃ x, x = l[k] := ⟨_, rfl⟩
      rw [← hxx] at hcell hx1
      have hft := feed_take (turnAll s) l k x hx1
      obtain ⟨y, hy⟩ : ∃ y, y = feed (turnAll s) (l.take k) := ⟨_, rfl⟩
      rw [← hy] at hft hx ⊢
      rw [← feed1] at hft
      have hb := byte_lt x
      have e1 : bits .xor .u32 (y : Int) (x.toNat : Int) = ((y ^^^ x.toNat : Nat) : Int) := u32_xor_nat _ _ hx (by omega)
      have e2 : bits .and .u32 ((y ^^^ x.toNat : Nat) : Int) 255 = (((y ^^^ x.toNat) &&& 255 : Nat) : Int) :=
        u32_and_nat _ 255 (Nat.xor_lt_two_pow (n := 32) hx (by omega)) (by omega)
      have l1 : (y ^^^ x.toNat) &&& 255 < 4294967296 := Nat.lt_of_le_of_lt Nat.and_le_right (by omega)
      have e4 : bits .xor .u32 ((y : Int) / 256) ((bsts 8 ((y ^^^ x.toNat) &&& 255) : Nat) : Int) = ((y >>> 8 ^^^ bsts 8 ((y ^^^ x.toNat) &&& 255) : Nat) : Int) := by
        exact shr_xor y _ hx (bsts_lt l1 8)
      have E4 := Lib.hid e4; clear e4
      have Hf := Lib.hid hft
      clear hft hy hR hx1 hxx
      go_wp2_with (go_at_call 17; refine (step_any _ l1 _).mono ?_; rintro e w' ⟨rfl, rfl⟩)
      go_round
      case rel => exact ⟨k + 1, by omega, by go_num, by rw [Hf.out]; exact u32v E4.out⟩
      case measure => simp [intOf]; omega
    · have hk2 : k = l.length := by omega
      have hf : bits .xor .u32 IntKind.u32.max ((feed (turnAll s) (l.take k) : Nat) : Int) = ((crcMore s l : Nat) : Int) := by
        rw [xor_max _ hx, hk2, List.take_length]; rfl
      have HF := Lib.hid hf; have HK := Lib.hid hk2; clear hf hk2
      go_wp2
      go_ret
      exact ⟨ret_int HF.out, rfl⟩
theorem bst_odd' {y : Nat} (hy : y < 4294967296) (h : ((y : Int) % 2 == 1) = true) :
    bits BinOp.xor IntKind.u32 (↑y / 2) 2197175160 = ((bst y : Nat) : Int) := by
  apply bst_odd hy
  rw [and1_nat y hy, Nat.and_one_is_mod]
  simpa using h
theorem bst_even' {y : Nat} (hy : y < 4294967296) (h : ((y : Int) % 2 == 1) = false) :
    ((y : Int) / 2) = ((bst y : Nat) : Int) := by
  apply bst_even hy
  rw [and1_nat y hy, Nat.and_one_is_mod]
  simpa using h
set_option maxHeartbeats 400000 in
theorem rmore_any (s : Nat) (hs : s < 4294967296) (A : Option Addr) (c : Nat) (l : List UInt8) (w : World) (hl : l.length ≤ maxLen) (hR : Rd w 1 A l.length (bvs l)) :
    Calls Try.prog 12 #[.int .u32 s, .slice A l.length c] w fun e w' => e = .returned (.int .u32 (crcMore s l)) ∧ w = w' := by
  unfold maxLen at hl
  go_enter Try.func12, Try.ntmps12
  go_wp2
  rw [show bits .xor .u32 (s : Int) 4294967295 = ((turnAll s : Nat) : Int) from u32_xor_nat s 4294967295 hs (by omega)]
  go_loop [5, 6] (fun x i => ∃ k : Nat, k ≤ l.length ∧ i = .int .i64 k ∧ x = .int .u32 (feed (turnAll s) (l.take k))) (fun _ i => l.length - (intOf i).toNat)
  case atStart => exact ⟨0, Nat.zero_le _, rfl, rfl⟩
  case round =>
    obtain ⟨k, hk, rfl, rfl⟩ := hrel
    have hx := feed_lt (turnAll_lt hs) (l.take k)
    by_cases hlt : k < l.length
    · have hp : 0 < l.length := Nat.lt_of_le_of_lt (Nat.zero_le _) hlt
      obtain ⟨b, o, rfl, hcell⟩ := hR.byte hlt
      have hx1 : l[k]? = some l[k] := List.getElem?_eq_getElem hlt
      obtain ⟨x, hxx⟩ : ∃ x, x = l[k] := ⟨_, rfl⟩
      rw [← hxx] at hcell hx1
      have hft := feed_take (turnAll s) l k x hx1
      obtain ⟨y, hy⟩ : ∃ y, y = feed (turnAll s) (l.take k) := ⟨_, rfl⟩
      rw [← hy] at hft hx ⊢
      have hb := byte_lt x
      have e1 : bits .xor .u32 (y : Int) (x.toNat : Int) = ((y ^^^ x.toNat : Nat) : Int) := u32_xor_nat _ _ hx (by omega)
      have l1 : y ^^^ x.toNat < 4294967296 := Nat.xor_lt_two_pow (n := 32) hx (by omega)
      obtain ⟨z, hz⟩ : ∃ z, z = y ^^^ x.toNat := ⟨_, rfl⟩
      rw [← hz] at e1 hft l1
      have Hf := Lib.hid hft
      clear hft hy hR hx1 hxx hz
      go_wp2
      clear e1
      go_loop [5, 7] (fun x i => ∃ j : Nat, j ≤ 8 ∧ i = .int .i64 j ∧ x = .int .u32 (bsts j z)) (fun _ i => 8 - (intOf i).toNat)
      case atStart => exact ⟨0, Nat.zero_le _, rfl, rfl⟩
      case round =>
        obtain ⟨j, hj, rfl, rfl⟩ := hrel
        have hx := bsts_lt l1 j
        have hs : bsts (j + 1) z = bst (bsts j z) := rfl
        obtain ⟨v, hv⟩ : ∃ v, v = bsts j z := ⟨_, rfl⟩
        rw [← hv] at hx hs ⊢
        have Hs := Lib.hid hs; have Hy := Lib.hid hv
        clear hs hv
        by_cases hjt : j < 8
        · go_wp2
          all_goals go_round
          case rel => exact ⟨j + 1, by omega, by go_num, by rw [Hs.out]; exact u32v (bst_odd' hx ‹_›)⟩
          case measure => simp [intOf]; omega
          case rel => exact ⟨j + 1, by omega, by go_num, by rw [Hs.out]; exact u32v (bst_even' hx ‹_›)⟩
          case measure => simp [intOf]; omega
        · have hj8 : j = 8 := by omega
          have HJ := Lib.hid hj8; clear hj8
          go_wp2
          go_round
          case rel => exact ⟨k + 1, by omega, by go_num, by rw [Hf.out, Hy.out, HJ.out]⟩
          case measure => simp [intOf]; omega
    · have hk2 : k = l.length := by omega
      have hf : bits .xor .u32 ((feed (turnAll s) (l.take k) : Nat) : Int) 4294967295 = ((crcMore s l : Nat) : Int) := by
        rw [show (4294967295 : Int) = ((4294967295 : Nat) : Int) from rfl, u32_xor_nat _ _ hx (by omega), hk2, List.take_length]; rfl
      have HF := Lib.hid hf; have HK := Lib.hid hk2; clear hf hk2
      go_wp2
      go_ret
      exact ⟨ret_int HF.out, rfl⟩
end Go.Proofs.Ythbimhkhpkknnaa
