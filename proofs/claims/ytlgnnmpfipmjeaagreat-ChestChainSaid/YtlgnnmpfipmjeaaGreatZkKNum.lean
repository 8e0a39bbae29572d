/-
  code.Num: the number that bytes begin with.
-/
import Derived.Test.YtlgnnmpfipmjeaaGreatZkKPut
import Derived.Test.YtlgnnmpfipmjeaaGreatZkSplit
namespace Go.Proofs.YtlgnnmpfipmjeaaGreat
open Go.RowKit
set_option linter.unusedVariables false
set_option linter.unusedSimpArgs false
theorem and127 (x : UInt8) : bits .and .u8 (x.toNat : Int) 127 = ((x.toNat % 128 : Nat) : Int) := by
  have key : ∀ x : BitVec 8, bits .and .u8 (((⟨x⟩ : UInt8).toNat : Nat) : Int) 127 = (((⟨x⟩ : UInt8).toNat % 128 : Nat) : Int) := by decide +kernel
  exact key x.toBitVec
theorem i64_or_nat (a b : Nat) (ha : a < 9223372036854775808) (hb : b < 9223372036854775808) : bits .or .i64 (a : Int) (b : Int) = ((a ||| b : Nat) : Int) := by
  have hx : a ||| b < 2 ^ 63 := Nat.or_lt_two_pow (by omega) (by omega)
  show IntKind.i64.wrap ((BitVec.ofInt 64 (a : Int) ||| BitVec.ofInt 64 (b : Int)).toNat : Int) = _
  have e : ∀ z : Nat, z < 9223372036854775808 → (BitVec.ofInt 64 (z : Int)).toNat = z := fun z hz => by rw [BitVec.toNat_ofInt]; omega
  rw [BitVec.toNat_or, e a ha, e b hb, IntWalk.i64_in] <;> omega
theorem wrap64_nat (z : Nat) (h : z < 9223372036854775808) : wrap64 (z : Int) = (z : Int) := by unfold wrap64; omega
theorem pow128 (k : Nat) : (128 : Nat) ^ k = 2 ^ (7 * k) := by rw [Nat.pow_mul]
theorem or_step {k acc y : Nat} (hk : k ≤ 8) (hacc : acc < 128 ^ k) (hy : y < 128) : bits .or .i64 (acc : Int) (wrap64 ((y : Int) * 2 ^ (7 * k))) = ((acc + y * 128 ^ k : Nat) : Int) := by
  have h1 : 128 ^ k ≤ 128 ^ 8 := Nat.pow_le_pow_right (by omega) hk
  have h2 : (128 : Nat) ^ 8 = 72057594037927936 := by decide
  have h3 : y * 128 ^ k ≤ 127 * 128 ^ k := Nat.mul_le_mul_right _ (by omega)
  have e1 : (y : Int) * 2 ^ (7 * k) = ((y * 128 ^ k : Nat) : Int) := by rw [pow128]; simp
  have e2 : wrap64 ((y * 128 ^ k : Nat) : Int) = ((y * 128 ^ k : Nat) : Int) := wrap64_nat _ (by omega)
  rw [e1, e2, i64_or_nat _ _ (by omega) (by omega)]
  have h4 := Nat.two_pow_add_eq_or_of_lt (i := 7 * k) (b := acc) (by rw [← pow128]; exact hacc) y
  rw [← pow128, Nat.mul_comm (128 ^ k) y] at h4
  rw [Nat.or_comm, ← h4, Nat.add_comm]
theorem num_next (l : List UInt8) {i acc : Nat} {x : UInt8} (h : l[i]? = some x) : numGo i acc (l.drop i) = if i = 9 then (0, 0, 2) else if 128 ≤ x.toNat then numGo (i + 1) (acc + x.toNat % 128 * 128 ^ i) (l.drop (i + 1)) else if x.toNat = 0 ∧ 0 < i then (0, 0, 2) else (acc + x.toNat * 128 ^ i, i + 1, 0) := by
  have e := List.getElem?_eq_some_iff.1 h
  rw [List.drop_eq_getElem_cons e.1, e.2]; rfl
theorem num_end {l : List UInt8} {acc : Nat} : numGo l.length acc (l.drop l.length) = if 9 ≤ l.length then (0, 0, 2) else (0, 0, 3) := by rw [List.drop_length]; rfl
set_option maxHeartbeats 4000000 in
set_option maxRecDepth 100000 in
theorem num_any {w : World} {A : Option Addr} {n c : Nat} {l : List UInt8} (hr : Rd w 1 A n (bvs l)) (hl : l.length = n) (hn : n ≤ 4398046511104) :
    Calls Tryz.prog 70 #[.slice A n c] w fun e w' => e = .returned (.tuple #[.int .i64 (numF l).1, .int .i64 (numF l).2.1, .int .i64 (numF l).2.2]) ∧ Later w w' := by
  have HR := hide_ hr
  subst hl
  have hn2 : (l.length : Int) ≤ 4398046511104 := by omega
  clear hr
  go_enter Tryz.func70, Tryz.ntmps70
  go_wp2_with fail
  go_loopw [2, 9] (fun s2 s9 wr => ∃ (k acc : Nat), k ≤ l.length ∧ k ≤ 9 ∧ s9 = .int .i64 k ∧ s2 = .int .i64 acc ∧ Hid (numF l = numGo k acc (l.drop k)) ∧ acc < 128 ^ k ∧ Hid (Later w wr)) (fun _ i _ => l.length - (intOf i).toNat)
  case atStart => exact ⟨0, 0, Nat.zero_le _, by omega, rfl, rfl, hide_ rfl, by decide, Later.refl w⟩
  case round =>
    obtain ⟨k, acc, hkn, hk9, rfl, rfl, HC, hacc, HB⟩ := hrel
    have HACC := hide_ hacc
    clear hacc
    by_cases hlt : k < l.length
    · obtain ⟨b, o, rfl, hcell⟩ := (HR.out.below HB.out).byte hlt
      have hx1 : l[k]? = some l[k] := List.getElem?_eq_getElem hlt
      obtain ⟨x, hxx⟩ : ∃ x, x = l[k] := ⟨_, rfl⟩
      rw [← hxx] at hcell hx1
      have HN := hide_ (num_next l (acc := acc) hx1)
      have q1 : (k : Int) < (l.length : Int) := by omega
      have q2 : (0 : Int) ≤ (k : Int) := by omega
      have hxb : x.toNat < 256 := x.toNat_lt
      have hx0 : (0 : Int) ≤ (x.toNat : Int) := by omega
      clear hxx hx1
      by_cases h9 : k = 9
      · rw [if_pos h9] at HN
        subst h9
        go_wp2_with fail
        go_ret3
        exact ⟨by rw [HC.out, HN.out]; rfl, HB.out⟩
      · have q3 : ¬ (k : Int) = 9 := by omega
        rw [if_neg h9] at HN
        by_cases h128 : 128 ≤ x.toNat
        · have q4 : (128 : Int) ≤ (x.toNat : Int) := by omega
          have q5 := and127 x
          rw [if_pos h128] at HN
          have HOS := hide_ (or_step (k := k) (y := x.toNat % 128) (by omega) HACC.out (by omega))
          have HAC2 := hide_ (show acc + x.toNat % 128 * 128 ^ k < 128 ^ (k + 1) by
            rw [Nat.pow_succ]
            have h1 := HACC.out
            have h2 : x.toNat % 128 * 128 ^ k ≤ 127 * 128 ^ k := Nat.mul_le_mul_right _ (by omega)
            omega)
          go_wp2_with fail
          go_roundw
          case rel => exact ⟨k + 1, acc + x.toNat % 128 * 128 ^ k, by omega, by omega, by go_num, by rw [← HOS.out]; rfl, hide_ (by rw [HC.out, HN.out]), HAC2.out, HB.out⟩
          case measure => simp [intOf]; omega
        · have q4 : ¬ (128 : Int) ≤ (x.toNat : Int) := by omega
          rw [if_neg h128] at HN
          have HOS := hide_ (or_step (k := k) (y := x.toNat) (by omega) HACC.out (by omega))
          by_cases h0 : x.toNat = 0 ∧ 0 < k
          · have q6 : (x.toNat : Int) = 0 := by omega
            have q7 : (0 : Int) < (k : Int) := by omega
            rw [if_pos h0] at HN
            go_wp2_with fail
            go_ret3
            exact ⟨by rw [HC.out, HN.out]; rfl, HB.out⟩
          · rw [if_neg h0] at HN
            by_cases hx : x.toNat = 0
            · have q6 : (x.toNat : Int) = 0 := by omega
              have q7 : ¬ (0 : Int) < (k : Int) := by omega
              go_wp2_with fail
              go_ret3
              have hk0 : k = 0 := by
                rcases Nat.eq_zero_or_pos k with h | h
                · exact h
                · exact absurd ⟨hx, h⟩ h0
              have hacc0 : acc = 0 := by have h := HACC.out; rw [hk0] at h; simpa using h
              have hb0 : bits .or .i64 (acc : Int) 0 = 0 := by rw [hacc0]; decide +kernel
              refine ⟨?_, HB.out⟩
              rw [HC.out, HN.out]
              show Ending.returned (.tuple #[.int .i64 (bits .or .i64 (acc : Int) 0), .int .i64 ((k : Int) + 1), .int .i64 0]) = _
              rw [hb0, hk0, hacc0, hx]
              rfl
            · have q6 : ¬ (x.toNat : Int) = 0 := by omega
              go_wp2_with fail
              go_ret3
              refine ⟨?_, HB.out⟩
              simp only [HC.out, HN.out]
              rw [← HOS.out]
              rfl
    · have hkl : k = l.length := by omega
      have q1 : ¬ (k : Int) < (l.length : Int) := by omega
      have HN := hide_ (show numF l = if 9 ≤ l.length then (0, 0, 2) else (0, 0, 3) by rw [HC.out, hkl]; exact num_end)
      by_cases h9 : 9 ≤ l.length
      · have q2 : (9 : Int) ≤ (l.length : Int) := by omega
        rw [if_pos h9] at HN
        clear hkl
        go_wp2_with fail
        go_ret3
        exact ⟨by rw [HN.out]; rfl, HB.out⟩
      · have q2 : ¬ (9 : Int) ≤ (l.length : Int) := by omega
        rw [if_neg h9] at HN
        clear hkl
        go_wp2_with fail
        go_ret3
        exact ⟨by rw [HN.out]; rfl, HB.out⟩

end Go.Proofs.YtlgnnmpfipmjeaaGreat
