/-
  Plain facts on the check sum's register, on natural numbers below 2^32. No program in sight.
-/
namespace Go.Proofs.YtlgnnmpfipmjeaaGreat
/-- One bit of the register. -/
def bst (r : Nat) : Nat := if r &&& 1 = 1 then (r >>> 1) ^^^ 2197175160 else r >>> 1
/-- k bits of the register. -/
def bsts : Nat → Nat → Nat
  | 0, r => r
  | k + 1, r => bst (bsts k r)
theorem bst_lt {r : Nat} (h : r < 4294967296) : bst r < 4294967296 := by
  unfold bst; split
  · exact Nat.xor_lt_two_pow (n := 32) (by omega) (by omega)
  · omega
theorem bsts_lt {r : Nat} (h : r < 4294967296) : ∀ k, bsts k r < 4294967296
  | 0 => h
  | k + 1 => bst_lt (bsts_lt h k)
theorem bsts_add (a b r : Nat) : bsts (a + b) r = bsts a (bsts b r) := by
  induction a with
  | zero => rw [Nat.zero_add]; rfl
  | succ a ih => rw [show a + 1 + b = (a + b) + 1 from by omega]; show bst _ = bst _; rw [ih]
theorem bst_xor (a b : Nat) : bst (a ^^^ b) = bst a ^^^ bst b := by
  have hx : (a ^^^ b) &&& 1 = (a &&& 1) ^^^ (b &&& 1) := Nat.and_xor_distrib_right
  have ha : a &&& 1 = 0 ∨ a &&& 1 = 1 := by rw [Nat.and_one_is_mod]; omega
  have hb : b &&& 1 = 0 ∨ b &&& 1 = 1 := by rw [Nat.and_one_is_mod]; omega
  unfold bst
  rw [hx, Nat.shiftRight_xor_distrib]
  rcases ha with ha | ha <;> rcases hb with hb | hb <;> simp [ha, hb]
  · rw [Nat.xor_assoc]
  · rw [Nat.xor_assoc, Nat.xor_assoc, Nat.xor_comm (b >>> 1)]
  · rw [Nat.xor_assoc, Nat.xor_comm (b >>> 1), ← Nat.xor_assoc 2197175160, Nat.xor_self, Nat.zero_xor]
theorem bsts_xor (k a b : Nat) : bsts k (a ^^^ b) = bsts k a ^^^ bsts k b := by
  induction k with
  | zero => rfl
  | succ k ih => show bst _ = bst _ ^^^ bst _; rw [ih, bst_xor]
theorem bsts_shl (k m : Nat) : bsts k (m <<< k) = m := by
  induction k generalizing m with
  | zero => simp [bsts]
  | succ k ih =>
    rw [show bsts (k + 1) (m <<< (k + 1)) = bsts k (bsts 1 (m <<< (k + 1))) from bsts_add k 1 _]
    have h : bsts 1 (m <<< (k + 1)) = m <<< k := by
      have e : m <<< (k + 1) = 2 * (m <<< k) := by simp [Nat.shiftLeft_eq, Nat.pow_succ]; rw [Nat.mul_comm (2 ^ k) 2, Nat.mul_left_comm]
      show bst (m <<< (k + 1)) = _
      unfold bst
      rw [e, Nat.and_one_is_mod, if_neg (by omega), Nat.shiftRight_eq_div_pow]; omega
    rw [h, ih]
/-- Eight bits: the high bytes go down, the low byte is stepped by itself. -/
theorem bsts8 (r : Nat) : bsts 8 r = (r >>> 8) ^^^ bsts 8 (r &&& 255) := by
  have e : r = ((r >>> 8) <<< 8) ^^^ (r &&& 255) := by
    apply Nat.eq_of_testBit_eq
    intro i
    rw [Nat.testBit_xor, Nat.testBit_shiftLeft, Nat.testBit_shiftRight, Nat.testBit_and]
    by_cases h : 8 ≤ i
    · rw [show (255 : Nat) = 2 ^ 8 - 1 from rfl, Nat.testBit_two_pow_sub_one]
      have : 8 + (i - 8) = i := by omega
      simp [h, this, show ¬ i < 8 from by omega]
    · rw [show (255 : Nat) = 2 ^ 8 - 1 from rfl, Nat.testBit_two_pow_sub_one]
      simp [h]; intro; omega
  calc bsts 8 r = bsts 8 (((r >>> 8) <<< 8) ^^^ (r &&& 255)) := by rw [← e]
    _ = _ := by rw [bsts_xor, bsts_shl]
/-- The register behind some bytes. -/
def feed (r : Nat) : List UInt8 → Nat
  | [] => r
  | x :: l => feed (bsts 8 (r ^^^ x.toNat)) l
theorem feed_append (r : Nat) (a b : List UInt8) : feed r (a ++ b) = feed (feed r a) b := by
  induction a generalizing r with
  | nil => rfl
  | cons x a ih => exact ih _
theorem byte_lt (x : UInt8) : x.toNat < 256 := x.toNat_lt
theorem feed_lt {r : Nat} (h : r < 4294967296) (l : List UInt8) : feed r l < 4294967296 := by
  induction l generalizing r with
  | nil => exact h
  | cons x l ih => exact ih (bsts_lt (Nat.xor_lt_two_pow (n := 32) h (by have := byte_lt x; omega)) 8)
/-- The program's round is the document's. -/
theorem feed1 (r : Nat) (x : UInt8) : (r >>> 8) ^^^ bsts 8 ((r ^^^ x.toNat) &&& 255) = bsts 8 (r ^^^ x.toNat) := by
  rw [bsts8 (r ^^^ x.toNat)]
  congr 1
  rw [Nat.shiftRight_xor_distrib]
  have : x.toNat >>> 8 = 0 := by rw [Nat.shiftRight_eq_div_pow]; have := byte_lt x; omega
  rw [this, Nat.xor_zero]
/-- All bits turned. -/
def turnAll (r : Nat) : Nat := r ^^^ 4294967295
theorem turnAll_lt {r : Nat} (h : r < 4294967296) : turnAll r < 4294967296 := Nat.xor_lt_two_pow (n := 32) h (by omega)
theorem turnAll_twice (r : Nat) : turnAll (turnAll r) = r := by unfold turnAll; rw [Nat.xor_assoc, Nat.xor_self, Nat.xor_zero]
/-- The sum of bytes behind others. -/
def crcMore (s : Nat) (l : List UInt8) : Nat := turnAll (feed (turnAll s) l)
def crc (l : List UInt8) : Nat := crcMore 0 l
theorem crcMore_lt {s : Nat} (h : s < 4294967296) (l : List UInt8) : crcMore s l < 4294967296 := turnAll_lt (feed_lt (turnAll_lt h) l)
theorem crc_lt (l : List UInt8) : crc l < 4294967296 := crcMore_lt (by omega) l
theorem crcMore_append (s : Nat) (a b : List UInt8) : crcMore (crcMore s a) b = crcMore s (a ++ b) := by
  unfold crcMore; rw [turnAll_twice, feed_append]
end Go.Proofs.YtlgnnmpfipmjeaaGreat
