/-
  Plain facts on the check sum: it is linear; a burst of up to 32 bits that is turned is found.
-/
import Derived.Test.YthbimhkhpkknnaaMath
namespace Go.Proofs.Ythbimhkhpkknnaa
theorem toNat_xor8 (a b : UInt8) : (a ^^^ b).toNat = a.toNat ^^^ b.toNat := UInt8.toNat_xor a b
theorem feed_zip (r s : Nat) (xs ys : List UInt8) (h : xs.length = ys.length) : feed (r ^^^ s) (List.zipWith (· ^^^ ·) xs ys) = feed r xs ^^^ feed s ys := by
  induction xs generalizing r s ys with
  | nil =>
    cases ys with
    | nil => rfl
    | cons y ys => simp at h
  | cons x xs ih =>
    cases ys with
    | nil => simp at h
    | cons y ys =>
      simp only [List.zipWith_cons_cons, feed]
      rw [← ih _ _ _ (by simpa using h), ← bsts_xor, toNat_xor8]
      congr 2
      rw [Nat.xor_assoc, Nat.xor_assoc, ← Nat.xor_assoc s, Nat.xor_comm s x.toNat, Nat.xor_assoc x.toNat]
theorem xor_zero_eq {a b : Nat} (h : a ^^^ b = 0) : a = b := by
  have := congrArg (· ^^^ b) h
  simpa [Nat.xor_assoc] using this
theorem bst_zero {r : Nat} (h : r < 4294967296) (hz : bst r = 0) : r = 0 := by
  unfold bst at hz
  rw [Nat.and_one_is_mod, Nat.shiftRight_eq_div_pow] at hz
  split at hz
  · have := xor_zero_eq hz
    omega
  · omega
theorem bsts_zero {r : Nat} (h : r < 4294967296) : ∀ k, bsts k r = 0 → r = 0
  | 0, hz => hz
  | k + 1, hz => bsts_zero h k (bst_zero (bsts_lt h k) hz)
theorem zip_zeros (q : List UInt8) : List.zipWith (· ^^^ ·) q (List.replicate q.length 0) = q := by
  induction q with
  | nil => rfl
  | cons x q ih => simp [List.replicate_succ, ih]
theorem feed_zeros (d n : Nat) : feed d (List.replicate n 0) = bsts (8 * n) d := by
  induction n generalizing d with
  | zero => rfl
  | succ n ih =>
    rw [List.replicate_succ]
    show feed (bsts 8 (d ^^^ 0)) _ = _
    rw [ih, Nat.xor_zero, ← bsts_add]; congr 1
/-- The number whose bytes these are. -/
def num4 (t0 t1 t2 t3 : UInt8) : Nat := t0.toNat ^^^ (t1.toNat <<< 8) ^^^ (t2.toNat <<< 16) ^^^ (t3.toNat <<< 24)
theorem feed4 (t0 t1 t2 t3 : UInt8) : feed 0 [t0, t1, t2, t3] = bsts 32 (num4 t0 t1 t2 t3) := by
  unfold num4
  rw [bsts_xor, bsts_xor, bsts_xor]
  have e1 : bsts 32 (t1.toNat <<< 8) = bsts 24 t1.toNat := by rw [show 32 = 24 + 8 from rfl, bsts_add, bsts_shl]
  have e2 : bsts 32 (t2.toNat <<< 16) = bsts 16 t2.toNat := by rw [show 32 = 16 + 16 from rfl, bsts_add, bsts_shl]
  have e3 : bsts 32 (t3.toNat <<< 24) = bsts 8 t3.toNat := by rw [show 32 = 8 + 24 from rfl, bsts_add, bsts_shl]
  rw [e1, e2, e3]
  simp only [feed, Nat.zero_xor, bsts_xor, ← bsts_add]
theorem feed_burst (r : Nat) (a0 a1 a2 a3 t0 t1 t2 t3 : UInt8) (q : List UInt8) (ht : num4 t0 t1 t2 t3 ≠ 0) (hlt : num4 t0 t1 t2 t3 < 4294967296) :
    feed r ((a0 ^^^ t0) :: (a1 ^^^ t1) :: (a2 ^^^ t2) :: (a3 ^^^ t3) :: q) ≠ feed r (a0 :: a1 :: a2 :: a3 :: q) := by
  have h := feed_zip r 0 (a0 :: a1 :: a2 :: a3 :: q) (t0 :: t1 :: t2 :: t3 :: List.replicate q.length 0) (by simp)
  simp only [List.zipWith_cons_cons, zip_zeros, Nat.xor_zero] at h
  rw [h]
  have hd : feed 0 (t0 :: t1 :: t2 :: t3 :: List.replicate q.length 0) = bsts (8 * q.length) (bsts 32 (num4 t0 t1 t2 t3)) := by
    rw [show (t0 :: t1 :: t2 :: t3 :: List.replicate q.length 0) = [t0, t1, t2, t3] ++ List.replicate q.length 0 from rfl, feed_append, feed4, feed_zeros]
  rw [hd, ← bsts_add]
  intro he
  apply ht
  refine bsts_zero hlt (8 * q.length + 32) ?_
  have := congrArg (feed r (a0 :: a1 :: a2 :: a3 :: q) ^^^ ·) he
  simpa [← Nat.xor_assoc] using this
theorem turnAll_inj {a b : Nat} (h : turnAll a = turnAll b) : a = b := by rw [← turnAll_twice a, h, turnAll_twice]
/-- A burst of up to 32 bits is found. -/
theorem crc_burst (p q : List UInt8) (a0 a1 a2 a3 t0 t1 t2 t3 : UInt8) (ht : num4 t0 t1 t2 t3 ≠ 0) (hlt : num4 t0 t1 t2 t3 < 4294967296) :
    crc (p ++ ((a0 ^^^ t0) :: (a1 ^^^ t1) :: (a2 ^^^ t2) :: (a3 ^^^ t3) :: q)) ≠ crc (p ++ (a0 :: a1 :: a2 :: a3 :: q)) := by
  intro h
  have h2 := turnAll_inj h
  rw [feed_append, feed_append] at h2
  exact feed_burst _ _ _ _ _ _ _ _ _ _ ht hlt h2
/-- The bytes of a number. -/
def tb (t k : Nat) : UInt8 := UInt8.ofNat (t >>> (8 * k))
theorem num4_of (t : Nat) (h : t < 4294967296) : num4 (tb t 0) (tb t 1) (tb t 2) (tb t 3) = t := by
  apply Nat.eq_of_testBit_eq
  intro i
  have e (k : Nat) : (tb t k).toNat = (t >>> (8 * k)) % 2 ^ 8 := by unfold tb; rw [UInt8.toNat_ofNat']
  unfold num4
  simp only [Nat.testBit_xor, Nat.testBit_shiftLeft, e, Nat.testBit_mod_two_pow, Nat.testBit_shiftRight]
  by_cases h0 : i < 8
  · simp [h0, show ¬ 8 ≤ i from by omega, show ¬ 16 ≤ i from by omega, show ¬ 24 ≤ i from by omega]
  · by_cases h1 : i < 16
    · simp [h0, show 8 ≤ i from by omega, show ¬ 16 ≤ i from by omega, show ¬ 24 ≤ i from by omega, show i - 8 < 8 from by omega, show 8 + (i - 8) = i from by omega]
    · by_cases h2 : i < 24
      · simp [h0, show 8 ≤ i from by omega, show 16 ≤ i from by omega, show ¬ 24 ≤ i from by omega, show ¬ i - 8 < 8 from by omega, show i - 16 < 8 from by omega, show 16 + (i - 16) = i from by omega]
      · by_cases h3 : i < 32
        · simp [h0, show 8 ≤ i from by omega, show 16 ≤ i from by omega, show 24 ≤ i from by omega, show ¬ i - 8 < 8 from by omega, show ¬ i - 16 < 8 from by omega, show i - 24 < 8 from by omega, show 24 + (i - 24) = i from by omega]
        · have hb : t.testBit i = false := Nat.testBit_lt_two_pow (Nat.lt_of_lt_of_le h (by rw [show 4294967296 = 2 ^ 32 from rfl]; exact Nat.pow_le_pow_right (by omega) (by omega)))
          simp [h0, hb, show 8 ≤ i from by omega, show 16 ≤ i from by omega, show 24 ≤ i from by omega, show ¬ i - 8 < 8 from by omega, show ¬ i - 16 < 8 from by omega, show ¬ i - 24 < 8 from by omega]
/-- Three texts added bit by bit. -/
theorem crc_three (a b c : List UInt8) (h1 : a.length = b.length) (h2 : b.length = c.length) :
    crc (List.zipWith (· ^^^ ·) (List.zipWith (· ^^^ ·) a b) c) = crc a ^^^ crc b ^^^ crc c := by
  have e1 := feed_zip (turnAll 0 ^^^ turnAll 0) (turnAll 0) (List.zipWith (· ^^^ ·) a b) c (by simp; omega)
  rw [feed_zip _ _ a b h1, Nat.xor_self, Nat.zero_xor] at e1
  show turnAll (feed (turnAll 0) _) = turnAll (feed (turnAll 0) a) ^^^ turnAll (feed (turnAll 0) b) ^^^ turnAll (feed (turnAll 0) c)
  rw [e1]
  generalize feed (turnAll 0) a = x
  generalize feed (turnAll 0) b = y
  generalize feed (turnAll 0) c = z
  unfold turnAll
  generalize (4294967295 : Nat) = m
  apply Nat.eq_of_testBit_eq
  intro i
  simp only [Nat.testBit_xor]
  cases x.testBit i <;> cases y.testBit i <;> cases z.testBit i <;> cases m.testBit i <;> rfl
end Go.Proofs.Ythbimhkhpkknnaa
