/-
  Numbers and texts as bytes: plain functions, and reading what was written.
-/
import Derived.Test.YtcmollfhlillfaaGreatDoorBytes
namespace Go.Proofs.YtcmollfhlillfaaGreatDoor
set_option linter.unusedVariables false
set_option linter.unusedSimpArgs false
/-- A number's bytes. -/
def putN (n : Nat) : List UInt8 := if h : n < 128 then [UInt8.ofNat n] else UInt8.ofNat (n % 128 + 128) :: putN (n / 128)
termination_by n
decreasing_by omega
theorem putN_small {n : Nat} (h : n < 128) : putN n = [UInt8.ofNat n] := by rw [putN, dif_pos h]
theorem putN_big {n : Nat} (h : ¬ n < 128) : putN n = UInt8.ofNat (n % 128 + 128) :: putN (n / 128) := by rw [putN, dif_neg h]
theorem putN_ne (n : Nat) : putN n ≠ [] := by
  by_cases h : n < 128
  · rw [putN_small h]; simp
  · rw [putN_big h]; simp
theorem putN_pos (n : Nat) : 1 ≤ (putN n).length := by
  have := putN_ne n
  cases h : putN n with
  | nil => exact absurd h this
  | cons x r => simp
theorem putN_len : ∀ (k n : Nat), n < 128 ^ k → 1 ≤ k → (putN n).length ≤ k
  | 0, n, _, hk => by omega
  | 1, n, h, _ => by rw [putN_small (by simpa using h)]; simp
  | k + 2, n, h, _ => by
    by_cases hn : n < 128
    · rw [putN_small hn]; simp
    · rw [putN_big hn, List.length_cons]
      have h2 : n / 128 < 128 ^ (k + 1) := by
        rw [Nat.pow_succ] at h
        exact Nat.div_lt_of_lt_mul (by rw [Nat.mul_comm]; exact h)
      have := putN_len (k + 1) (n / 128) h2 (by omega)
      omega
theorem putN_len9 {n : Nat} (h : n < 9223372036854775808) : (putN n).length ≤ 9 := putN_len 9 n (by simpa using h) (by omega)
theorem putN_len3 {n : Nat} (h : n < 2097152) : (putN n).length ≤ 3 := putN_len 3 n (by simpa using h) (by omega)
/-- How a number is read: the number, how many bytes, the error. -/
def numGo (i acc : Nat) : List UInt8 → Nat × Nat × Nat
  | [] => if 9 ≤ i then (0, 0, 2) else (0, 0, 3)
  | x :: r => if i = 9 then (0, 0, 2) else if 128 ≤ x.toNat then numGo (i + 1) (acc + x.toNat % 128 * 128 ^ i) r else if x.toNat = 0 ∧ 0 < i then (0, 0, 2) else (acc + x.toNat * 128 ^ i, i + 1, 0)
def numF (l : List UInt8) : Nat × Nat × Nat := numGo 0 0 l
theorem numGo_put (n : Nat) : ∀ (i acc : Nat) (r : List UInt8), i + (putN n).length ≤ 9 → (0 < i → n ≠ 0) → numGo i acc (putN n ++ r) = (acc + n * 128 ^ i, i + (putN n).length, 0) := by
  induction n using Nat.strongRecOn with
  | _ n ih =>
    intro i acc r hi h0
    by_cases h : n < 128
    · rw [putN_small h] at hi ⊢
      have e : (UInt8.ofNat n).toNat = n := by rw [UInt8.toNat_ofNat']; omega
      simp only [List.length_singleton] at hi
      simp only [List.singleton_append, numGo, e]
      rw [if_neg (by omega), if_neg (by omega), if_neg (by omega)]; rfl
    · rw [putN_big h] at hi ⊢
      have e : (UInt8.ofNat (n % 128 + 128)).toNat = n % 128 + 128 := by rw [UInt8.toNat_ofNat']; omega
      simp only [List.length_cons] at hi
      simp only [List.cons_append, numGo, e]
      rw [if_neg (by omega), if_pos (by omega), ih (n / 128) (by omega) (i + 1) _ r (by omega) (fun _ => by omega)]
      have e2 : acc + (n % 128 + 128) % 128 * 128 ^ i + n / 128 * 128 ^ (i + 1) = acc + n * 128 ^ i := by
        have e3 : (n % 128 + 128) % 128 = n % 128 := by omega
        rw [e3, Nat.pow_succ, Nat.mul_comm (128 ^ i) 128, ← Nat.mul_assoc, Nat.add_assoc, ← Nat.add_mul]
        have e4 : n % 128 + n / 128 * 128 = n := by omega
        rw [e4]
      rw [e2, List.length_cons]
      simp only [Prod.mk.injEq]
      exact ⟨trivial, by omega, trivial⟩
theorem numF_put {n : Nat} (hn : n < 9223372036854775808) (r : List UInt8) : numF (putN n ++ r) = (n, (putN n).length, 0) := by
  unfold numF
  rw [numGo_put n 0 0 r (by have := putN_len9 hn; omega) (fun h => absurd h (by omega))]
  simp
theorem numGo_used (l : List UInt8) : ∀ i acc, (numGo i acc l).2.1 ≤ i + l.length := by
  induction l with
  | nil => intro i acc; unfold numGo; split <;> simp
  | cons x r ih =>
    intro i acc
    unfold numGo
    split
    · simp
    · split
      · have := ih (i + 1) (acc + x.toNat % 128 * 128 ^ i)
        simp only [List.length_cons]; omega
      · split
        · simp
        · simp
theorem numF_used (l : List UInt8) : (numF l).2.1 ≤ l.length := by
  have := numGo_used l 0 0
  unfold numF; omega
theorem numGo_lt (l : List UInt8) : ∀ i acc, i ≤ 9 → acc < 128 ^ i → (numGo i acc l).1 < 9223372036854775808 := by
  induction l with
  | nil => intro i acc _ h; unfold numGo; split <;> simp
  | cons x r ih =>
    intro i acc hi9 h
    unfold numGo
    split
    · simp
    · rename_i hi
      split
      · refine ih (i + 1) _ (by omega) ?_
        rw [Nat.pow_succ]
        have h1 : x.toNat % 128 ≤ 127 := by omega
        have h2 : x.toNat % 128 * 128 ^ i ≤ 127 * 128 ^ i := Nat.mul_le_mul_right _ h1
        omega
      · split
        · simp
        · rename_i h128 _
          simp only
          have h1 : x.toNat ≤ 127 := by omega
          have h2 : x.toNat * 128 ^ i ≤ 127 * 128 ^ i := Nat.mul_le_mul_right _ h1
          have h3 : 128 ^ (i + 1) ≤ 128 ^ 9 := Nat.pow_le_pow_right (by omega) (by omega)
          rw [Nat.pow_succ] at h3
          have h4 : (128 : Nat) ^ 9 = 9223372036854775808 := by decide
          omega
theorem numF_lt (l : List UInt8) : (numF l).1 < 9223372036854775808 := numGo_lt l 0 0 (by omega) (by simp)
/-- A text's bytes. -/
def putT (s : List UInt8) : List UInt8 := putN s.length ++ s
/-- How a text is read. -/
def textF (l : List UInt8) : List UInt8 × Nat × Nat :=
  if (numF l).2.2 ≠ 0 then ([], 0, (numF l).2.2) else if 65536 < (numF l).1 then ([], 0, 6) else if l.length - (numF l).2.1 < (numF l).1 then ([], 0, 3) else ((l.drop (numF l).2.1).take (numF l).1, (numF l).2.1 + (numF l).1, 0)
theorem textF_put {s : List UInt8} (hs : s.length ≤ 65536) (r : List UInt8) : textF (putT s ++ r) = (s, (putT s).length, 0) := by
  unfold textF putT
  rw [List.append_assoc, numF_put (by omega)]
  simp only
  rw [if_neg (by omega), if_neg (by omega), if_neg (by simp only [List.length_append]; omega), List.drop_left, List.take_left, List.length_append]
theorem putT_len {s : List UInt8} (hs : s.length ≤ 65536) : (putT s).length ≤ s.length + 3 := by
  unfold putT
  rw [List.length_append]
  have := putN_len3 (n := s.length) (by omega)
  omega
end Go.Proofs.YtcmollfhlillfaaGreatDoor
