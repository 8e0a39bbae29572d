/-
  The document's number: digits.
-/
import Derived.Test.YtapiglfbkncahaaDoorTLineA
import Derived.Test.YtapiglfbkncahaaDoorSplit
import Derived.Lib.ItoaLen
namespace Go.Proofs.YtapiglfbkncahaaDoor
open Go.RowKit
set_option linter.unusedVariables false
set_option linter.unusedSimpArgs false
def digB (m : Nat) : UInt8 := UInt8.ofNat (48 + m % 10)
/-- What lies ahead of the digits that are told. -/
def headD10 (m : Nat) : List UInt8 := if m < 10 then [] else Lib.decDigits (m / 10)
theorem headD10_dec (m : Nat) : Lib.decDigits m = headD10 m ++ [digB m] := by
  unfold headD10
  rw [Lib.decDigits]
  split
  · unfold digB; rw [show m % 10 = m by omega]; rfl
  · rfl
theorem headD10_step {m : Nat} (h : 10 ≤ m) (D : List UInt8) : headD10 m ++ D = headD10 (m / 10) ++ (digB (m / 10) :: D) := by
  have e : headD10 m = Lib.decDigits (m / 10) := by unfold headD10; rw [if_neg (by omega)]
  rw [e, headD10_dec (m / 10)]; simp
theorem itoa_dec (n : Int) : Lib.itoa n = if n < 0 then 45 :: Lib.decDigits n.natAbs else Lib.decDigits n.natAbs := by
  unfold Lib.itoa
  split
  · rfl
  · rw [show n.toNat = n.natAbs by omega]
theorem str_new1 (W : World) (m : Nat) : (convert 59 9 (.slice (some ⟨W.heap.size, 0, none⟩) 1 1)).run Tryd.prog (W.alloc (.cells #[.int .u8 (48 + (m : Int) % 10)] 5)) = .ok (.string ⟨#[digB m]⟩) (W.alloc (.cells #[.int .u8 (48 + (m : Int) % 10)] 5)) := by
  have e : (48 + (m : Int) % 10) = ((digB m).toNat : Int) := by
    have : (digB m).toNat = 48 + m % 10 := by unfold digB; simp; omega
    rw [this]; omega
  rw [e]
  exact run_str_n (l := [digB m]) _ _ 5 1 rfl Tryd.underlying59 Tryd.underlying5 Tryd.underlying9 (fun h => nomatch h) (Rd.newAt W #[bv (digB m)] 5 1 1 _ (0, 0) rfl rfl)
def NumPost (n : Int) (w : World) (e : Ending) (w' : World) : Prop := e = .returned (strV (Lib.itoa n)) ∧ Later w w'
set_option maxHeartbeats 1000000 in
set_option maxRecDepth 100000 in
theorem number_any {w : World} (n : Int) (h0 : -9223372036854775808 ≤ n) (h1 : n ≤ 9223372036854775807) :
    Calls Tryd.prog 12 #[.int .i64 n] w (NumPost n w) := by
  have HI := hide_ (itoa_dec n)
  obtain ⟨N, hN⟩ : ∃ N : Nat, N = n.natAbs := ⟨_, rfl⟩
  have HN := hide_ hN
  rw [← hN] at HI
  have hn1 : (N : Int) ≤ 9223372036854775808 := by omega
  have hw1 : IntKind.u64.wrap (N : Int) = N := IntWalk.u64_in _ (by omega)
  by_cases hneg : n < 0
  · have hc1 : IntKind.u64.wrap n = n + 18446744073709551616 := (by rw [IntKind.wrap_u64]; omega)
    have hc2 : IntKind.u64.wrap (-(n + 18446744073709551616)) = N := by rw [IntKind.wrap_u64]; omega
    clear hN
    go_enter Tryd.func12, Tryd.ntmps12
    have hs0 := str_new1 w N
    have HLA := hide_ (later_alloc w (.cells #[.int .u8 (48 + (N : Int) % 10)] 5))
    go_wp2_with fail
    generalize w.alloc (.cells #[.int .u8 (48 + (N : Int) % 10)] 5) = W1 at HLA ⊢
    go_loopw [3, 4] (fun s3 s4 wr => ∃ (m : Nat) (D : List UInt8), m ≤ N ∧ s3 = .int .u64 m ∧ s4 = .string ⟨D.toArray⟩ ∧ Hid (Lib.decDigits N = headD10 m ++ D) ∧ Hid (Later w wr)) (fun s3 _ _ => (intOf s3).toNat)
    case atStart => exact ⟨N, [digB N], by omega, rfl, rfl, hide_ (headD10_dec N), HLA⟩
    case round =>
      obtain ⟨m, D, hm, rfl, rfl, HT, HL⟩ := hrel
      have hD : D.length ≤ 20 := by
        have h1 := congrArg List.length HT.out
        rw [List.length_append, Lib.decDigits_length] at h1
        have := Lib.nDigits_le20 N (by omega)
        omega
      have hD2 : (D.length : Int) ≤ 20 := by omega
      have hm2 : (m : Int) ≤ 9223372036854775808 := by omega
      by_cases h10 : 10 ≤ m
      · have g1 : decide ((10 : Int) ≤ (m : Int)) = true := decide_eq_true (by omega)
        have HT2 := hide_ (show Lib.decDigits N = headD10 (m / 10) ++ (digB (m / 10) :: D) by rw [HT.out, headD10_step h10])
        have hs1 := str_new1 wr (m / 10)
        have em : ((m / 10 : Nat) : Int) = (m : Int) / 10 := by omega
        have hL1 := hide_ (HL.out.trans (later_alloc wr (.cells #[.int .u8 (48 + ((m / 10 : Nat) : Int) % 10)] 5)))
        rw [em] at hs1 hL1
        go_wp2_with fail
        go_roundw
        case rel => exact ⟨m / 10, digB (m / 10) :: D, by omega, by rw [em], rfl, HT2, hL1⟩
        case measure => simp only [intOf]; omega
      · have g1 : decide ((10 : Int) ≤ (m : Int)) = false := decide_eq_false (by omega)
        have HR := hide_ (show Lib.decDigits N = D by rw [HT.out]; unfold headD10; rw [if_pos (by omega)]; rfl)
        go_wp2_with fail
        go_ret
        refine ⟨?_, HL.out⟩
        rw [HI.out, if_pos hneg, HR.out]; rfl
  · have hc1 : IntKind.u64.wrap n = N := by rw [IntWalk.u64_in _ (by omega)]; omega
    clear hN
    go_enter Tryd.func12, Tryd.ntmps12
    have hs0 := str_new1 w N
    have HLA := hide_ (later_alloc w (.cells #[.int .u8 (48 + (N : Int) % 10)] 5))
    go_wp2_with fail
    generalize w.alloc (.cells #[.int .u8 (48 + (N : Int) % 10)] 5) = W1 at HLA ⊢
    go_loopw [3, 4] (fun s3 s4 wr => ∃ (m : Nat) (D : List UInt8), m ≤ N ∧ s3 = .int .u64 m ∧ s4 = .string ⟨D.toArray⟩ ∧ Hid (Lib.decDigits N = headD10 m ++ D) ∧ Hid (Later w wr)) (fun s3 _ _ => (intOf s3).toNat)
    case atStart => exact ⟨N, [digB N], by omega, rfl, rfl, hide_ (headD10_dec N), HLA⟩
    case round =>
      obtain ⟨m, D, hm, rfl, rfl, HT, HL⟩ := hrel
      have hD : D.length ≤ 20 := by
        have h1 := congrArg List.length HT.out
        rw [List.length_append, Lib.decDigits_length] at h1
        have := Lib.nDigits_le20 N (by omega)
        omega
      have hD2 : (D.length : Int) ≤ 20 := by omega
      have hm2 : (m : Int) ≤ 9223372036854775808 := by omega
      by_cases h10 : 10 ≤ m
      · have g1 : decide ((10 : Int) ≤ (m : Int)) = true := decide_eq_true (by omega)
        have HT2 := hide_ (show Lib.decDigits N = headD10 (m / 10) ++ (digB (m / 10) :: D) by rw [HT.out, headD10_step h10])
        have hs1 := str_new1 wr (m / 10)
        have em : ((m / 10 : Nat) : Int) = (m : Int) / 10 := by omega
        have hL1 := hide_ (HL.out.trans (later_alloc wr (.cells #[.int .u8 (48 + ((m / 10 : Nat) : Int) % 10)] 5)))
        rw [em] at hs1 hL1
        go_wp2_with fail
        go_roundw
        case rel => exact ⟨m / 10, digB (m / 10) :: D, by omega, by rw [em], rfl, HT2, hL1⟩
        case measure => simp only [intOf]; omega
      · have g1 : decide ((10 : Int) ≤ (m : Int)) = false := decide_eq_false (by omega)
        have HR := hide_ (show Lib.decDigits N = D by rw [HT.out]; unfold headD10; rw [if_pos (by omega)]; rfl)
        go_wp2_with fail
        go_ret
        refine ⟨?_, HL.out⟩
        rw [HI.out, if_neg (by omega), HR.out]; rfl

end Go.Proofs.YtapiglfbkncahaaDoor
