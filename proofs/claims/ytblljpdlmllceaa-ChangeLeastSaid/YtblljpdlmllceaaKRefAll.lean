/-
  The document's All.
-/
import Derived.Test.YtblljpdlmllceaaKRefCheck
namespace Go.Proofs.Ytblljpdlmllceaa
open Go.RowKit
set_option linter.unusedVariables false
set_option linter.unusedSimpArgs false
set_option maxHeartbeats 1000000 in
theorem rall_any {w : World} {A : Option Addr} {n c : Nat} {L : List Chg} (hr : Rd w 3 A n (crow L)) (hl : L.length = n) (hn : n ≤ 4398046511104) : Calls Try.prog 22 #[.slice A n c] w fun e w' => e = .returned (.int .i64 (chkAll L)) ∧ Later w w' := by
  have HR := hide_ hr; have HL := hide_ hl
  have hn2 : (n : Int) ≤ 4398046511104 := by omega
  clear hr hl
  go_enter Try.func22, Try.ntmps22
  go_wp2_with fail
  go_loopw [3, 4] (fun s8 _ wr => ∃ k : Nat, k ≤ n ∧ s8 = .int .i64 k ∧ Hid (chkAll L = chkAll (L.drop k)) ∧ Hid (Later w wr)) (fun i _ _ => n - (intOf i).toNat)
  case atStart => exact ⟨0, Nat.zero_le _, rfl, hide_ rfl, Later.refl w⟩
  case round =>
    obtain ⟨k, hkn, rfl, HC, HB⟩ := hrel
    by_cases hlt : k < n
    · obtain ⟨s, hs⟩ : ∃ s, L[k]? = some s := ⟨_, List.getElem?_eq_getElem (by rw [HL.out]; exact hlt)⟩
      obtain ⟨b, o, rfl, l0, l1, l2⟩ := (HR.out.below HB.out).chg hs
      have q1 : (k : Int) < (n : Int) := by omega
      have q2 : (0 : Int) ≤ (k : Int) := by omega
      have q3 : (k : Int) ≤ 4398046511104 := by omega
      have HN := hide_ (chkAll_next hs)
      have hc := hide_ (rcheck_any s.1 s.2.1 s.2.2)
      clear hs
      by_cases h0 : chk s.1 s.2.1 s.2.2 = 0
      · go_wp2_with fail
        refine (hc.out _).mono ?_; rintro e w2 ⟨rfl, hb2⟩
        rw [h0]
        have HB2 := hide_ (Later.trans HB.out hb2)
        clear hb2
        go_wp2_with fail
        go_roundw
        case rel => exact ⟨k + 1, by omega, by go_num, hide_ (by rw [HC.out, HN.out, if_pos h0]), HB2.out⟩
        case measure => simp [intOf]; omega
      · have h0' : ¬ (0 : Int) = chk s.1 s.2.1 s.2.2 := fun h => h0 h.symm
        go_wp2_with fail
        refine (hc.out _).mono ?_; rintro e w2 ⟨rfl, hb2⟩
        have HB2 := hide_ (Later.trans HB.out hb2)
        clear hb2
        go_wp2_with fail
        go_ret
        exact ⟨by rw [HC.out, HN.out, if_neg h0]; rfl, HB2.out⟩
    · have q1 : ¬ (k : Int) < (n : Int) := by omega
      obtain rfl : k = n := by omega
      go_wp2_with fail
      go_ret
      exact ⟨by rw [HC.out, ← HL.out, chkAll_end]; rfl, HB.out⟩
end Go.Proofs.Ytblljpdlmllceaa
