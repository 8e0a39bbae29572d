/-
  code.Text: the text that bytes begin with.
-/
import Derived.Test.YtlgnnmpfipmjeaaGreatZkKNum
import Derived.Test.YtlgnnmpfipmjeaaGreatZkSplit
namespace Go.Proofs.YtlgnnmpfipmjeaaGreat
open Go.RowKit
set_option linter.unusedVariables false
set_option linter.unusedSimpArgs false
theorem textF_used (l : List UInt8) : (textF l).2.1 ≤ l.length := by
  have h := numF_used l
  unfold textF
  split
  · simp
  · split
    · simp
    · split
      · simp
      · simp only; omega
set_option maxHeartbeats 4000000 in
set_option maxRecDepth 100000 in
theorem text_any {w : World} {A : Option Addr} {n c : Nat} {l : List UInt8} (hr : Rd w 1 A n (bvs l)) (hl : l.length = n) (hn : n ≤ 4398046511104) (hc : n ≤ c) (hA : A = none → n = 0) :
    Calls Tryz.prog 37 #[.slice A n c] w fun e w' => e = .returned (.tuple #[.string ⟨(textF l).1.toArray⟩, .int .i64 (textF l).2.1, .int .i64 (textF l).2.2]) ∧ Later w w' := by
  have HR := hide_ hr
  have HNU := hide_ (num_any (c := c) hr hl hn)
  subst hl
  have hn2 : (l.length : Int) ≤ 4398046511104 := by omega
  have HA := hide_ hA
  have hused := numF_used l
  have hlt := numF_lt l
  obtain ⟨N, hN⟩ : ∃ N, N = (numF l).1 := ⟨_, rfl⟩
  obtain ⟨U, hU⟩ : ∃ U, U = (numF l).2.1 := ⟨_, rfl⟩
  obtain ⟨E, hE⟩ : ∃ E, E = (numF l).2.2 := ⟨_, rfl⟩
  rw [← hN, ← hU, ← hE] at HNU
  rw [← hU] at hused
  rw [← hN] at hlt
  have HT := hide_ (show textF l = if E ≠ 0 then ([], 0, E) else if 65536 < N then ([], 0, 6) else if l.length - U < N then ([], 0, 3) else ((l.drop U).take N, U + N, 0) by unfold textF; rw [← hN, ← hU, ← hE])
  clear hr hA hN hU hE
  go_enter Tryz.func37, Tryz.ntmps37
  go_wp2_with fail
  refine HNU.out.mono ?_; rintro e w1 ⟨rfl, hl1⟩
  have HL1 := hide_ hl1
  clear hl1
  by_cases h0 : E ≠ 0
  · have q1 : ¬ (E : Int) = 0 := by omega
    rw [if_pos h0] at HT
    go_wp2_with fail
    go_ret3
    exact ⟨by rw [HT.out]; rfl, HL1.out⟩
  · obtain rfl : E = 0 := by omega
    rw [if_neg h0] at HT
    by_cases h1 : 65536 < N
    · have q1 : (65536 : Int) < (N : Int) := by omega
      rw [if_pos h1] at HT
      go_wp2_with fail
      go_ret3
      exact ⟨by rw [HT.out]; rfl, HL1.out⟩
    · have q1 : ¬ (65536 : Int) < (N : Int) := by omega
      rw [if_neg h1] at HT
      have q2 : IntKind.i64.wrap ((l.length : Int) - (U : Int)) = ((l.length - U : Nat) : Int) := by rw [IntWalk.i64_in] <;> omega
      by_cases h2 : l.length - U < N
      · have q3 : ((l.length - U : Nat) : Int) < (N : Int) := by omega
        have q4 : (l.length : Int) - (U : Int) < (N : Int) := by omega
        rw [if_pos h2] at HT
        go_wp2_with fail
        go_ret3
        exact ⟨by rw [HT.out]; rfl, HL1.out⟩
      · have q3 : ¬ ((l.length - U : Nat) : Int) < (N : Int) := by omega
        have q4 : ¬ (l.length : Int) - (U : Int) < (N : Int) := by omega
        rw [if_neg h2] at HT
        have q5 : IntKind.i64.wrap ((U : Int) + (N : Int)) = ((U + N : Nat) : Int) := by rw [IntWalk.i64_in] <;> omega
        have hlen : ((l.drop U).take N).length = N := by rw [List.length_take, List.length_drop]; omega
        have hRd : Rd w1 1 (if c = U then A else A.map (·.add U)) N (bvs ((l.drop U).take N)) := by
          have h := ((HR.out.below HL1.out).cut (k := U) (cap := c) hused hc).take (k := N) (by omega)
          have e : (bvs ((l.drop U).take N)) = ((bvs l).drop (U * 1)).take (N * 1) := by simp [bvs, List.map_take, List.map_drop]
          rw [e]
          simpa using h
        have hb1 : (U : Int) ≤ (c : Int) := by omega
        have hb2 : ((U + N : Nat) : Int) ≤ (c : Int) := by omega
        by_cases hcU : c = U
        · rw [if_pos hcU] at hRd
          have hcv : (convert 43 9 (.slice A N 0)).run Tryz.prog w1 = .ok (.string ⟨((l.drop U).take N).toArray⟩) w1 := run_str_n _ _ 5 0 hlen Tryz.underlying43 Tryz.underlying5 Tryz.underlying9 (fun h => by have := HA.out h; omega) hRd
          clear hRd hlen
          go_wp2_with fail
          go_ret3
          exact ⟨by rw [HT.out]; rfl, HL1.out⟩
        · rw [if_neg hcU] at hRd
          have hcv : (convert 43 9 (.slice (A.map (·.add U)) N (c - U))).run Tryz.prog w1 = .ok (.string ⟨((l.drop U).take N).toArray⟩) w1 := run_str_n _ _ 5 (c - U) hlen Tryz.underlying43 Tryz.underlying5 Tryz.underlying9 (fun h => by
            cases A with
            | none => have := HA.out rfl; omega
            | some a => cases h) hRd
          clear hRd hlen
          go_wp2_with fail
          go_ret3
          exact ⟨by rw [HT.out]; rfl, HL1.out⟩

end Go.Proofs.YtlgnnmpfipmjeaaGreat
