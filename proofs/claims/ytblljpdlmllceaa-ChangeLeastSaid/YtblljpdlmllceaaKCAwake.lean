/-
  awake of law 04: one small Apply and one Check.
-/
import Derived.Test.YtblljpdlmllceaaKApply
namespace Go.Proofs.Ytblljpdlmllceaa
open Go.RowKit
set_option linter.unusedVariables false
set_option linter.unusedSimpArgs false
theorem aw_app {M : List Pr} (h : AppOf [] [(1, ⟨#[97]⟩, ⟨#[49]⟩), (1, ⟨#[98]⟩, ⟨#[]⟩), (3, ⟨#[97]⟩, ⟨#[98]⟩)] M) : M = [(⟨#[98]⟩, ⟨#[]⟩)] := by
  have h1 : (⟨#[97]⟩ : ByteArray) < ⟨#[98]⟩ := by decide
  obtain ⟨N1, ⟨_, a1⟩, N2, ⟨_, a2⟩, N3, ⟨r3, a3⟩, rfl⟩ := h
  generalize (⟨#[97]⟩ : ByteArray) = a at *
  generalize (⟨#[98]⟩ : ByteArray) = b at *
  generalize (⟨#[49]⟩ : ByteArray) = u at *
  generalize (⟨#[]⟩ : ByteArray) = z at *
  refine ris_uniq r3 (by unfold Ris; simp) fun p => ?_
  rw [a3 p, a2 p, a1 p]
  unfold Named
  simp only [show ¬ (1 : Int) = 3 from by decide, show ¬ (3 : Int) = 1 from by decide, if_true, if_false, List.not_mem_nil, false_and, false_or, true_and, or_false, List.mem_singleton]
  constructor
  · rintro ⟨⟨rfl, h⟩ | rfl, h2⟩
    · exact absurd ⟨(by grind : a ≤ a), h1⟩ h2
    · rfl
  · rintro rfl
    exact ⟨.inr rfl, fun h => by have := h.2; grind⟩
set_option maxHeartbeats 2000000 in
theorem awake_yes (w : World) : Calls Try.prog 14 #[] w fun e w' => e = .returned (.bool true) ∧ Later w w' := by
  have hj := hide_ (apply_any (A := none) (c := 0) (c' := 3) (n := 0) (L := []) (p := 3) (C := [((1 : Int), (⟨#[97]⟩ : ByteArray), (⟨#[49]⟩ : ByteArray)), (1, ⟨#[98]⟩, ⟨#[]⟩), (3, ⟨#[97]⟩, ⟨#[98]⟩)]) (Rd.nil _ _ _) rfl (fun _ => rfl) (Rd.newAt w #[.int .i64 1, .string ⟨#[97]⟩, .string ⟨#[49]⟩, .int .i64 1, .string ⟨#[98]⟩, .string ⟨#[]⟩, .int .i64 3, .string ⟨#[97]⟩, .string ⟨#[98]⟩] 32 3 3 w.heap.size (0, 0) rfl rfl) rfl (by omega))
  go_enter Try.func14, Try.ntmps14
  go_wp2_with fail
  refine (hj.out).mono ?_; rintro e w1 ⟨h, hb1⟩
  have hk0 : chkAll [((1 : Int), (⟨#[97]⟩ : ByteArray), (⟨#[49]⟩ : ByteArray)), (1, ⟨#[98]⟩, ⟨#[]⟩), (3, ⟨#[97]⟩, ⟨#[98]⟩)] = 0 := by decide
  rcases h with ⟨h, _⟩ | ⟨_, h, _⟩ | ⟨_, _, u, M, m, rfl, hm, _, hap, ho⟩
  · exact absurd hk0 h
  · exact absurd ⟨by unfold Ris; simp, fun p hp => by cases hp⟩ h
  obtain rfl := aw_app hap
  obtain rfl : 1 = m := hm
  obtain ⟨A1, c1, rfl⟩ := own_form ho
  obtain ⟨b, o, rfl, l0, l1⟩ := (Rd.of_own ho).pair (i := 0) rfl
  have HB1 := hide_ (((Below.refl w.heap.size w).alloc (Nat.le_refl _) _).trans (hb1.mono (by simp)))
  simp only [Nat.zero_mul, Nat.add_zero] at l0 l1
  have hc := fun W => check_any 9 ⟨#[]⟩ ⟨#[]⟩ W
  rw [show chk 9 ⟨#[]⟩ ⟨#[]⟩ = 1 from by decide] at hc
  clear ho hap hb1 hj hk0
  go_wp2_with fail
  refine (hc _).mono ?_; rintro e w2 ⟨rfl, hb2⟩
  have HB2 := hide_ (Later.trans HB1.out hb2)
  clear hb2 hc
  go_wp2_with fail
  go_ret
  exact ⟨rfl, HB2.out⟩
end Go.Proofs.Ytblljpdlmllceaa
