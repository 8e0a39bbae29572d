/-
  awake of law 9; no clock.
-/
import Derived.Test.YtinfeajbnhkkiaaCPass
namespace Go.Proofs.Ytinfeajbnhkkiaa
open Go.RowKit Go.Maps
set_option linter.unusedVariables false
set_option linter.unusedSimpArgs false
theorem set_good {C n : Nat} {t b at_ : Int} {L : List Bel} {w w' : World} {e : Ending} (h : SetPost C n t b at_ L w e w') (h0 : 0 ≤ b) (h1 : b < 4096) (h2 : t ≤ at_) (h3 : at_ ≤ 1099511627776) :
    e = .returned (.int .i64 0) ∧ CK w' C (n + 1) t (setB b at_ L) ∧ CTurn C w w' := by
  rcases h with ⟨h, _⟩ | ⟨_, _, h, _⟩ | ⟨_, _, _, h, _⟩ | ⟨_, _, _, _, h⟩
  · omega
  · omega
  · omega
  · exact h
theorem pass_good {C n : Nat} {t k : Int} {L : List Bel} {w w' : World} {e : Ending} (h : PassPost C n t k L w e w') (h0 : 0 ≤ k) (h1 : t + k ≤ 1099511627776) :
    ∃ A m c, e = .returned (.tuple #[.slice A m c, .int .i64 0]) ∧ (dueB (t + k) L).length = m ∧ w'.ownsRow w.heap.size 3 1 (.slice A m c) m (ints ((dueB (t + k) L).map (·.1))) ∧ CK w' C n (t + k) (restB (t + k) L) ∧ CTurn C w w' := by
  rcases h with ⟨h, _⟩ | ⟨_, h, _⟩ | ⟨_, _, h⟩
  · omega
  · omega
  · exact h
set_option maxRecDepth 100000 in
set_option maxHeartbeats 4000000 in
theorem cawake_yes (w : World) : Calls Try.prog 8 #[] w fun e w' => e = .returned (.bool true) ∧ Later w w' := by
  go_enter Try.func8, Try.ntmps8
  go_wp2_with fail
  refine (cknew_any _).mono ?_; rintro e w1 ⟨rfl, hck, hcb, hb1⟩
  have HCK1 := hide_ hck; have HCB1 := hide_ hcb; have HB1 := hide_ hb1
  clear hck hcb hb1
  go_wp2_with fail
  refine (ckset_any 3 5 HCK1.out (by omega)).mono ?_; rintro e w2 h
  obtain ⟨rfl, hck, ht⟩ := set_good h (by omega) (by omega) (by omega) (by omega)
  have HCK2 := hide_ hck; have HB2 := hide_ (ht.later HB1.out HCB1.out); have HCB2 := hide_ (HCB1.out.turn ht)
  clear h hck ht
  go_wp2_with fail
  refine (ckset_any 1 5 HCK2.out (by omega)).mono ?_; rintro e w3 h
  obtain ⟨rfl, hck, ht⟩ := set_good h (by omega) (by omega) (by omega) (by omega)
  have HCK3 := hide_ hck; have HB3 := hide_ (ht.later HB2.out HCB2.out); have HCB3 := hide_ (HCB2.out.turn ht)
  clear h hck ht
  go_wp2_with fail
  refine (ckpass_any 5 HCK3.out (by omega)).mono ?_; rintro e w4 h
  obtain ⟨A, m, c, rfl, hm, ho, hck, ht⟩ := pass_good h (by omega) (by omega)
  have hd : dueB (0 + 5) (setB 1 5 (setB 3 5 [])) = [(1, 5), (3, 5)] := by decide
  rw [hd] at hm ho
  have hm2 : m = 2 := hm.symm
  subst hm2
  have HCK4 := hide_ hck; have HB4 := hide_ (ht.later HB3.out HCB3.out)
  obtain ⟨b, o, rfl, hcl⟩ := ints_cells ho rfl (by omega)
  have v0 : w4.cell? ⟨b, o, none⟩ = some (.int .i64 1) := hcl 0 1 rfl
  have HN := hide_ (cnow_any hck)
  clear h hm ho hck ht hcl hd
  go_wp2_with (go_at_call 11; refine HN.out.mono ?_; rintro e w' ⟨rfl, rfl⟩)
  go_ret
  exact ⟨rfl, HB4.out⟩
theorem pass_none (k : Int) (w : World) : Calls Try.prog 10 #[.pointer none, .int .i64 k] w fun e w' => e = .returned (.tuple #[.slice none 0 0, .int .i64 1]) ∧ Later w w' := by
  go_enter Try.func10, Try.ntmps10
  go_wp2_with fail
  go_ret2
  exact ⟨rfl, later_alloc _ _⟩
theorem bell_none (b : Int) (w : World) : Calls Try.prog 17 #[.pointer none, .int .i64 b] w fun e w' => e = .returned (.int .i64 1) ∧ w = w' := by
  go_enter Try.func17, Try.ntmps17
  go_wp2_with fail
  go_ret
  exact ⟨rfl, rfl⟩
theorem set_none (b t : Int) (w : World) : Calls Try.prog 9 #[.pointer none, .int .i64 b, .int .i64 t] w fun e w' => e = .returned (.int .i64 1) ∧ w = w' := by
  go_enter Try.func9, Try.ntmps9
  go_wp2_with (go_at_call 17; refine (bell_none _ _).mono ?_; rintro e w' ⟨rfl, rfl⟩)
  go_ret
  exact ⟨rfl, rfl⟩
theorem stop_none (b : Int) (w : World) : Calls Try.prog 13 #[.pointer none, .int .i64 b] w fun e w' => e = .returned (.int .i64 1) ∧ w = w' := by
  go_enter Try.func13, Try.ntmps13
  go_wp2_with (go_at_call 17; refine (bell_none _ _).mono ?_; rintro e w' ⟨rfl, rfl⟩)
  go_ret
  exact ⟨rfl, rfl⟩
theorem now_none (w : World) : Calls Try.prog 11 #[.pointer none] w fun e w' => e = .returned (.int .i64 0) ∧ w = w' := by
  go_enter Try.func11, Try.ntmps11
  go_wp2_with fail
  go_ret
  exact ⟨rfl, rfl⟩

end Go.Proofs.Ytinfeajbnhkkiaa
