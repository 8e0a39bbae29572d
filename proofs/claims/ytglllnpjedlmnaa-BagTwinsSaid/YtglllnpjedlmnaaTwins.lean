/-
  BagTwins: a twin is another one: what is spoilt of one is not of the other. For any text, any place and any turn.
  Conditions: none but the row's own.
-/
import Derived.Test.YtglllnpjedlmnaaSpoil
import Derived.Test.YtglllnpjedlmnaaBagAwake
import Derived.Test.YtglllnpjedlmnaaFrame
namespace Go.Proofs.Ytglllnpjedlmnaa
open Go.ChangeShapes Go.WideShapes Go.ChangeAt Go.RowKit
set_option linter.unusedVariables false
set_option linter.unusedSimpArgs false
set_option maxHeartbeats 1000000 in
theorem bagTwins_bad (A : Option Addr) (n c : Nat) (a t : Int) (w : World) (h : n = 0 ∨ 1000 < n) :
    Calls Try.prog 3 #[.slice A n c, .int .u8 a, .int .u8 t] w fun e w' => e = .returned (.bool true) ∧ Below w.heap.size w w' := by
  rcases h with rfl | h
  all_goals
    go_enter Try.func3, Try.ntmps3
    go_wp2_with fail
    refine (new_any 3 (by omega) _).mono ?_; rintro e w1 ⟨p, ch, rfl, hB, hb1⟩; have HB := hide_ hb1; clear hb1 hB
    go_wp2_with fail
    refine (awake_any _).mono ?_; rintro e w2 ⟨rfl, hb⟩; have HB2 := hide_ (HB.out.trans (hb.mono HB.out.size)); clear hb
    go_wp2_with fail
    refine (awake_any _).mono ?_; rintro e w3 ⟨rfl, hb⟩; have HB3 := hide_ (HB2.out.trans (hb.mono HB2.out.size)); clear hb
    go_wp2_with fail
    go_ret
    exact ⟨rfl, HB3.out⟩
set_option maxHeartbeats 1000000 in
theorem bagTwins_good (A : Option Addr) (n c a : Nat) (t : UInt8) (l : List UInt8) (w : World) (hl : l.length = n) (h0 : 0 < n) (h1 : n ≤ 1000) (ha : a < 256) (hR : Rd w 1 A n (bvs l)) :
    Calls Try.prog 3 #[.slice A n c, .int .u8 (a : Int), .int .u8 (t.toNat : Int)] w fun e w' => e = .returned (.bool true) ∧ Below w.heap.size w w' := by
  have hA : A = none → n = 0 := by
    obtain ⟨b, o, hb, _⟩ := hR.2 (by simp [bvs, hl]; omega)
    rw [hb]; intro h; cases h
  have HA := hide_ hA
  have HL := hide_ hl
  obtain ⟨k, hk⟩ : ∃ k, k = a % n := ⟨_, rfl⟩
  have hkn : k < n := by rw [hk]; exact Nat.mod_lt _ h0
  have htm : (a : Int).tmod (n : Int) = (k : Int) := by rw [hk]; exact Int.ofNat_tmod _ _ |>.symm
  have qn : ((n : Int) == 0) = false := by rw [beq_eq_false_iff_ne]; omega
  have qn2 : decide (1000 < (n : Int)) = false := by rw [decide_eq_false_iff_not]; omega
  clear hA hl hk
  go_enter Try.func3, Try.ntmps3
  go_wp2_with fail
  refine (new_any 3 (by omega) _).mono ?_; rintro e w1 ⟨p, ch, rfl, hB, hb1⟩; have HB := hide_ hb1; have HBA := hide_ hB; clear hb1 hB
  go_wp2_with fail
  refine (awake_any _).mono ?_; rintro e w2 ⟨rfl, hb⟩; have HB2 := hide_ (HB.out.trans (hb.mono HB.out.size)); have HBA2 := hide_ (HBA.out.later hb); clear hb
  have hR2 := hR.below HB2.out
  go_wp2_with fail
  refine (send_any HBA2.out (by omega) HB2.out.size 9 A n c l (by omega) (by omega) (by omega) HL.out HA.out hR2 (by simp)).mono ?_; rintro e w3 ⟨rfl, ⟨sv3, v3, hB3⟩, hb3, _⟩; have HB3 := hide_ (HB2.out.trans hb3); have HBA3 := hide_ hB3; clear hB3 hb3
  go_wp2_with fail
  refine (twin_any HBA3.out (by omega) HB3.out.size 0 ⟨9, v3, l, false⟩ rfl (by show l.length ≤ _; rw [HL.out]; omega) (by simp)).mono ?_; rintro e w4 ⟨rfl, ⟨sv4, v4, hB4⟩, hb4, _⟩; have HB4 := hide_ (HB3.out.trans hb4); have HBA4 := hide_ hB4; clear hB4 hb4
  go_wp2_with fail
  refine (spoil_any HBA4.out (by omega) 0 ⟨9, v3, l, false⟩ rfl k t (by show k < l.length; rw [HL.out]; exact hkn) rfl).mono ?_; rintro e w5 ⟨rfl, hB5, hb5, _⟩; have HB5 := hide_ (HB4.out.trans hb5); have HBA5 := hide_ hB5; clear hB5 hb5
  go_wp2_with fail
  refine (look_any HBA5.out (by omega) 1 ⟨9, v4, l, false⟩ rfl (by show l.length ≤ _; rw [HL.out]; omega)).mono ?_; rintro e w6 ⟨v6, rfl, ho6, hb6⟩; have HB6 := hide_ (HB5.out.trans (hb6.mono HB5.out.size)); have HBA6 := hide_ (HBA5.out.later hb6)
  obtain ⟨A6, c6, rfl⟩ := own_form ho6
  have HO6 := hide_ ho6; clear ho6 hb6
  go_wp2_with fail
  refine (look_any HBA6.out (by omega) 0 ⟨9, v3, l.set k (l[k]'(by rw [HL.out]; exact hkn) ^^^ t), t != 0⟩ rfl (by show (l.set k _).length ≤ _; rw [List.length_set, HL.out]; omega)).mono ?_; rintro e w7 ⟨v7, rfl, ho7, hb7⟩; have HB7 := hide_ (HB6.out.trans (hb7.mono HB6.out.size))
  obtain ⟨A7, c7, rfl⟩ := own_form ho7
  simp only [List.length_set, HL.out] at ho7 ⊢
  have ho6 := own_below HO6.out hb7
  simp only [HL.out] at ho6
  have hR6 := Rd.of_own ho6
  have hR7 := hR.below HB7.out
  have hs6 : ∀ W, Later w7.drew W → (convert 22 9 (.slice A6 n c6)).run Try.prog W = .ok (.string ⟨l.toArray⟩) W := fun W hW => run_str_n _ _ 5 c6 HL.out Try.underlying22 Try.underlying5 Try.underlying9 (own_nil ho6) (hR6.drew.below hW)
  have hs0 : ∀ W, Later w7.drew W → (convert 22 9 (.slice A n c)).run Try.prog W = .ok (.string ⟨l.toArray⟩) W := fun W hW => run_str_n _ _ 5 c HL.out Try.underlying22 Try.underlying5 Try.underlying9 HA.out (hR7.drew.below hW)
  have hse : ((⟨l.toArray⟩ : ByteArray) == ⟨l.toArray⟩) = true := by show (l.toArray == l.toArray) = true; exact beq_self_eq_true _
  have hk : k < l.length := by rw [HL.out]; exact hkn
  have hx7 := Rd.of_own ho7
  obtain ⟨b7, o7, rfl, hc7⟩ := Rd.byte (l := l.set k (l[k]'hk ^^^ t)) (by rw [List.length_set, HL.out]; exact hx7) (k := k) (by rw [List.length_set]; exact hk)
  obtain ⟨b0, o0, rfl, hc0⟩ := Rd.byte (l := l) (by rw [HL.out]; exact hR7) (k := k) hk
  rw [List.getElem_set_self] at hc7
  have q1 : (k : Int) < (n : Int) := by omega
  have q0 : (0 : Int) ≤ (k : Int) := by omega
  have hxx := xor_u8 (l[k]'hk) t
  have lc7 := later_drew_cell hc7
  have lc0 := later_drew_cell hc0
  have hb1 : ((((l[k]'hk ^^^ t).toNat : Int)) == (((l[k]'hk ^^^ t).toNat : Int))) = true := beq_self_eq_true _
  have hb2 : ((n : Int) == (n : Int)) = true := beq_self_eq_true _
  clear ho6 ho7 hx7 hR7 hR hR2 hb7 hc7 hc0
  go_wp2_with fail
  refine wp_region_k (by kernel_rfl) ?_
  refine wpAnyK_take 0 (v := ?_) rfl (by kernel_rfl) (by kernel_rfl) (by kernel_rfl) (fun _ _ _ h => h) (by rfl) (by intro W hSw; go_simp; with_reducible rfl) ?_; try simp only [Act.put, List.setIfInBounds_toArray, List.set_cons_zero, List.set_cons_succ]
  refine wpAnyK_take 1 (v := ?_) rfl (by kernel_rfl) (by kernel_rfl) (by kernel_rfl) (fun _ _ _ h => h) (by rfl) (by intro W hSw; go_simp; with_reducible rfl) ?_; try simp only [Act.put, List.setIfInBounds_toArray, List.set_cons_zero, List.set_cons_succ]
  refine wpAnyK_take 2 (v := ?_) rfl (by kernel_rfl) (by kernel_rfl) (by kernel_rfl) (fun _ _ _ h => h) (by rfl) (by intro W hSw; go_simp; with_reducible rfl) ?_; try simp only [Act.put, List.setIfInBounds_toArray, List.set_cons_zero, List.set_cons_succ]
  refine wpAnyK_take 3 (v := ?_) rfl (by kernel_rfl) (by kernel_rfl) (by kernel_rfl) (fun _ _ _ h => h) (by rfl) (by intro W hSw; go_simp; with_reducible rfl) ?_; try simp only [Act.put, List.setIfInBounds_toArray, List.set_cons_zero, List.set_cons_succ]
  refine wpAnyK_take 4 (v := ?_) rfl (by kernel_rfl) (by kernel_rfl) (by kernel_rfl) (fun _ _ _ h => h) (by rfl) (by intro W hSw; go_simp; with_reducible rfl) ?_; try simp only [Act.put, List.setIfInBounds_toArray, List.set_cons_zero, List.set_cons_succ]
  refine wpAnyK_take 5 (v := ?_) rfl (by kernel_rfl) (by kernel_rfl) (by kernel_rfl) (fun _ _ _ h => h) (by rfl) (by intro W hSw; go_simp; with_reducible rfl) ?_; try simp only [Act.put, List.setIfInBounds_toArray, List.set_cons_zero, List.set_cons_succ]
  refine wpAnyK_take 6 (v := ?_) rfl (by kernel_rfl) (by kernel_rfl) (by kernel_rfl) (fun _ _ _ h => h) (by rfl) (by intro W hSw; go_simp; with_reducible rfl) ?_; try simp only [Act.put, List.setIfInBounds_toArray, List.set_cons_zero, List.set_cons_succ]
  refine wpAnyK_take 7 (v := ?_) rfl (by kernel_rfl) (by kernel_rfl) (by kernel_rfl) (fun _ _ _ h => h) (by rfl) (by intro W hSw; go_simp; with_reducible rfl) ?_; try simp only [Act.put, List.setIfInBounds_toArray, List.set_cons_zero, List.set_cons_succ]
  refine wpAnyK_take 8 (v := ?_) rfl (by kernel_rfl) (by kernel_rfl) (by kernel_rfl) (fun _ _ _ h => h) (by rfl) (by intro W hSw; go_simp; with_reducible rfl) ?_; try simp only [Act.put, List.setIfInBounds_toArray, List.set_cons_zero, List.set_cons_succ]
  refine wpAnyK_take 9 (v := ?_) rfl (by kernel_rfl) (by kernel_rfl) (by kernel_rfl) (fun _ _ _ h => h) (by rfl) (by intro W hSw; go_simp; with_reducible rfl) ?_; try simp only [Act.put, List.setIfInBounds_toArray, List.set_cons_zero, List.set_cons_succ]
  refine wpAnyK_take 10 (v := ?_) rfl (by kernel_rfl) (by kernel_rfl) (by kernel_rfl) (fun _ _ _ h => h) (by rfl) (by intro W hSw; go_simp; with_reducible rfl) ?_; try simp only [Act.put, List.setIfInBounds_toArray, List.set_cons_zero, List.set_cons_succ]
  refine wpAnyK_take 11 (v := ?_) rfl (by kernel_rfl) (by kernel_rfl) (by kernel_rfl) (fun _ _ _ h => h) (by rfl) (by intro W hSw; go_simp; with_reducible rfl) ?_; try simp only [Act.put, List.setIfInBounds_toArray, List.set_cons_zero, List.set_cons_succ]
  refine wpAnyK_take 12 (v := ?_) rfl (by kernel_rfl) (by kernel_rfl) (by kernel_rfl) (fun _ _ _ h => h) (by rfl) (by intro W hSw; go_simp; with_reducible rfl) ?_; try simp only [Act.put, List.setIfInBounds_toArray, List.set_cons_zero, List.set_cons_succ]
  refine wpAnyK_take 13 (v := ?_) rfl (by kernel_rfl) (by kernel_rfl) (by kernel_rfl) (fun _ _ _ h => h) (by rfl) (by intro W hSw; go_simp; with_reducible rfl) ?_; try simp only [Act.put, List.setIfInBounds_toArray, List.set_cons_zero, List.set_cons_succ]
  refine wpAnyK_take 14 (v := ?_) rfl (by kernel_rfl) (by kernel_rfl) (by kernel_rfl) (fun _ _ _ h => h) (by rfl) (by intro W hSw; go_simp; with_reducible rfl) ?_; try simp only [Act.put, List.setIfInBounds_toArray, List.set_cons_zero, List.set_cons_succ]
  refine wpAnyK_take 15 (v := ?_) rfl (by kernel_rfl) (by kernel_rfl) (by kernel_rfl) (fun _ _ _ h => h) (by rfl) (by intro W hSw; go_simp; with_reducible rfl) ?_; try simp only [Act.put, List.setIfInBounds_toArray, List.set_cons_zero, List.set_cons_succ]
  refine wpAnyK_take 16 (v := ?_) rfl (by kernel_rfl) (by kernel_rfl) (by kernel_rfl) (fun _ _ _ h => h) (by rfl) (by intro W hSw; go_simp; with_reducible rfl) ?_; try simp only [Act.put, List.setIfInBounds_toArray, List.set_cons_zero, List.set_cons_succ]
  refine wpAnyK_take 17 (v := ?_) rfl (by kernel_rfl) (by kernel_rfl) (by kernel_rfl) (fun _ _ _ h => h) (by rfl) (by intro W hSw; go_simp; with_reducible rfl) ?_; try simp only [Act.put, List.setIfInBounds_toArray, List.set_cons_zero, List.set_cons_succ]
  refine wpAnyK_take 18 (v := ?_) rfl (by kernel_rfl) (by kernel_rfl) (by kernel_rfl) (fun _ _ _ h => h) (by rfl) (by intro W hSw; go_simp; with_reducible rfl) ?_; try simp only [Act.put, List.setIfInBounds_toArray, List.set_cons_zero, List.set_cons_succ]
  refine wpAnyK_take 19 (v := ?_) rfl (by kernel_rfl) (by kernel_rfl) (by kernel_rfl) (fun _ _ _ h => h) (by rfl) (by intro W hSw; go_simp; with_reducible rfl) ?_; try simp only [Act.put, List.setIfInBounds_toArray, List.set_cons_zero, List.set_cons_succ]
  refine wpAnyK_take 20 (v := ?_) rfl (by kernel_rfl) (by kernel_rfl) (by kernel_rfl) (fun _ _ _ h => h) (by rfl) (by intro W hSw; go_simp; with_reducible rfl) ?_; try simp only [Act.put, List.setIfInBounds_toArray, List.set_cons_zero, List.set_cons_succ]
  refine wpAnyK_take 21 (v := ?_) rfl (by kernel_rfl) (by kernel_rfl) (by kernel_rfl) (fun _ _ _ h => h) (by rfl) (by intro W hSw; go_simp; with_reducible rfl) ?_; try simp only [Act.put, List.setIfInBounds_toArray, List.set_cons_zero, List.set_cons_succ]
  refine wpAnyK_take 22 (v := ?_) rfl (by kernel_rfl) (by kernel_rfl) (by kernel_rfl) (fun _ _ _ h => h) (by rfl) (by intro W hSw; go_simp; with_reducible rfl) ?_; try simp only [Act.put, List.setIfInBounds_toArray, List.set_cons_zero, List.set_cons_succ]
  refine wpAnyK_take 23 (v := ?_) rfl (by kernel_rfl) (by kernel_rfl) (by kernel_rfl) (fun _ _ _ h => h) (by rfl) (by intro W hSw; go_simp; with_reducible rfl) ?_; try simp only [Act.put, List.setIfInBounds_toArray, List.set_cons_zero, List.set_cons_succ]
  refine wpAnyK_take 24 (v := ?_) rfl (by kernel_rfl) (by kernel_rfl) (by kernel_rfl) (fun _ _ _ h => h) (by rfl) (by intro W hSw; go_simp; with_reducible rfl) ?_; try simp only [Act.put, List.setIfInBounds_toArray, List.set_cons_zero, List.set_cons_succ]
  refine wpAnyK_take 25 (v := ?_) rfl (by kernel_rfl) (by kernel_rfl) (by kernel_rfl) (fun _ _ _ h => h) (by rfl) (by intro W hSw; go_simp; with_reducible rfl) ?_; try simp only [Act.put, List.setIfInBounds_toArray, List.set_cons_zero, List.set_cons_succ]
  refine wpAnyK_take 26 (v := ?_) rfl (by kernel_rfl) (by kernel_rfl) (by kernel_rfl) (fun _ _ _ h => h) (by rfl) (by intro W hSw; go_simp; with_reducible rfl) ?_; try simp only [Act.put, List.setIfInBounds_toArray, List.set_cons_zero, List.set_cons_succ]
  refine wpAnyK_take 27 (v := ?_) rfl (by kernel_rfl) (by kernel_rfl) (by kernel_rfl) (fun _ _ _ h => h) (by rfl) (by intro W hSw; go_simp; with_reducible rfl) ?_; try simp only [Act.put, List.setIfInBounds_toArray, List.set_cons_zero, List.set_cons_succ]
  refine wpAnyK_take 28 (v := ?_) rfl (by kernel_rfl) (by kernel_rfl) (by kernel_rfl) (fun _ _ _ h => h) (by rfl) (by intro W hSw; go_simp; with_reducible rfl) ?_; try simp only [Act.put, List.setIfInBounds_toArray, List.set_cons_zero, List.set_cons_succ]
  refine wpAnyK_take 29 (v := ?_) rfl (by kernel_rfl) (by kernel_rfl) (by kernel_rfl) (fun _ _ _ h => h) (by rfl) (by intro W hSw; go_simp; with_reducible rfl) ?_; try simp only [Act.put, List.setIfInBounds_toArray, List.set_cons_zero, List.set_cons_succ]
  refine wpAnyK_take 30 (v := ?_) rfl (by kernel_rfl) (by kernel_rfl) (by kernel_rfl) (fun _ _ _ h => h) (by rfl) (by intro W hSw; go_simp; with_reducible rfl) ?_; try simp only [Act.put, List.setIfInBounds_toArray, List.set_cons_zero, List.set_cons_succ]
  refine wpAnyK_take 31 (v := ?_) rfl (by kernel_rfl) (by kernel_rfl) (by kernel_rfl) (fun _ _ _ h => h) (by rfl) (by intro W hSw; go_simp; with_reducible rfl) ?_; try simp only [Act.put, List.setIfInBounds_toArray, List.set_cons_zero, List.set_cons_succ]
  refine wpAnyK_take 32 (v := ?_) rfl (by kernel_rfl) (by kernel_rfl) (by kernel_rfl) (fun _ _ _ h => h) (by rfl) (by intro W hSw; go_simp; with_reducible rfl) ?_; try simp only [Act.put, List.setIfInBounds_toArray, List.set_cons_zero, List.set_cons_succ]
  refine wpAnyK_take 33 (v := ?_) rfl (by kernel_rfl) (by kernel_rfl) (by kernel_rfl) (fun _ _ _ h => h) (by rfl) (by intro W hSw; go_simp; with_reducible rfl) ?_; try simp only [Act.put, List.setIfInBounds_toArray, List.set_cons_zero, List.set_cons_succ]
  refine wpAnyK_take 34 (v := ?_) rfl (by kernel_rfl) (by kernel_rfl) (by kernel_rfl) (fun _ _ _ h => h) (by rfl) (by intro W hSw; go_simp; with_reducible rfl) ?_; try simp only [Act.put, List.setIfInBounds_toArray, List.set_cons_zero, List.set_cons_succ]
  refine wpAnyK_take 35 (v := ?_) rfl (by kernel_rfl) (by kernel_rfl) (by kernel_rfl) (fun _ _ _ h => h) (by rfl) (by intro W hSw; go_simp; with_reducible rfl) ?_; try simp only [Act.put, List.setIfInBounds_toArray, List.set_cons_zero, List.set_cons_succ]
  refine wpAnyK_take 36 (v := ?_) rfl (by kernel_rfl) (by kernel_rfl) (by kernel_rfl) (fun _ _ _ h => h) (by rfl) (by intro W hSw; go_simp; with_reducible rfl) ?_; try simp only [Act.put, List.setIfInBounds_toArray, List.set_cons_zero, List.set_cons_succ]
  refine wpAnyK_take 37 (v := ?_) rfl (by kernel_rfl) (by kernel_rfl) (by kernel_rfl) (fun _ _ _ h => h) (by rfl) (by intro W hSw; go_simp; with_reducible rfl) ?_; try simp only [Act.put, List.setIfInBounds_toArray, List.set_cons_zero, List.set_cons_succ]
  refine wpAnyK_done (by kernel_rfl) ?_ _
  go_wp2_with fail
  go_ret
  exact ⟨rfl, HB7.out.drew⟩
theorem bagTwins_contract (H : Type) (enc : TypeId × Value → H) (W : World) (base : Nat) (args : Array Value) (ds : List (DataW H)) (before : List MemPlace)
    (hval : ∀ (j : Nat) t v, Try.f3.params[j]? = some t → args[j]? = some v → Value.okWide Try.prog W .any base t v)
    (hA : DataW.TrodAll enc Try.prog W 0 (fun _ => true) true Try.f3.params.toList args.toList ds before)
    (hsz : (DataW.weightsEach Try.prog (Try.f3.params.toList ++ Rows.bagTwinsSpec.plain.varTypes Try.prog) (ds ++ [])).all (· ≤ reachBytes) = true) :
    Calls Try.prog 3 args W fun e W' => e = .returned (.bool true) ∧ Below W.heap.size W W' := by
  rw [Try.params3] at hA hval hsz
  obtain ⟨v0, vs0, d0, ds0, p0, q0, hargs, rfl, rfl, h0, r0⟩ := trodAll_cons hA
  obtain ⟨v1, vs1, d1, ds1, p1, q1, rfl, rfl, rfl, h1, r1⟩ := trodAll_cons r0
  obtain ⟨v2, vs2, d2, ds2, p2, q2, rfl, rfl, rfl, h2, r2⟩ := trodAll_cons r1
  obtain ⟨rfl, rfl, rfl⟩ := trodAll_nil r2
  obtain rfl : args = #[v0, v1, v2] := by cases args; simp_all
  obtain ⟨A, c, l, rfl, hlc, hcm, hA1, hR, hd⟩ := open_bytes Try.underlying22 Try.underlying5 (by kernel_rfl) (hval 0 22 v0 rfl rfl) h0
  obtain ⟨a1, rfl, rfl, rfl, w1⟩ := open_int Try.underlying5 (hval 1 5 v1 rfl rfl) h1
  obtain ⟨a2, rfl, rfl, rfl, w2⟩ := open_int Try.underlying5 (hval 2 5 v2 rfl rfl) h2
  have b1 : 0 ≤ a1 ∧ a1 ≤ 255 := by simpa [Lit.wf, IntKind.min, IntKind.max, IntKind.signed, IntKind.bits] using w1
  have b2 : 0 ≤ a2 ∧ a2 ≤ 255 := by simpa [Lit.wf, IntKind.min, IntKind.max, IntKind.signed, IntKind.bits] using w2
  by_cases hn : l.length = 0 ∨ 1000 < l.length
  · exact bagTwins_bad A l.length c a1 a2 W hn
  · obtain ⟨n, rfl⟩ := Int.eq_ofNat_of_zero_le b1.1
    obtain ⟨m, rfl⟩ := Int.eq_ofNat_of_zero_le b2.1
    have := bagTwins_good A l.length c n (UInt8.ofNat m) l W rfl (by omega) (by omega) (by omega) hR
    rwa [UInt8.toNat_ofNat', Nat.mod_eq_of_lt (by omega : m < 2 ^ 8)] at this

set_option maxRecDepth 100000 in
theorem bagTwins_lifted (os : Os) (started : os.Started) (H : Type) (enc : TypeId × Value → H) :
    ReturnsInHanded {} Try.checked os 3 .any (Rows.bagTwinsSpec.pre6 enc Try.prog Try.f3 Rows.bagTwinsRow.domain false) (Rows.bagTwinsSpec.post enc Try.prog Try.f3 false true false false) := by
  refine returnsInHanded_of_change_sized (C := Try.checked) own started (by kernel_rfl) Try.func3
    (ChangeSpec.witness6 (enc := enc) (C := Try.checked) false ⟨#[], #[.slice none 0 0, .int .u8 0, .int .u8 0], []⟩ 8 (by kernel_rfl) (by kernel_rfl) (by kernel_rfl) (by kernel_rfl)) ?_
  intro W base args ds gs before hval hW _ hsz _
  have hW' := hW
  obtain ⟨p, q, hA0, hV, rfl, hfz, hnd⟩ := hW
  obtain ⟨rfl, rfl⟩ := trodVars_none hV
  have hA : DataW.TrodAll enc Try.prog W 0 (fun _ => true) true Try.f3.params.toList args.toList ds p := hA0
  refine (bagTwins_contract H enc W base args ds p hval hA hsz).mono fun e W' ⟨he, hb⟩ => ?_
  subst he
  have hds : ds.length = 3 := by
    rw [Try.params3] at hA
    obtain ⟨v0, vs0, d0, ds0, p0, q0, _, rfl, rfl, _, r0⟩ := trodAll_cons hA
    obtain ⟨v1, vs1, d1, ds1, p1, q1, _, rfl, rfl, _, r1⟩ := trodAll_cons r0
    obtain ⟨v2, vs2, d2, ds2, p2, q2, _, rfl, rfl, _, r2⟩ := trodAll_cons r1
    obtain ⟨_, rfl, rfl⟩ := trodAll_nil r2
    rfl
  have hsh : ∃ d0 d1 d2 : DataW H, ds = [d0, d1, d2] := by
    match ds, hds with
    | [d0, d1, d2], _ => exact ⟨d0, d1, d2, rfl⟩
  obtain ⟨d0, d1, d2, rfl⟩ := hsh
  exact ⟨_, rfl, post_law (s := Rows.bagTwinsSpec) laidOut (by kernel_rfl) Try.underlying4 rfl (by kernel_rfl) hW' rfl rfl rfl hb⟩
theorem bagTwins_over : Rows.bagTwinsRow.holds Try.pinned (OpenSpec.ofChange Rows.bagTwinsSpec) :=
  OpenClaim.holds_of_wide 3 Try.f3 rfl rfl rfl rfl rfl rfl rfl ⟨rfl, rfl, rfl, rfl, rfl⟩ rfl rfl rfl rfl rfl (by kernel_rfl) Try.func3 (by kernel_rfl)
    (of_decide_eq_true (by kernel_rfl)) (by unfold Func.isWrapper; first | (rw [if_pos (by decide +kernel)]; kernel_rfl) | (rw [if_neg (by decide +kernel)]; exact ⟨rfl, rfl⟩))
    (fun os started H enc _ => bagTwins_lifted os started H enc)
/-- The statement. -/
theorem bagTwins_holds : Rows.BagTwinsSaid := bagTwins_over
end Go.Proofs.Ytglllnpjedlmnaa
