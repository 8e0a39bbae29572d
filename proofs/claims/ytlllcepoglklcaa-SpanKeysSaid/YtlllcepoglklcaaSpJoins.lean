/-
  SpanJoins: for any spans the program's Join is the document's; it writes nothing that was there.
  Conditions: none but the row's own.
-/
import Derived.Test.YtlllcepoglklcaaRefD
namespace Go.Proofs.Ytlllcepoglklcaa
open Go.ChangeShapes Go.WideShapes Go.ChangeAt Go.RowKit
set_option linter.unusedVariables false
set_option linter.unusedSimpArgs false
theorem rd_take60 {w : World} {A : Option Addr} {n : Nat} {L : List Spn} (hr : Rd w 2 A n (srow L)) (hl : L.length = n) {m : Nat} (hm : m ≤ n) : Rd w 2 A m (srow (L.take m)) ∧ (L.take m).length = m := by
  refine ⟨?_, by rw [List.length_take, hl]; omega⟩
  have := hr.take hm
  rwa [show (srow L).take (m * 2) = srow (L.take m) from rec_take encS_len L m] at this
set_option maxHeartbeats 1000000 in
theorem spanJoins_walk (A : Option Addr) (n c : Nat) (L : List Spn) (w : World) (hr : Rd w 2 A n (srow L)) (hA : A = none → n = 0) (hl : L.length = n) (hnc : n ≤ c) :
    Calls Try.prog 6 #[.slice A n c] w fun e w' => e = .returned (.bool true) ∧ Below w.heap.size w w' := by
  have tail : ∀ (m : Nat) (M : List Spn), m ≤ 60 → Rd w 2 A m (srow M) → M.length = m → (A = none → m = 0) → Hid (∀ w1, Below w.heap.size w w1 → Calls Try.prog 19 #[.slice A m c] w1 fun e w' =>
      (∃ (A' : Option Addr) (R : List Spn), e = .returned (.slice A' R.length R.length) ∧ Rd w' 2 A' R.length (srow R) ∧ R.length ≤ m ∧ Canon R ∧ ∀ k, InL R k ↔ InL M k) ∧ Later w1 w') ∧
      Hid (∀ w1, Below w.heap.size w w1 → Calls Try.prog 20 #[.slice A m c] w1 (BuildPost M [] w1)) := fun m M hm hR hM hA =>
    ⟨fun w1 hb => (join_any (c := c) (hR.below hb) hA hM (by omega)).mono fun e w' ⟨⟨A', R, h1, h2, _, _, h3, h4, h5⟩, h6⟩ => ⟨⟨A', R, h1, h2, h3, h4, h5⟩, h6⟩,
     fun w1 hb => rjoin_any (c := c) (hR.below hb) hA hM (by omega)⟩
  have go : ∀ (m : Nat), m ≤ 60 → m ≤ n → ∃ M : List Spn, Hid (Rd w 2 A m (srow M)) ∧ Hid (M.length = m) ∧ Hid (A = none → m = 0) := fun m hm hmn => ⟨L.take m, (rd_take60 hr hl hmn).1, (rd_take60 hr hl hmn).2, fun h => by have := hA h; omega⟩
  by_cases h60 : n ≤ 60
  · obtain ⟨M, h1, h2, h3⟩ := go n h60 (Nat.le_refl _)
    obtain ⟨t1, t2⟩ := tail n M h60 h1.out h2.out h3.out
    have q1 : ¬ (60 : Int) < (n : Int) := by omega
    clear tail go hr hl hA
    go_enter Try.func6, Try.ntmps6
    go_wp2_with fail
    refine (awake_any _).mono ?_; rintro e w1 ⟨rfl, hb1⟩
    have HB1 := hide_ hb1
    clear hb1
    go_wp2_with fail
    refine (t1.out w1 HB1.out).mono ?_; rintro e w2 ⟨⟨A2, R, rfl, hR2, hRn, hc2, hk2⟩, hb2⟩
    obtain ⟨q, hq⟩ : ∃ q, R.length = q := ⟨_, rfl⟩
    rw [hq] at hR2 hRn ⊢
    have HB2 := hide_ (HB1.out.trans (Below.mono hb2 HB1.out.size)); have HR2 := hide_ hR2; have HC2 := hide_ hc2; have HK2 := hide_ hk2; have HN2 := hide_ hRn; have HQ := hide_ hq
    clear hR2 hc2 hk2 hb2 hRn hq
    go_wp2_with fail
    refine (t2.out w2 HB2.out).mono ?_; rintro e w3 ⟨⟨v3, R3, q3, rfl, hq3, hc3, hk3, ho3⟩, hb3⟩
    obtain ⟨A3, c3, rfl⟩ := own_form ho3
    obtain rfl : R3 = R := canon_uniq hc3 HC2.out fun k => by rw [hk3, but_nil, HK2.out]
    obtain rfl : q3 = q := by rw [← hq3, HQ.out]
    have HB3 := hide_ (HB2.out.trans (Below.mono hb3 HB2.out.size)); have HO3 := hide_ (Rd.of_own ho3); have HR3 := hide_ (HR2.out.below hb3)
    clear hq3 hc3 hk3 ho3 hb3
    go_wp2_with fail
    refine (same_yes HR3.out HO3.out HQ.out (by have := HN2.out; omega)).mono ?_; rintro e w4 ⟨rfl, hb4⟩
    have HB4 := hide_ (HB3.out.trans (Below.mono hb4 HB3.out.size))
    clear hb4
    go_wp2_with fail
    go_ret
    exact ⟨rfl, HB4.out⟩
  · obtain ⟨M, h1, h2, h3⟩ := go 60 (Nat.le_refl _) (by omega)
    obtain ⟨t1, t2⟩ := tail 60 M (Nat.le_refl _) h1.out h2.out h3.out
    have q1 : (60 : Int) < (n : Int) := by omega
    have q2 : (60 : Int) ≤ (c : Int) := by omega
    have q3 : 60 ≤ c := by omega
    obtain ⟨b, o, rfl, _⟩ := hr.2 (by rw [srow_len, hl]; omega)
    clear tail go hr hl hA
    go_enter Try.func6, Try.ntmps6
    go_wp2_with fail
    refine (awake_any _).mono ?_; rintro e w1 ⟨rfl, hb1⟩
    have HB1 := hide_ hb1
    clear hb1
    go_wp2_with fail
    refine (t1.out w1 HB1.out).mono ?_; rintro e w2 ⟨⟨A2, R, rfl, hR2, hRn, hc2, hk2⟩, hb2⟩
    obtain ⟨q, hq⟩ : ∃ q, R.length = q := ⟨_, rfl⟩
    rw [hq] at hR2 hRn ⊢
    have HB2 := hide_ (HB1.out.trans (Below.mono hb2 HB1.out.size)); have HR2 := hide_ hR2; have HC2 := hide_ hc2; have HK2 := hide_ hk2; have HN2 := hide_ hRn; have HQ := hide_ hq
    clear hR2 hc2 hk2 hb2 hRn hq
    go_wp2_with fail
    refine (t2.out w2 HB2.out).mono ?_; rintro e w3 ⟨⟨v3, R3, q3, rfl, hq3, hc3, hk3, ho3⟩, hb3⟩
    obtain ⟨A3, c3, rfl⟩ := own_form ho3
    obtain rfl : R3 = R := canon_uniq hc3 HC2.out fun k => by rw [hk3, but_nil, HK2.out]
    obtain rfl : q3 = q := by rw [← hq3, HQ.out]
    have HB3 := hide_ (HB2.out.trans (Below.mono hb3 HB2.out.size)); have HO3 := hide_ (Rd.of_own ho3); have HR3 := hide_ (HR2.out.below hb3)
    clear hq3 hc3 hk3 ho3 hb3
    go_wp2_with fail
    refine (same_yes HR3.out HO3.out HQ.out (by have := HN2.out; omega)).mono ?_; rintro e w4 ⟨rfl, hb4⟩
    have HB4 := hide_ (HB3.out.trans (Below.mono hb4 HB3.out.size))
    clear hb4
    go_wp2_with fail
    go_ret
    exact ⟨rfl, HB4.out⟩
theorem spanJoins_contract (H : Type) (enc : TypeId × Value → H) (W : World) (base : Nat) (args : Array Value) (ds : List (DataW H)) (before : List MemPlace)
    (hval : ∀ (j : Nat) t v, Try.f6.params[j]? = some t → args[j]? = some v → Value.okWide Try.prog W .any base t v)
    (hA : DataW.TrodAll enc Try.prog W 0 (fun _ => true) true Try.f6.params.toList args.toList ds before)
    (_hsz : (DataW.weightsEach Try.prog (Try.f6.params.toList ++ Rows.spanJoinsSpec.plain.varTypes Try.prog) (ds ++ [])).all (· ≤ reachBytes) = true) :
    Calls Try.prog 6 args W fun e W' => e = .returned (.bool true) ∧ Below W.heap.size W W' := by
  rw [Try.params6] at hA hval
  obtain ⟨v0, vs0, d0, ds0, p0, q0, hargs, rfl, rfl, h0, r0⟩ := trodAll_cons hA
  obtain ⟨rfl, rfl, rfl⟩ := trodAll_nil r0
  obtain rfl : args = #[v0] := by cases args; simp_all
  obtain ⟨A, c, L, rfl, hlc, hcm, hA1, hR⟩ := open_spans (hval 0 34 v0 rfl rfl) h0
  exact spanJoins_walk A L.length c L W hR hA1 rfl hlc

set_option maxRecDepth 100000 in
theorem spanJoins_lifted (os : Os) (started : os.Started) (H : Type) (enc : TypeId × Value → H) :
    ReturnsInHanded {} Try.checked os 6 .any (Rows.spanJoinsSpec.pre6 enc Try.prog Try.f6 Rows.spanJoinsRow.domain false) (Rows.spanJoinsSpec.post enc Try.prog Try.f6 false true false false) := by
  refine returnsInHanded_of_change_sized (C := Try.checked) own started (by kernel_rfl) Try.func6
    (ChangeSpec.witness6 (enc := enc) (C := Try.checked) false ⟨#[], #[.slice none 0 0], []⟩ 8 (by kernel_rfl) (by kernel_rfl) (by kernel_rfl) (by kernel_rfl)) ?_
  intro W base args ds gs before hval hW _ hsz _
  have hW' := hW
  obtain ⟨p, q, hA0, hV, rfl, hfz, hnd⟩ := hW
  obtain ⟨rfl, rfl⟩ := trodVars_none hV
  have hA : DataW.TrodAll enc Try.prog W 0 (fun _ => true) true Try.f6.params.toList args.toList ds p := hA0
  refine (spanJoins_contract H enc W base args ds p hval hA hsz).mono fun e W' ⟨he, hb⟩ => ?_
  subst he
  have hds : ds.length = 1 := by
    rw [Try.params6] at hA
    obtain ⟨v0, vs0, d0, ds0, p0, q0, _, rfl, rfl, _, r0⟩ := trodAll_cons hA
    obtain ⟨_, rfl, rfl⟩ := trodAll_nil r0
    rfl
  have hsh : ∃ d0 : DataW H, ds = [d0] := by
    match ds, hds with
    | [d0], _ => exact ⟨d0, rfl⟩
  obtain ⟨d0, rfl⟩ := hsh
  exact ⟨_, rfl, post_law (s := Rows.spanJoinsSpec) laidOut (by kernel_rfl) Try.underlying4 rfl (by kernel_rfl) hW' rfl rfl rfl hb⟩
theorem spanJoins_over : Rows.spanJoinsRow.holds Try.pinned (OpenSpec.ofChange Rows.spanJoinsSpec) :=
  OpenClaim.holds_of_wide 6 Try.f6 rfl rfl rfl rfl rfl rfl rfl ⟨rfl, rfl, rfl, rfl, rfl⟩ rfl rfl rfl rfl rfl (by kernel_rfl) Try.func6 (by kernel_rfl)
    (of_decide_eq_true (by kernel_rfl)) (by unfold Func.isWrapper; first | (rw [if_pos (by decide +kernel)]; kernel_rfl) | (rw [if_neg (by decide +kernel)]; exact ⟨rfl, rfl⟩))
    (fun os started H enc _ => spanJoins_lifted os started H enc)
/-- The statement. -/
theorem spanJoins_holds : Rows.SpanJoinsSaid := spanJoins_over
end Go.Proofs.Ytlllcepoglklcaa
