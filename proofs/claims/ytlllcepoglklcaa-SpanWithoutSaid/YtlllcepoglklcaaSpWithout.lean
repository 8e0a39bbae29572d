/-
  SpanWithout: for any span and any others the program's Without is the document's; it writes nothing that was there.
  Conditions: none but the row's own.
-/
import Derived.Test.YtlllcepoglklcaaSpJoins
namespace Go.Proofs.Ytlllcepoglklcaa
open Go.ChangeShapes Go.WideShapes Go.ChangeAt Go.RowKit
set_option linter.unusedVariables false
set_option linter.unusedSimpArgs false
set_option maxHeartbeats 2000000 in
theorem spanWithout_walk (s : Spn) (A : Option Addr) (n c : Nat) (L : List Spn) (w : World) (hr : Rd w 2 A n (srow L)) (hA : A = none → n = 0) (hl : L.length = n) (hnc : n ≤ c) :
    Calls Try.prog 8 #[.agg #[.string s.1, .string s.2], .slice A n c] w fun e w' => e = .returned (.bool true) ∧ Below w.heap.size w w' := by
  have tail : ∀ (m : Nat) (M : List Spn), m ≤ 60 → Rd w 2 A m (srow M) → M.length = m → (A = none → m = 0) → Hid (∀ w1, Below w.heap.size w w1 → Calls Try.prog 23 #[.agg #[.string s.1, .string s.2], .slice A m c] w1 fun e w' =>
      (∃ (v : Value) (R : List Spn) (q : Nat), e = .returned v ∧ R.length = q ∧ q ≤ m + 1 ∧ Canon R ∧ (∀ k, InL R k ↔ InS s k ∧ ¬ InL M k) ∧ w'.ownsRow w1.heap.size 23 2 v q (srow R)) ∧ Later w1 w') ∧
      Hid (∀ w1, Below w.heap.size w w1 → Calls Try.prog 24 #[.agg #[.string s.1, .string s.2], .slice A m c] w1 fun e w' =>
      (∃ (v : Value) (R : List Spn) (q : Nat), e = .returned v ∧ R.length = q ∧ Canon R ∧ (∀ k, InL R k ↔ But [s] M k) ∧ w'.ownsRow w1.heap.size 23 2 v q (srow R)) ∧ Later w1 w') := fun m M hm hR hM hA =>
    ⟨fun w1 hb => (without_any (c := c) s (hR.below hb) hA hM (by omega)).mono fun e w' ⟨⟨v, R, h1, h2, h3, h4, h5⟩, h6⟩ => ⟨⟨v, R, R.length, h1, rfl, h3, h4, h5, h2⟩, h6⟩,
     fun w1 hb => rwithout_any (c := c) s (hR.below hb) hA hM (by omega)⟩
  have go : ∀ (m : Nat), m ≤ 60 → m ≤ n → ∃ M : List Spn, Hid (Rd w 2 A m (srow M)) ∧ Hid (M.length = m) ∧ Hid (A = none → m = 0) := fun m hm hmn => ⟨L.take m, (rd_take60 hr hl hmn).1, (rd_take60 hr hl hmn).2, fun h => by have := hA h; omega⟩
  obtain ⟨W0, hW0⟩ : ∃ W0, W0 = w.alloc (.cells #[.string s.1, .string s.2] 23) := ⟨_, rfl⟩
  have c1 : W0.cell? ⟨w.heap.size, 0, none⟩ = some (.string s.1) := by rw [hW0]; exact cell_of_row _ _ 0 _ _ (0, 0) (heap_alloc_new w _)
  have c2 : W0.cell? ⟨w.heap.size, 1, none⟩ = some (.string s.2) := by rw [hW0]; exact cell_of_row _ _ 1 _ _ (0, 0) (heap_alloc_new w _)
  have HB := hide_ (show Below w.heap.size w W0.drew by rw [hW0]; exact ((Below.refl _ _).alloc (Nat.le_refl _) _).drew)
  have lc1 := later_drew_cell c1
  have lc2 := later_drew_cell c2
  have H0 := hide_ hW0.symm
  clear hW0 c1 c2
  by_cases h60 : n ≤ 60
  · obtain ⟨M, h1, h2, h3⟩ := go n h60 (Nat.le_refl _)
    obtain ⟨t1, t2⟩ := tail n M h60 h1.out h2.out h3.out
    have q1 : ¬ (60 : Int) < (n : Int) := by omega
    clear tail go hr hl hA
    go_enter Try.func8, Try.ntmps8
    go_wp2_with fail
    rw [H0.out]
    clear H0
    refine wp_region_k (by kernel_rfl) ?_
    refine wpAnyK_one 0 (by kernel_rfl) rfl (fun K hK => ?_)
    go_simp
    refine (awake_any _).mono ?_; rintro e w1 ⟨rfl, hb1⟩; have lc1 := later_step lc1 hb1; have lc2 := later_step lc2 hb1; have HB := hide_ (below_step HB.out hb1)
    refine hK.out _ _ (by assumption) ?_
    clear hK K; try simp only [Act.put, List.setIfInBounds_toArray, List.set_cons_zero, List.set_cons_succ]
    refine wpAnyK_take 1 (v := ?_) rfl (by kernel_rfl) (by kernel_rfl) (by kernel_rfl) (fun _ _ _ h => h) (by rfl) (by intro W hSw; go_simp; with_reducible rfl) ?_; try simp only [Act.put, List.setIfInBounds_toArray, List.set_cons_zero, List.set_cons_succ]
    refine wpAnyK_take 2 (v := ?_) rfl (by kernel_rfl) (by kernel_rfl) (by kernel_rfl) (fun _ _ _ h => h) (by rfl) (by intro W hSw; go_simp; with_reducible rfl) ?_; try simp only [Act.put, List.setIfInBounds_toArray, List.set_cons_zero, List.set_cons_succ]
    refine wpAnyK_take 3 (v := ?_) rfl (by kernel_rfl) (by kernel_rfl) (by kernel_rfl) (fun _ _ _ h => h) (by rfl) (by intro W hSw; go_simp; with_reducible rfl) ?_; try simp only [Act.put, List.setIfInBounds_toArray, List.set_cons_zero, List.set_cons_succ]
    refine wpAnyK_take 5 (v := ?_) rfl (by kernel_rfl) (by kernel_rfl) (by kernel_rfl) (fun _ _ _ h => h) (by rfl) (by intro W hSw; go_simp; with_reducible rfl) ?_; try simp only [Act.put, List.setIfInBounds_toArray, List.set_cons_zero, List.set_cons_succ]
    refine wpAnyK_take 6 (v := ?_) rfl (by kernel_rfl) (by kernel_rfl) (by kernel_rfl) (fun _ _ _ h => h) (by rfl) (by intro W hSw; go_simp; with_reducible rfl) ?_; try simp only [Act.put, List.setIfInBounds_toArray, List.set_cons_zero, List.set_cons_succ]
    refine wpAnyK_one 4 (by kernel_rfl) rfl (fun K hK => ?_)
    go_simp
    (with_reducible refine (t1.out _ HB.out).mono ?_); rintro e w2 ⟨⟨v2, R, q, rfl, hq, hqn, hc2, hk2, ho2⟩, hb2⟩; obtain ⟨A2, c2, rfl⟩ := own_form ho2; have lc1 := later_step lc1 hb2; have lc2 := later_step lc2 hb2; have HB := hide_ (below_step HB.out hb2); have HO2 := hide_ (Rd.of_own ho2); have HC2 := hide_ hc2; have HK2 := hide_ hk2; have HQ := hide_ hq; clear hc2 hk2 ho2 hq
    refine hK.out _ _ (by assumption) ?_
    clear hK K; try simp only [Act.put, List.setIfInBounds_toArray, List.set_cons_zero, List.set_cons_succ]
    refine wpAnyK_one 7 (by kernel_rfl) rfl (fun K hK => ?_)
    go_simp
    (with_reducible refine (t2.out _ HB.out).mono ?_); rintro e w3 ⟨⟨v3, R3, q3, rfl, hq3, hc3, hk3, ho3⟩, hb3⟩; obtain ⟨A3, c3, rfl⟩ := own_form ho3; obtain rfl : R3 = R := canon_uniq hc3 HC2.out (fun k => by rw [hk3, but_one, HK2.out]); obtain rfl : q3 = q := (hq3.symm.trans HQ.out); have HB := hide_ (below_step HB.out hb3); have HO3 := hide_ (Rd.of_own ho3); have HR3 := hide_ (HO2.out.below hb3); clear hc3 hk3 ho3 hq3
    refine hK.out _ _ (by assumption) ?_
    clear hK K; try simp only [Act.put, List.setIfInBounds_toArray, List.set_cons_zero, List.set_cons_succ]
    refine wpAnyK_one 8 (by kernel_rfl) rfl (fun K hK => ?_)
    go_simp
    refine (same_yes HR3.out HO3.out HQ.out (by omega)).mono ?_; rintro e w4 ⟨rfl, hb4⟩; have HB := hide_ (below_step HB.out hb4)
    refine hK.out _ _ (by assumption) ?_
    clear hK K; try simp only [Act.put, List.setIfInBounds_toArray, List.set_cons_zero, List.set_cons_succ]
    refine wpAnyK_take 9 (v := ?_) rfl (by kernel_rfl) (by kernel_rfl) (by kernel_rfl) (fun _ _ _ h => h) (by rfl) (by intro W hSw; go_simp; with_reducible rfl) ?_; try simp only [Act.put, List.setIfInBounds_toArray, List.set_cons_zero, List.set_cons_succ]
    refine wpAnyK_take 10 (v := ?_) rfl (by kernel_rfl) (by kernel_rfl) (by kernel_rfl) (fun _ _ _ h => h) (by rfl) (by intro W hSw; go_simp; with_reducible rfl) ?_; try simp only [Act.put, List.setIfInBounds_toArray, List.set_cons_zero, List.set_cons_succ]
    refine wpAnyK_done (by kernel_rfl) ?_ _
    go_wp2_with fail
    go_ret
    exact ⟨rfl, HB.out⟩
  · obtain ⟨M, h1, h2, h3⟩ := go 60 (Nat.le_refl _) (by omega)
    obtain ⟨t1, t2⟩ := tail 60 M (Nat.le_refl _) h1.out h2.out h3.out
    have q1 : (60 : Int) < (n : Int) := by omega
    have q2 : (60 : Int) ≤ (c : Int) := by omega
    have q3 : 60 ≤ c := by omega
    obtain ⟨b, o, rfl, _⟩ := hr.2 (by rw [srow_len, hl]; omega)
    clear tail go hr hl hA
    go_enter Try.func8, Try.ntmps8
    go_wp2_with fail
    rw [H0.out]
    clear H0
    refine wp_region_k (by kernel_rfl) ?_
    refine wpAnyK_one 0 (by kernel_rfl) rfl (fun K hK => ?_)
    go_simp
    refine (awake_any _).mono ?_; rintro e w1 ⟨rfl, hb1⟩; have lc1 := later_step lc1 hb1; have lc2 := later_step lc2 hb1; have HB := hide_ (below_step HB.out hb1)
    refine hK.out _ _ (by assumption) ?_
    clear hK K; try simp only [Act.put, List.setIfInBounds_toArray, List.set_cons_zero, List.set_cons_succ]
    refine wpAnyK_take 1 (v := ?_) rfl (by kernel_rfl) (by kernel_rfl) (by kernel_rfl) (fun _ _ _ h => h) (by rfl) (by intro W hSw; go_simp; with_reducible rfl) ?_; try simp only [Act.put, List.setIfInBounds_toArray, List.set_cons_zero, List.set_cons_succ]
    refine wpAnyK_take 2 (v := ?_) rfl (by kernel_rfl) (by kernel_rfl) (by kernel_rfl) (fun _ _ _ h => h) (by rfl) (by intro W hSw; go_simp; with_reducible rfl) ?_; try simp only [Act.put, List.setIfInBounds_toArray, List.set_cons_zero, List.set_cons_succ]
    refine wpAnyK_take 3 (v := ?_) rfl (by kernel_rfl) (by kernel_rfl) (by kernel_rfl) (fun _ _ _ h => h) (by rfl) (by intro W hSw; go_simp; with_reducible rfl) ?_; try simp only [Act.put, List.setIfInBounds_toArray, List.set_cons_zero, List.set_cons_succ]
    refine wpAnyK_take 5 (v := ?_) rfl (by kernel_rfl) (by kernel_rfl) (by kernel_rfl) (fun _ _ _ h => h) (by rfl) (by intro W hSw; go_simp; with_reducible rfl) ?_; try simp only [Act.put, List.setIfInBounds_toArray, List.set_cons_zero, List.set_cons_succ]
    refine wpAnyK_take 6 (v := ?_) rfl (by kernel_rfl) (by kernel_rfl) (by kernel_rfl) (fun _ _ _ h => h) (by rfl) (by intro W hSw; go_simp; with_reducible rfl) ?_; try simp only [Act.put, List.setIfInBounds_toArray, List.set_cons_zero, List.set_cons_succ]
    refine wpAnyK_one 4 (by kernel_rfl) rfl (fun K hK => ?_)
    go_simp
    (with_reducible refine (t1.out _ HB.out).mono ?_); rintro e w2 ⟨⟨v2, R, q, rfl, hq, hqn, hc2, hk2, ho2⟩, hb2⟩; obtain ⟨A2, c2, rfl⟩ := own_form ho2; have lc1 := later_step lc1 hb2; have lc2 := later_step lc2 hb2; have HB := hide_ (below_step HB.out hb2); have HO2 := hide_ (Rd.of_own ho2); have HC2 := hide_ hc2; have HK2 := hide_ hk2; have HQ := hide_ hq; clear hc2 hk2 ho2 hq
    refine hK.out _ _ (by assumption) ?_
    clear hK K; try simp only [Act.put, List.setIfInBounds_toArray, List.set_cons_zero, List.set_cons_succ]
    refine wpAnyK_one 7 (by kernel_rfl) rfl (fun K hK => ?_)
    go_simp
    (with_reducible refine (t2.out _ HB.out).mono ?_); rintro e w3 ⟨⟨v3, R3, q3, rfl, hq3, hc3, hk3, ho3⟩, hb3⟩; obtain ⟨A3, c3, rfl⟩ := own_form ho3; obtain rfl : R3 = R := canon_uniq hc3 HC2.out (fun k => by rw [hk3, but_one, HK2.out]); obtain rfl : q3 = q := (hq3.symm.trans HQ.out); have HB := hide_ (below_step HB.out hb3); have HO3 := hide_ (Rd.of_own ho3); have HR3 := hide_ (HO2.out.below hb3); clear hc3 hk3 ho3 hq3
    refine hK.out _ _ (by assumption) ?_
    clear hK K; try simp only [Act.put, List.setIfInBounds_toArray, List.set_cons_zero, List.set_cons_succ]
    refine wpAnyK_one 8 (by kernel_rfl) rfl (fun K hK => ?_)
    go_simp
    refine (same_yes HR3.out HO3.out HQ.out (by omega)).mono ?_; rintro e w4 ⟨rfl, hb4⟩; have HB := hide_ (below_step HB.out hb4)
    refine hK.out _ _ (by assumption) ?_
    clear hK K; try simp only [Act.put, List.setIfInBounds_toArray, List.set_cons_zero, List.set_cons_succ]
    refine wpAnyK_take 9 (v := ?_) rfl (by kernel_rfl) (by kernel_rfl) (by kernel_rfl) (fun _ _ _ h => h) (by rfl) (by intro W hSw; go_simp; with_reducible rfl) ?_; try simp only [Act.put, List.setIfInBounds_toArray, List.set_cons_zero, List.set_cons_succ]
    refine wpAnyK_take 10 (v := ?_) rfl (by kernel_rfl) (by kernel_rfl) (by kernel_rfl) (fun _ _ _ h => h) (by rfl) (by intro W hSw; go_simp; with_reducible rfl) ?_; try simp only [Act.put, List.setIfInBounds_toArray, List.set_cons_zero, List.set_cons_succ]
    refine wpAnyK_done (by kernel_rfl) ?_ _
    go_wp2_with fail
    go_ret
    exact ⟨rfl, HB.out⟩
theorem spanWithout_contract (H : Type) (enc : TypeId × Value → H) (W : World) (base : Nat) (args : Array Value) (ds : List (DataW H)) (before : List MemPlace)
    (hval : ∀ (j : Nat) t v, Try.f8.params[j]? = some t → args[j]? = some v → Value.okWide Try.prog W .any base t v)
    (hA : DataW.TrodAll enc Try.prog W 0 (fun _ => true) true Try.f8.params.toList args.toList ds before)
    (_hsz : (DataW.weightsEach Try.prog (Try.f8.params.toList ++ Rows.spanWithoutSpec.plain.varTypes Try.prog) (ds ++ [])).all (· ≤ reachBytes) = true) :
    Calls Try.prog 8 args W fun e W' => e = .returned (.bool true) ∧ Below W.heap.size W W' := by
  rw [Try.params8] at hA hval
  obtain ⟨v0, vs0, d0, ds0, p0, q0, hargs, rfl, rfl, h0, r0⟩ := trodAll_cons hA
  obtain ⟨v1, vs1, d1, ds1, p1, q1, rfl, rfl, rfl, h1, r1⟩ := trodAll_cons r0
  obtain ⟨rfl, rfl, rfl⟩ := trodAll_nil r1
  obtain rfl : args = #[v0, v1] := by cases args; simp_all
  obtain ⟨s, rfl, _, _⟩ := open_span (hval 0 23 v0 rfl rfl) h0
  obtain ⟨A, c, L, rfl, hlc, hcm, hA1, hR⟩ := open_spans (hval 1 34 v1 rfl rfl) h1
  exact spanWithout_walk s A L.length c L W hR hA1 rfl hlc

set_option maxRecDepth 100000 in
theorem spanWithout_lifted (os : Os) (started : os.Started) (H : Type) (enc : TypeId × Value → H) :
    ReturnsInHanded {} Try.checked os 8 .any (Rows.spanWithoutSpec.pre6 enc Try.prog Try.f8 Rows.spanWithoutRow.domain false) (Rows.spanWithoutSpec.post enc Try.prog Try.f8 false true false false) := by
  refine returnsInHanded_of_change_sized (C := Try.checked) own started (by kernel_rfl) Try.func8
    (ChangeSpec.witness6 (enc := enc) (C := Try.checked) false ⟨#[], #[.agg #[.string ByteArray.empty, .string ByteArray.empty], .slice none 0 0], []⟩ 8 (by kernel_rfl) (by kernel_rfl) (by kernel_rfl) (by kernel_rfl)) ?_
  intro W base args ds gs before hval hW _ hsz _
  have hW' := hW
  obtain ⟨p, q, hA0, hV, rfl, hfz, hnd⟩ := hW
  obtain ⟨rfl, rfl⟩ := trodVars_none hV
  have hA : DataW.TrodAll enc Try.prog W 0 (fun _ => true) true Try.f8.params.toList args.toList ds p := hA0
  refine (spanWithout_contract H enc W base args ds p hval hA hsz).mono fun e W' ⟨he, hb⟩ => ?_
  subst he
  have hds : ds.length = 2 := by
    rw [Try.params8] at hA
    obtain ⟨v0, vs0, d0, ds0, p0, q0, _, rfl, rfl, _, r0⟩ := trodAll_cons hA
    obtain ⟨v1, vs1, d1, ds1, p1, q1, _, rfl, rfl, _, r1⟩ := trodAll_cons r0
    obtain ⟨_, rfl, rfl⟩ := trodAll_nil r1
    rfl
  have hsh : ∃ d0 d1 : DataW H, ds = [d0, d1] := by
    match ds, hds with
    | [d0, d1], _ => exact ⟨d0, d1, rfl⟩
  obtain ⟨d0, d1, rfl⟩ := hsh
  exact ⟨_, rfl, post_law (s := Rows.spanWithoutSpec) laidOut (by kernel_rfl) Try.underlying4 rfl (by kernel_rfl) hW' rfl rfl rfl hb⟩
theorem spanWithout_over : Rows.spanWithoutRow.holds Try.pinned (OpenSpec.ofChange Rows.spanWithoutSpec) :=
  OpenClaim.holds_of_wide 8 Try.f8 rfl rfl rfl rfl rfl rfl rfl ⟨rfl, rfl, rfl, rfl, rfl⟩ rfl rfl rfl rfl rfl (by kernel_rfl) Try.func8 (by kernel_rfl)
    (of_decide_eq_true (by kernel_rfl)) (by unfold Func.isWrapper; first | (rw [if_pos (by decide +kernel)]; kernel_rfl) | (rw [if_neg (by decide +kernel)]; exact ⟨rfl, rfl⟩))
    (fun os started H enc _ => spanWithout_lifted os started H enc)
/-- The statement. -/
theorem spanWithout_holds : Rows.SpanWithoutSaid := spanWithout_over
end Go.Proofs.Ytlllcepoglklcaa
