/-
  SpanOrder: for any spans it does not matter in which order they are joined, nor how often; joined ones are joined already; without them nothing is left of them; it writes nothing that was there.
  Conditions: none but the row's own.
-/
import Derived.Test.YtlllcepoglklcaaSpJoins
import Derived.Test.YtlllcepoglklcaaLoud
namespace Go.Proofs.Ytlllcepoglklcaa
open Go.ChangeShapes Go.WideShapes Go.ChangeAt Go.RowKit
set_option linter.unusedVariables false
set_option linter.unusedSimpArgs false
theorem canon_none {R : List Spn} (h : Canon R) (hk : ∀ k, ¬ InL R k) : R = [] := canon_uniq h trivial fun k => ⟨fun h2 => absurd h2 (hk k), fun h2 => absurd h2 InL.nil⟩
theorem drop_next {L : List Spn} {j : Nat} {s : Spn} (hs : L[j]? = some s) (k : ByteArray) : InL (L.drop j) k ↔ InS s k ∨ InL (L.drop (j + 1)) k := by
  have e1 := List.getElem?_eq_some_iff.1 hs
  rw [List.drop_eq_getElem_cons e1.1, e1.2, InL.cons]
/-- Join as it is met here. -/
theorem join_b {w : World} {A : Option Addr} {n c : Nat} {L : List Spn} (hr : Rd w 2 A n (srow L)) (hA : A = none → n = 0) (hl : L.length = n) (hn : n ≤ 4398046511104) :
    Calls Try.prog 19 #[.slice A n c] w fun e w' =>
      (∃ (A' : Option Addr) (R : List Spn) (q : Nat), e = .returned (.slice A' q q) ∧ R.length = q ∧ Rd w' 2 A' q (srow R) ∧ (A' = none → q = 0) ∧ q ≤ n ∧ Canon R ∧ ∀ k, InL R k ↔ InL L k) ∧ Later w w' :=
  (join_any (c := c) hr hA hl hn).mono fun e w' ⟨⟨A', R, h1, h2, h3, _, h4, h5, h6⟩, h7⟩ => ⟨⟨A', R, R.length, h1, rfl, h2, h3, h4, h5, h6⟩, h7⟩
set_option maxHeartbeats 4000000 in
theorem spanOrder_tail (A : Option Addr) (m c : Nat) (M : List Spn) (w : World) (hm : m ≤ 200) (hr : Rd w 2 A m (srow M)) (hA : A = none → m = 0) (hl : M.length = m) (hnc : m ≤ c) :
    Calls Try.prog 10 #[.slice A m c] w fun e w' => e = .returned (.bool true) ∧ Below w.heap.size w w' := by
  have q1 : ¬ (200 : Int) < (m : Int) := by omega
  have hj := hide_ (join_b (c := c) hr hA hl (by omega))
  have HR := hide_ hr
  have HL := hide_ hl
  clear hr hA hl
  have hmi : (m : Int) ≤ 200 := by omega
  go_enter Try.func10, Try.ntmps10
  go_wp2_with fail
  refine hj.out.mono ?_; rintro e w1 ⟨⟨A1, R, q, rfl, hq, hR, hA1, hqm, hc, hk⟩, hb1⟩
  have HB1 := hide_ hb1; have HQ := hide_ hq; have HRR := hide_ hR; have HA1 := hide_ hA1; have HC := hide_ hc; have HK := hide_ hk
  have HO0 := hide_ (own_new w1 #[] 23 2 0 w1.heap.size rfl (Nat.zero_le _) (Nat.le_refl _))
  clear hb1 hq hR hA1 hc hk hj
  go_wp2_with fail
  go_loopw [4, 5] (fun s4 s5 wr => ∃ (j p : Nat) (i : Int) (B : List Spn), s5 = .int .i64 i ∧ Hid (i = (j : Int) - 1) ∧ j ≤ m ∧ p + 2 * j = 2 * m ∧ Hid (B.length = p) ∧ Hid (∀ k, InL B k ↔ InL (M.drop j) k) ∧ Hid (wr.ownsRow w1.heap.size 23 2 s4 p (srow B)) ∧ Hid (Later w1 wr)) (fun _ i _ => (intOf i + 1).toNat)
  case atStart => exact ⟨m, 0, _, [], rfl, rfl, Nat.le_refl _, by omega, rfl, fun k => by rw [← HL.out, List.drop_length], HO0.out, (Below.refl _ _).alloc (Nat.le_refl _) _⟩
  case round =>
    obtain ⟨j, p, i, B, rfl, hi, hjm, hp, HP, HBK, HO, HB⟩ := hrel
    obtain ⟨A4, c4, rfl⟩ := own_form HO.out
    rcases Nat.eq_zero_or_pos j with hj0 | hj0
    · subst hj0
      have hi := hi.out
      obtain rfl : i = -1 := by omega
      have hjb := hide_ (join_b (c := c4) (Rd.of_own HO.out) (own_nil HO.out) HP.out (by omega))
      have HRw := hide_ (HRR.out.below HB.out)
      clear hi
      go_wp2_with fail
      refine (awake_any _).mono ?_; rintro e w2 ⟨rfl, hb2⟩
      have HB2 := hide_ (Later.trans HB.out hb2)
      have hjb := hide_ (join_b (c := c4) ((Rd.of_own HO.out).below hb2) (own_nil HO.out) HP.out (by omega))
      clear hb2
      go_wp2_with fail
      refine hjb.out.mono ?_; rintro e w3 ⟨⟨A3, R3, q3, rfl, hq3, hR3, hA3, _, hc3, hk3⟩, hb3⟩
      obtain rfl : R3 = R := canon_uniq hc3 HC.out fun k => by rw [hk3, HBK.out, List.drop_zero, HK.out]
      obtain rfl : q3 = q := hq3.symm.trans HQ.out
      have HB3 := hide_ (Later.trans HB2.out hb3)
      have hsm := hide_ (same_yes (c := q3) (c' := q3) (HRR.out.below HB3.out) hR3 HQ.out (by omega))
      clear hb3 hR3 hA3 hc3 hk3 hq3 hjb
      go_wp2_with fail
      refine hsm.out.mono ?_; rintro e w4 ⟨rfl, hb4⟩
      have HB4 := hide_ (Later.trans HB3.out hb4)
      have hjb := hide_ (join_b (c := q3) (HRR.out.below HB4.out) HA1.out HQ.out (by omega))
      clear hb4 hsm
      go_wp2_with fail
      refine hjb.out.mono ?_; rintro e w5 ⟨⟨A5, R5, q5, rfl, hq5, hR5, hA5, _, hc5, hk5⟩, hb5⟩
      obtain rfl : R5 = R3 := canon_uniq hc5 HC.out fun k => by rw [hk5]
      obtain rfl : q5 = q3 := hq5.symm.trans HQ.out
      have HB5 := hide_ (Later.trans HB4.out hb5)
      have hsm := hide_ (same_yes (c := q5) (c' := q5) (HRR.out.below HB5.out) hR5 HQ.out (by omega))
      clear hb5 hR5 hA5 hc5 hk5 hq5 hjb
      go_wp2_with fail
      refine hsm.out.mono ?_; rintro e w6 ⟨rfl, hb6⟩
      have HB6 := hide_ (Later.trans HB5.out hb6)
      clear hb6 hsm
      go_wp2_with fail
      go_ret
      exact ⟨rfl, Later.trans HB1.out HB6.out⟩
    · obtain ⟨k, rfl⟩ : ∃ k, j = k + 1 := ⟨j - 1, by omega⟩
      have hi := hi.out
      obtain rfl : i = (k : Int) := by omega
      obtain ⟨s, hs⟩ : ∃ s, M[k]? = some s := ⟨_, List.getElem?_eq_getElem (by rw [HL.out]; omega)⟩
      obtain ⟨b, o, rfl, c1, c2⟩ := HR.out.span hs
      have HBw := hide_ (Later.trans HB1.out HB.out)
      have HC1 := hide_ c1
      have HC2 := hide_ c2
      have e1 := later_drew_cell ((HBw.out.cell (p := ⟨b, o + k * 2, none⟩) (cell_lt c1)).trans c1)
      have e2 := later_drew_cell ((HBw.out.cell (p := ⟨b, o + k * 2 + 1, none⟩) (cell_lt c2)).trans c2)
      have HDN := hide_ (drop_next hs)
      have HSK := hide_ (show ∀ x, InS s x → InL R x from fun x hx => (HK.out x).2 ⟨s, List.mem_of_getElem? hs, hx⟩)
      have HOd := hide_ (show wr.drew.ownsRow w1.heap.size 23 2 (.slice A4 p c4) p (srow B) from HO.out)
      have HBd := hide_ (show Later w1 wr.drew from Below.drew HB.out)
      have k1 : (0 : Int) ≤ (k : Int) := by omega
      have k2 : (k : Int) < (m : Int) := by omega
      have k3 : k < m := by omega
      have k4 : (k : Int) ≤ 200 := by omega
      have kw : IntKind.i64.wrap (k : Int) = (k : Int) := IntWalk.i64_in _ (by omega)
      clear hs hi c1 c2
      go_wp2_with fail
      refine wp_region_l [10] (by kernel_rfl) ?_
      refine wpAnyL_pure 0 (v := ?_) rfl (by kernel_rfl) (by kernel_rfl) (by kernel_rfl) (fun _ _ _ h => h) (by rfl) (by intro W; go_simp; with_reducible rfl) ?_; try simp only [Act.put, List.setIfInBounds_toArray, List.set_cons_zero, List.set_cons_succ]
      refine wpAnyL_pure 1 (v := ?_) rfl (by kernel_rfl) (by kernel_rfl) (by kernel_rfl) (fun _ _ _ h => h) (by rfl) (by intro W; go_simp; with_reducible rfl) ?_; try simp only [Act.put, List.setIfInBounds_toArray, List.set_cons_zero, List.set_cons_succ]
      refine wpAnyL_pure 2 (v := ?_) rfl (by kernel_rfl) (by kernel_rfl) (by kernel_rfl) (fun _ _ _ h => h) (by rfl) (by intro W; go_simp; with_reducible rfl) ?_; try simp only [Act.put, List.setIfInBounds_toArray, List.set_cons_zero, List.set_cons_succ]
      refine wpAnyL_pure 3 (v := ?_) rfl (by kernel_rfl) (by kernel_rfl) (by kernel_rfl) (fun _ _ _ h => h) (by rfl) (by intro W; go_simp; with_reducible rfl) ?_; try simp only [Act.put, List.setIfInBounds_toArray, List.set_cons_zero, List.set_cons_succ]
      refine wpAnyL_take 4 (v := ?_) rfl (by kernel_rfl) (by kernel_rfl) (by kernel_rfl) (by kernel_rfl) (fun _ _ _ h => h) (by rfl) (by intro W hSw; go_simp; with_reducible rfl) ?_; try simp only [Act.put, List.setIfInBounds_toArray, List.set_cons_zero, List.set_cons_succ]
      refine wpAnyL_pure 5 (v := ?_) rfl (by kernel_rfl) (by kernel_rfl) (by kernel_rfl) (fun _ _ _ h => h) (by rfl) (by intro W; go_simp; with_reducible rfl) ?_; try simp only [Act.put, List.setIfInBounds_toArray, List.set_cons_zero, List.set_cons_succ]
      refine wpAnyL_pure 6 (v := ?_) rfl (by kernel_rfl) (by kernel_rfl) (by kernel_rfl) (fun _ _ _ h => h) (by rfl) (by intro W; go_simp; with_reducible rfl) ?_; try simp only [Act.put, List.setIfInBounds_toArray, List.set_cons_zero, List.set_cons_succ]
      refine wpAnyL_pure 7 (v := ?_) rfl (by kernel_rfl) (by kernel_rfl) (by kernel_rfl) (fun _ _ _ h => h) (by rfl) (by intro W; go_simp; with_reducible rfl) ?_; try simp only [Act.put, List.setIfInBounds_toArray, List.set_cons_zero, List.set_cons_succ]
      refine wpAnyL_take 8 (v := ?_) rfl (by kernel_rfl) (by kernel_rfl) (by kernel_rfl) (by kernel_rfl) (fun _ _ _ h => h) (by rfl) (by intro W hSw; go_simp; with_reducible rfl) ?_; try simp only [Act.put, List.setIfInBounds_toArray, List.set_cons_zero, List.set_cons_succ]
      refine wpAnyL_one 9 (by kernel_rfl) rfl (fun K hK => ?_)
      go_simp
      first | refine hK.out _ _ (by assumption) ?_ | refine hK.out _ _ (Later.refl _) ?_ | refine hK.out _ _ (Below.alloc (Below.refl _ _) (Nat.le_refl _) _) ?_
      clear hK K; try simp only [Act.put, List.setIfInBounds_toArray, List.set_cons_zero, List.set_cons_succ]
      refine wpAnyL_loud 10 (by kernel_rfl) (by rfl) rfl (fun K hK => ?_)
      refine step_append_rd (by rfl) (.tmp 21) (.tmp 30) 34 rfl w1.heap.size 23 2 32 spanT _ p (srow B) rfl (HOd.out.alloc _) _ 2 2 (encS s ++ encS s) rfl (Rd.newAt _ #[.string s.1, .string s.2, .string s.1, .string s.2] 23 2 2 _ (0, 0) rfl (by simp)) (by intro u hu; rcases List.mem_append.1 hu with hu | hu <;> exact encS_one s u hu) (by omega) (by unfold maxLen; omega) (by have := Below.size HBd.out; simp at this ⊢; omega) (fun h => nomatch h) ?_; intro v8 w8 hown8 hg8 hat8; obtain ⟨A8, c8, rfl⟩ := own_form hown8; have HO8 := hide_ hown8; have HB8 := hide_ (show Later w1 w8 from own_grown (Below.alloc HBd.out (Below.size HBd.out) _) (HOd.out.alloc _) hg8 (by have := Below.size HBd.out; simp at this ⊢; omega)); have HBw8 := hide_ (Later.trans HB1.out HB8.out); have g1 := (HBw8.out.cell (p := ⟨b, o + k * 2, none⟩) (cell_lt HC1.out)).trans HC1.out; have g2 := (HBw8.out.cell (p := ⟨b, o + k * 2 + 1, none⟩) (cell_lt HC2.out)).trans HC2.out; clear hown8 hg8 hat8
      refine hK.out _ _ ?_
      clear hK K; try simp only [Act.put, List.setIfInBounds_toArray, List.set_cons_zero, List.set_cons_succ]
      refine wpAnyL_pure 11 (v := ?_) rfl (by kernel_rfl) (by kernel_rfl) (by kernel_rfl) (fun _ _ _ h => h) (by rfl) (by intro W; go_simp; with_reducible rfl) ?_; try simp only [Act.put, List.setIfInBounds_toArray, List.set_cons_zero, List.set_cons_succ]
      refine wpAnyL_done (by kernel_rfl) ?_ _
      clear kw e1 e2
      have hwo := hide_ (without_any (c := q) s (HRR.out.below HB8.out) HA1.out HQ.out (by omega))
      go_wp2_with fail
      refine hwo.out.mono ?_; rintro e w9 ⟨⟨v9, R9, rfl, ho9, _, hc9, hk9⟩, hb9⟩
      obtain rfl : R9 = [] := canon_none hc9 fun x hx => ((hk9 x).1 hx).2 (HSK.out x ((hk9 x).1 hx).1)
      obtain ⟨A9, c9, rfl⟩ := own_form ho9
      have HB9 := hide_ (Later.trans HB8.out hb9)
      have HO9 := hide_ (own_below HO8.out hb9)
      clear ho9 hc9 hk9 hb9 hwo
      simp only [List.length_nil]
      go_wp2_with fail
      go_roundw
      case rel => exact ⟨k, p + 2, (k : Int) - 1, B ++ [s, s], rfl, rfl, by omega, by omega, hide_ (by simp [HP.out]), fun x => (by rw [InL.append, InL.cons, InL.cons, HBK.out, HDN.out]; simp only [InL.nil, or_false]; grind), hide_ (by have := HO9.out; simpa [srow] using this), HB9.out⟩
      case measure => simp [intOf]
set_option maxHeartbeats 4000000 in
theorem spanOrder_big (b o n c : Nat) (M : List Spn) (w : World) (hn : 200 < n) (hr : Rd w 2 (some ⟨b, o, none⟩) 200 (srow M)) (hl : M.length = 200) (hnc : n ≤ c) :
    Calls Try.prog 10 #[.slice (some ⟨b, o, none⟩) n c] w fun e w' => e = .returned (.bool true) ∧ Below w.heap.size w w' := by
  have q1 : (200 : Int) < (n : Int) := by omega
  have q2 : (200 : Int) ≤ (c : Int) := by omega
  have q3 : 200 ≤ c := by omega
  have hA : (some ⟨b, o, none⟩ : Option Addr) = none → (200 : Nat) = 0 := fun h => nomatch h
  have hj := hide_ (join_b (c := c) hr hA hl (by omega))
  have HR := hide_ hr
  have HL := hide_ hl
  clear hr hA hl
  go_enter Try.func10, Try.ntmps10
  go_wp2_with fail
  refine hj.out.mono ?_; rintro e w1 ⟨⟨A1, R, q, rfl, hq, hR, hA1, hqm, hc, hk⟩, hb1⟩
  have HB1 := hide_ hb1; have HQ := hide_ hq; have HRR := hide_ hR; have HA1 := hide_ hA1; have HC := hide_ hc; have HK := hide_ hk
  have HO0 := hide_ (own_new w1 #[] 23 2 0 w1.heap.size rfl (Nat.zero_le _) (Nat.le_refl _))
  clear hb1 hq hR hA1 hc hk hj
  go_wp2_with fail
  go_loopw [4, 5] (fun s4 s5 wr => ∃ (j p : Nat) (i : Int) (B : List Spn), s5 = .int .i64 i ∧ Hid (i = (j : Int) - 1) ∧ j ≤ 200 ∧ p + 2 * j = 400 ∧ Hid (B.length = p) ∧ Hid (∀ k, InL B k ↔ InL (M.drop j) k) ∧ Hid (wr.ownsRow w1.heap.size 23 2 s4 p (srow B)) ∧ Hid (Later w1 wr)) (fun _ i _ => (intOf i + 1).toNat)
  case atStart => exact ⟨200, 0, _, [], rfl, hide_ (by omega), Nat.le_refl _, by omega, rfl, fun k => by rw [← HL.out, List.drop_length], HO0.out, (Below.refl _ _).alloc (Nat.le_refl _) _⟩
  case round =>
    obtain ⟨j, p, i, B, rfl, hi, hjm, hp, HP, HBK, HO, HB⟩ := hrel
    obtain ⟨A4, c4, rfl⟩ := own_form HO.out
    rcases Nat.eq_zero_or_pos j with hj0 | hj0
    · subst hj0
      have hi := hi.out
      obtain rfl : i = -1 := by omega
      have hjb := hide_ (join_b (c := c4) (Rd.of_own HO.out) (own_nil HO.out) HP.out (by omega))
      have HRw := hide_ (HRR.out.below HB.out)
      clear hi
      go_wp2_with fail
      refine (awake_any _).mono ?_; rintro e w2 ⟨rfl, hb2⟩
      have HB2 := hide_ (Later.trans HB.out hb2)
      have hjb := hide_ (join_b (c := c4) ((Rd.of_own HO.out).below hb2) (own_nil HO.out) HP.out (by omega))
      clear hb2
      go_wp2_with fail
      refine hjb.out.mono ?_; rintro e w3 ⟨⟨A3, R3, q3, rfl, hq3, hR3, hA3, _, hc3, hk3⟩, hb3⟩
      obtain rfl : R3 = R := canon_uniq hc3 HC.out fun k => by rw [hk3, HBK.out, List.drop_zero, HK.out]
      obtain rfl : q3 = q := hq3.symm.trans HQ.out
      have HB3 := hide_ (Later.trans HB2.out hb3)
      have hsm := hide_ (same_yes (c := q3) (c' := q3) (HRR.out.below HB3.out) hR3 HQ.out (by omega))
      clear hb3 hR3 hA3 hc3 hk3 hq3 hjb
      go_wp2_with fail
      refine hsm.out.mono ?_; rintro e w4 ⟨rfl, hb4⟩
      have HB4 := hide_ (Later.trans HB3.out hb4)
      have hjb := hide_ (join_b (c := q3) (HRR.out.below HB4.out) HA1.out HQ.out (by omega))
      clear hb4 hsm
      go_wp2_with fail
      refine hjb.out.mono ?_; rintro e w5 ⟨⟨A5, R5, q5, rfl, hq5, hR5, hA5, _, hc5, hk5⟩, hb5⟩
      obtain rfl : R5 = R3 := canon_uniq hc5 HC.out fun k => by rw [hk5]
      obtain rfl : q5 = q3 := hq5.symm.trans HQ.out
      have HB5 := hide_ (Later.trans HB4.out hb5)
      have hsm := hide_ (same_yes (c := q5) (c' := q5) (HRR.out.below HB5.out) hR5 HQ.out (by omega))
      clear hb5 hR5 hA5 hc5 hk5 hq5 hjb
      go_wp2_with fail
      refine hsm.out.mono ?_; rintro e w6 ⟨rfl, hb6⟩
      have HB6 := hide_ (Later.trans HB5.out hb6)
      clear hb6 hsm
      go_wp2_with fail
      go_ret
      exact ⟨rfl, Later.trans HB1.out HB6.out⟩
    · obtain ⟨k, rfl⟩ : ∃ k, j = k + 1 := ⟨j - 1, by omega⟩
      have hi := hi.out
      obtain rfl : i = (k : Int) := by omega
      obtain ⟨s, hs⟩ : ∃ s, M[k]? = some s := ⟨_, List.getElem?_eq_getElem (by rw [HL.out]; omega)⟩
      obtain ⟨b2, o2, hbo, c1, c2⟩ := HR.out.span hs
      injection hbo with hbo
      injection hbo with hb1 hb2
      subst hb1; subst hb2
      have HBw := hide_ (Later.trans HB1.out HB.out)
      have HC1 := hide_ c1
      have HC2 := hide_ c2
      have e1 := later_drew_cell ((HBw.out.cell (p := ⟨b, o + k * 2, none⟩) (cell_lt c1)).trans c1)
      have e2 := later_drew_cell ((HBw.out.cell (p := ⟨b, o + k * 2 + 1, none⟩) (cell_lt c2)).trans c2)
      have HDN := hide_ (drop_next hs)
      have HSK := hide_ (show ∀ x, InS s x → InL R x from fun x hx => (HK.out x).2 ⟨s, List.mem_of_getElem? hs, hx⟩)
      have HOd := hide_ (show wr.drew.ownsRow w1.heap.size 23 2 (.slice A4 p c4) p (srow B) from HO.out)
      have HBd := hide_ (show Later w1 wr.drew from Below.drew HB.out)
      have k1 : (0 : Int) ≤ (k : Int) := by omega
      have k2 : (k : Int) < 200 := by omega
      have k3 : k < 200 := by omega
      have k4 : (k : Int) ≤ 200 := by omega
      have kw : IntKind.i64.wrap (k : Int) = (k : Int) := IntWalk.i64_in _ (by omega)
      clear hs hi c1 c2
      go_wp2_with fail
      refine wp_region_l [10] (by kernel_rfl) ?_
      refine wpAnyL_pure 0 (v := ?_) rfl (by kernel_rfl) (by kernel_rfl) (by kernel_rfl) (fun _ _ _ h => h) (by rfl) (by intro W; go_simp; with_reducible rfl) ?_; try simp only [Act.put, List.setIfInBounds_toArray, List.set_cons_zero, List.set_cons_succ]
      refine wpAnyL_pure 1 (v := ?_) rfl (by kernel_rfl) (by kernel_rfl) (by kernel_rfl) (fun _ _ _ h => h) (by rfl) (by intro W; go_simp; with_reducible rfl) ?_; try simp only [Act.put, List.setIfInBounds_toArray, List.set_cons_zero, List.set_cons_succ]
      refine wpAnyL_pure 2 (v := ?_) rfl (by kernel_rfl) (by kernel_rfl) (by kernel_rfl) (fun _ _ _ h => h) (by rfl) (by intro W; go_simp; with_reducible rfl) ?_; try simp only [Act.put, List.setIfInBounds_toArray, List.set_cons_zero, List.set_cons_succ]
      refine wpAnyL_pure 3 (v := ?_) rfl (by kernel_rfl) (by kernel_rfl) (by kernel_rfl) (fun _ _ _ h => h) (by rfl) (by intro W; go_simp; with_reducible rfl) ?_; try simp only [Act.put, List.setIfInBounds_toArray, List.set_cons_zero, List.set_cons_succ]
      refine wpAnyL_take 4 (v := ?_) rfl (by kernel_rfl) (by kernel_rfl) (by kernel_rfl) (by kernel_rfl) (fun _ _ _ h => h) (by rfl) (by intro W hSw; go_simp; with_reducible rfl) ?_; try simp only [Act.put, List.setIfInBounds_toArray, List.set_cons_zero, List.set_cons_succ]
      refine wpAnyL_pure 5 (v := ?_) rfl (by kernel_rfl) (by kernel_rfl) (by kernel_rfl) (fun _ _ _ h => h) (by rfl) (by intro W; go_simp; with_reducible rfl) ?_; try simp only [Act.put, List.setIfInBounds_toArray, List.set_cons_zero, List.set_cons_succ]
      refine wpAnyL_pure 6 (v := ?_) rfl (by kernel_rfl) (by kernel_rfl) (by kernel_rfl) (fun _ _ _ h => h) (by rfl) (by intro W; go_simp; with_reducible rfl) ?_; try simp only [Act.put, List.setIfInBounds_toArray, List.set_cons_zero, List.set_cons_succ]
      refine wpAnyL_pure 7 (v := ?_) rfl (by kernel_rfl) (by kernel_rfl) (by kernel_rfl) (fun _ _ _ h => h) (by rfl) (by intro W; go_simp; with_reducible rfl) ?_; try simp only [Act.put, List.setIfInBounds_toArray, List.set_cons_zero, List.set_cons_succ]
      refine wpAnyL_take 8 (v := ?_) rfl (by kernel_rfl) (by kernel_rfl) (by kernel_rfl) (by kernel_rfl) (fun _ _ _ h => h) (by rfl) (by intro W hSw; go_simp; with_reducible rfl) ?_; try simp only [Act.put, List.setIfInBounds_toArray, List.set_cons_zero, List.set_cons_succ]
      refine wpAnyL_one 9 (by kernel_rfl) rfl (fun K hK => ?_)
      go_simp
      first | refine hK.out _ _ (by assumption) ?_ | refine hK.out _ _ (Later.refl _) ?_ | refine hK.out _ _ (Below.alloc (Below.refl _ _) (Nat.le_refl _) _) ?_
      clear hK K; try simp only [Act.put, List.setIfInBounds_toArray, List.set_cons_zero, List.set_cons_succ]
      refine wpAnyL_loud 10 (by kernel_rfl) (by rfl) rfl (fun K hK => ?_)
      refine step_append_rd (by rfl) (.tmp 21) (.tmp 30) 34 rfl w1.heap.size 23 2 32 spanT _ p (srow B) rfl (HOd.out.alloc _) _ 2 2 (encS s ++ encS s) rfl (Rd.newAt _ #[.string s.1, .string s.2, .string s.1, .string s.2] 23 2 2 _ (0, 0) rfl (by simp)) (by intro u hu; rcases List.mem_append.1 hu with hu | hu <;> exact encS_one s u hu) (by omega) (by unfold maxLen; omega) (by have := Below.size HBd.out; simp at this ⊢; omega) (fun h => nomatch h) ?_; intro v8 w8 hown8 hg8 hat8; obtain ⟨A8, c8, rfl⟩ := own_form hown8; have HO8 := hide_ hown8; have HB8 := hide_ (show Later w1 w8 from own_grown (Below.alloc HBd.out (Below.size HBd.out) _) (HOd.out.alloc _) hg8 (by have := Below.size HBd.out; simp at this ⊢; omega)); have HBw8 := hide_ (Later.trans HB1.out HB8.out); have g1 := (HBw8.out.cell (p := ⟨b, o + k * 2, none⟩) (cell_lt HC1.out)).trans HC1.out; have g2 := (HBw8.out.cell (p := ⟨b, o + k * 2 + 1, none⟩) (cell_lt HC2.out)).trans HC2.out; clear hown8 hg8 hat8
      refine hK.out _ _ ?_
      clear hK K; try simp only [Act.put, List.setIfInBounds_toArray, List.set_cons_zero, List.set_cons_succ]
      refine wpAnyL_pure 11 (v := ?_) rfl (by kernel_rfl) (by kernel_rfl) (by kernel_rfl) (fun _ _ _ h => h) (by rfl) (by intro W; go_simp; with_reducible rfl) ?_; try simp only [Act.put, List.setIfInBounds_toArray, List.set_cons_zero, List.set_cons_succ]
      refine wpAnyL_done (by kernel_rfl) ?_ _
      clear kw e1 e2
      have hwo := hide_ (without_any (c := q) s (HRR.out.below HB8.out) HA1.out HQ.out (by omega))
      go_wp2_with fail
      refine hwo.out.mono ?_; rintro e w9 ⟨⟨v9, R9, rfl, ho9, _, hc9, hk9⟩, hb9⟩
      obtain rfl : R9 = [] := canon_none hc9 fun x hx => ((hk9 x).1 hx).2 (HSK.out x ((hk9 x).1 hx).1)
      obtain ⟨A9, c9, rfl⟩ := own_form ho9
      have HB9 := hide_ (Later.trans HB8.out hb9)
      have HO9 := hide_ (own_below HO8.out hb9)
      clear ho9 hc9 hk9 hb9 hwo
      simp only [List.length_nil]
      go_wp2_with fail
      go_roundw
      case rel => exact ⟨k, p + 2, (k : Int) - 1, B ++ [s, s], rfl, rfl, by omega, by omega, hide_ (by simp [HP.out]), fun x => (by rw [InL.append, InL.cons, InL.cons, HBK.out, HDN.out]; simp only [InL.nil, or_false]; grind), hide_ (by have := HO9.out; simpa [srow] using this), HB9.out⟩
      case measure => simp [intOf]
theorem spanOrder_contract (H : Type) (enc : TypeId × Value → H) (W : World) (base : Nat) (args : Array Value) (ds : List (DataW H)) (before : List MemPlace)
    (hval : ∀ (j : Nat) t v, Try.f10.params[j]? = some t → args[j]? = some v → Value.okWide Try.prog W .any base t v)
    (hA : DataW.TrodAll enc Try.prog W 0 (fun _ => true) true Try.f10.params.toList args.toList ds before)
    (_hsz : (DataW.weightsEach Try.prog (Try.f10.params.toList ++ Rows.spanOrderSpec.plain.varTypes Try.prog) (ds ++ [])).all (· ≤ reachBytes) = true) :
    Calls Try.prog 10 args W fun e W' => e = .returned (.bool true) ∧ Below W.heap.size W W' := by
  rw [Try.params10] at hA hval
  obtain ⟨v0, vs0, d0, ds0, p0, q0, hargs, rfl, rfl, h0, r0⟩ := trodAll_cons hA
  obtain ⟨rfl, rfl, rfl⟩ := trodAll_nil r0
  obtain rfl : args = #[v0] := by cases args; simp_all
  obtain ⟨A, c, L, rfl, hlc, hcm, hA1, hR⟩ := open_spans (hval 0 34 v0 rfl rfl) h0
  rcases Nat.lt_or_ge 200 L.length with h | h
  · obtain ⟨b, o, rfl, _⟩ := hR.2 (by rw [srow_len]; omega)
    obtain ⟨h1, h2⟩ := rd_take60 hR rfl (Nat.le_of_lt h)
    exact spanOrder_big b o L.length c (L.take 200) W h h1 h2 hlc
  · exact spanOrder_tail A L.length c L W h hR hA1 rfl hlc

set_option maxRecDepth 100000 in
theorem spanOrder_lifted (os : Os) (started : os.Started) (H : Type) (enc : TypeId × Value → H) :
    ReturnsInHanded {} Try.checked os 10 .any (Rows.spanOrderSpec.pre6 enc Try.prog Try.f10 Rows.spanOrderRow.domain false) (Rows.spanOrderSpec.post enc Try.prog Try.f10 false true false false) := by
  refine returnsInHanded_of_change_sized (C := Try.checked) own started (by kernel_rfl) Try.func10
    (ChangeSpec.witness6 (enc := enc) (C := Try.checked) false ⟨#[], #[.slice none 0 0], []⟩ 8 (by kernel_rfl) (by kernel_rfl) (by kernel_rfl) (by kernel_rfl)) ?_
  intro W base args ds gs before hval hW _ hsz _
  have hW' := hW
  obtain ⟨p, q, hA0, hV, rfl, hfz, hnd⟩ := hW
  obtain ⟨rfl, rfl⟩ := trodVars_none hV
  have hA : DataW.TrodAll enc Try.prog W 0 (fun _ => true) true Try.f10.params.toList args.toList ds p := hA0
  refine (spanOrder_contract H enc W base args ds p hval hA hsz).mono fun e W' ⟨he, hb⟩ => ?_
  subst he
  have hds : ds.length = 1 := by
    rw [Try.params10] at hA
    obtain ⟨v0, vs0, d0, ds0, p0, q0, _, rfl, rfl, _, r0⟩ := trodAll_cons hA
    obtain ⟨_, rfl, rfl⟩ := trodAll_nil r0
    rfl
  have hsh : ∃ d0 : DataW H, ds = [d0] := by
    match ds, hds with
    | [d0], _ => exact ⟨d0, rfl⟩
  obtain ⟨d0, rfl⟩ := hsh
  exact ⟨_, rfl, post_law (s := Rows.spanOrderSpec) laidOut (by kernel_rfl) Try.underlying4 rfl (by kernel_rfl) hW' rfl rfl rfl hb⟩
theorem spanOrder_over : Rows.spanOrderRow.holds Try.pinned (OpenSpec.ofChange Rows.spanOrderSpec) :=
  OpenClaim.holds_of_wide 10 Try.f10 rfl rfl rfl rfl rfl rfl rfl ⟨rfl, rfl, rfl, rfl, rfl⟩ rfl rfl rfl rfl rfl (by kernel_rfl) Try.func10 (by kernel_rfl)
    (of_decide_eq_true (by kernel_rfl)) (by unfold Func.isWrapper; first | (rw [if_pos (by decide +kernel)]; kernel_rfl) | (rw [if_neg (by decide +kernel)]; exact ⟨rfl, rfl⟩))
    (fun os started H enc _ => spanOrder_lifted os started H enc)
/-- The statement. -/
theorem spanOrder_holds : Rows.SpanOrderSaid := spanOrder_over
end Go.Proofs.Ytlllcepoglklcaa
