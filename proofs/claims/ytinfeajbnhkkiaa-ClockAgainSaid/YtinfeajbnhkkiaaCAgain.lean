/-
  ClockAgain: for any numbers a bell that is set again rings at its new time alone, and one that is stopped does not ring; it writes nothing that was there.
  Conditions: none.
-/
import Derived.Test.YtinfeajbnhkkiaaCAwake
import Derived.Test.YtinfeajbnhkkiaaFrame
namespace Go.Proofs.Ytinfeajbnhkkiaa
open Go.ChangeShapes Go.WideShapes Go.ChangeAt Go.RowKit
set_option linter.unusedVariables false
set_option linter.unusedSimpArgs false
theorem set_cases (a b bl : Int) : setB (bl + 1) a (setB bl (b + 1) (setB bl a [])) = [(bl, b + 1), (bl + 1, a)] ∨ setB (bl + 1) a (setB bl (b + 1) (setB bl a [])) = [(bl + 1, a), (bl, b + 1)] := by
  have e1 : setB bl (b + 1) (setB bl a []) = [(bl, b + 1)] := by simp [setB, butB, insB]
  rw [e1]
  have e2 : butB (bl + 1) [(bl, b + 1)] = [(bl, b + 1)] := by
    simp [butB, List.filter_cons]
    omega
  unfold setB
  rw [e2]
  unfold insB
  split
  · exact .inl rfl
  · exact .inr rfl
theorem again_plain (a b bl : Int) (st : Bool) (ha : 0 ≤ a ∧ a ≤ 65535) (hb : 0 ≤ b ∧ b ≤ 65535) (L3 L4 : List Bel) (h3 : L3 = setB (bl + 1) a (setB bl (b + 1) (setB bl a []))) (h4 : L4 = if st = true then butB bl L3 else L3) :
    dueB (0 + b) L4 ++ (dueB (0 + b + 1) (restB (0 + b) L4) ++ dueB (0 + b + 1 + 70000) (restB (0 + b + 1) (restB (0 + b) L4))) = L4 ∧ L4.countP (fun x => x.1 == bl) = (if st = true then 0 else 1) ∧ L4.length = (if st = true then 0 else 1) + 1 ∧ ∀ x, x ∈ L4 → (x.1 = bl → x.2 = b + 1) ∧ x.2 ≤ 0 + b + 1 + 70000 := by
  have hL : L4.countP (fun x => x.1 == bl) = (if st = true then 0 else 1) ∧ L4.length = (if st = true then 0 else 1) + 1 ∧ ∀ x, x ∈ L4 → (x.1 = bl → x.2 = b + 1) ∧ x.2 ≤ 0 + b + 1 + 70000 := by
    have e1 : (bl + 1 == bl) = false := by rw [beq_eq_false_iff_ne]; omega
    have e2 : (bl + 1 != bl) = true := by rw [bne_iff_ne]; omega
    have e3 : ∀ x : Bel, x = (bl + 1, a) → (x.1 = bl → x.2 = b + 1) ∧ x.2 ≤ 0 + b + 1 + 70000 := fun x e => by subst e; exact ⟨fun h => by have h : bl + 1 = bl := h; omega, by show a ≤ _; omega⟩
    have e4 : ∀ x : Bel, x = (bl, b + 1) → (x.1 = bl → x.2 = b + 1) ∧ x.2 ≤ 0 + b + 1 + 70000 := fun x e => by subst e; exact ⟨fun _ => rfl, by show b + 1 ≤ _; omega⟩
    subst h4 h3
    rcases set_cases a b bl with h | h <;> rw [h] <;> cases st <;> simp only [Bool.false_eq_true, if_false, if_true, butB, List.filter_cons, List.filter_nil, List.countP_cons, List.countP_nil, e1, e2, bne_self_eq_false, beq_self_eq_true, List.length_cons, List.length_nil, List.mem_cons, List.not_mem_nil, or_false] <;> refine ⟨by simp, by simp, ?_⟩
    · rintro x (e | e); exact e4 x e; exact e3 x e
    · rintro x e; exact e3 x e
    · rintro x (e | e); exact e3 x e; exact e4 x e
    · rintro x e; exact e3 x e
  refine ⟨?_, hL⟩
  have hr : restB (0 + b + 1 + 70000) (restB (0 + b + 1) (restB (0 + b) L4)) = [] := by
    have hsub : ∀ x, x ∈ restB (0 + b + 1 + 70000) (restB (0 + b + 1) (restB (0 + b) L4)) → x ∈ L4 := fun x hx =>
      (List.dropWhile_sublist _).subset ((List.dropWhile_sublist _).subset ((List.dropWhile_sublist _).subset hx))
    match hm : restB (0 + b + 1 + 70000) (restB (0 + b + 1) (restB (0 + b) L4)) with
    | [] => rfl
    | x :: R =>
      exfalso
      have h1 := (hL.2.2 x (hsub x (by rw [hm]; exact List.mem_cons_self ..))).2
      have h2 := List.head?_dropWhile_not (fun x : Bel => decide (x.2 ≤ 0 + b + 1 + 70000)) (restB (0 + b + 1) (restB (0 + b) L4))
      rw [show (restB (0 + b + 1) (restB (0 + b) L4)).dropWhile (fun x : Bel => decide (x.2 ≤ 0 + b + 1 + 70000)) = x :: R from hm] at h2
      simp at h2
      omega
  have h1 := due_rest (0 + b + 1 + 70000) (restB (0 + b + 1) (restB (0 + b) L4))
  rw [hr, List.append_nil] at h1
  rw [h1, due_rest, due_rest]
theorem ints_append (A B : List Int) : ints (A ++ B) = ints A ++ ints B := by simp [ints]
/-- How often a number comes. -/
def cntI (b : Int) (A : List Int) : Nat := A.countP (· == b)
theorem cntI_yes {A : List Int} {k : Nat} {b x : Int} (h : A[k]? = some x) (e : x = b) : cntI b (A.take (k + 1)) = cntI b (A.take k) + 1 := by
  unfold cntI; rw [take_snoc h, List.countP_append]; simp [e]
theorem cntI_no {A : List Int} {k : Nat} {b x : Int} (h : A[k]? = some x) (e : x ≠ b) : cntI b (A.take (k + 1)) = cntI b (A.take k) := by
  unfold cntI; rw [take_snoc h, List.countP_append]; simp [e]
theorem cntI_le (b : Int) (A : List Int) (k : Nat) : cntI b (A.take k) ≤ k := Nat.le_trans List.countP_le_length (by rw [List.length_take]; exact Nat.min_le_left _ _)
theorem cntI_map (b : Int) (L : List Bel) : cntI b (L.map (·.1)) = L.countP (fun x => x.1 == b) := by unfold cntI; rw [List.countP_map]; rfl
/-- A row of numbers stays while a clock turns. -/
theorem own_ck {w w' : World} {base m C n : Nat} {t : Int} {L : List Bel} {v : Value} {xs : List Value} (h : w.ownsRow base 3 1 v m xs) (hc : CK w C n t L) (ht : CTurn C w w') : w'.ownsRow base 3 1 v m xs := by
  refine ⟨h.1, ?_⟩
  rcases h.2 with h0 | ⟨g, cap, cur, hv, hb, hh, hr⟩
  · exact .inl h0
  · obtain ⟨B, h1, ⟨D, h2, _⟩, _⟩ := hc
    obtain ⟨B', t1, t2, k1, k2, k3, k4, k5, k6, k7⟩ := ht
    obtain rfl := ckAt_uniq h1 k1
    have n1 : g ≠ C := fun e => by subst e; unfold CkAt at h1; rw [h1] at hh; injection hh with hh; injection hh with _ hh; exact absurd hh (by decide)
    have n2 : g ≠ B := fun e => by subst e; obtain ⟨es, clock, hb, _⟩ := h2; rw [hb] at hh; cases hh
    exact .inr ⟨g, cap, cur, hv, hb, (k7 g (theap_lt hh) n1 n2).trans hh, hr⟩
set_option maxRecDepth 100000 in
set_option maxHeartbeats 16000000 in
theorem clockAgain_walk (a b bl : Int) (st : Bool) (ha : 0 ≤ a ∧ a ≤ 65535) (hb : 0 ≤ b ∧ b ≤ 65535) (hbl : 0 ≤ bl ∧ bl ≤ 255) (w : World) :
    Calls Try.prog 6 #[.int .u16 a, .int .u16 b, .int .u8 bl, .bool st] w fun e w' => e = .returned (.bool true) ∧ Below w.heap.size w w' := by
  have a0 := ha.1; have a1 := ha.2; have b0 := hb.1; have b1 := hb.2; have l0 := hbl.1; have l1 := hbl.2
  have HPL := hide_ (fun L3 L4 h3 h4 => again_plain a b bl st ha hb L3 L4 h3 h4)
  clear ha hb hbl
  go_enter Try.func6, Try.ntmps6
  go_wp2_with fail
  refine (cknew_any _).mono ?_; rintro e w1 ⟨rfl, hck, hcb, hb1⟩
  have HCK1 := hide_ hck; have HCB1 := hide_ hcb; have HB1 := hide_ hb1
  clear hck hcb hb1
  go_wp2_with fail
  refine (cawake_yes _).mono ?_; rintro e w2 ⟨rfl, hb2⟩
  have HCB2 := hide_ (HCB1.out.later HCK1.out.lt hb2); have HCK2 := hide_ (HCK1.out.later hb2); have HB2 := hide_ (HB1.out.trans hb2)
  clear hb2
  go_wp2_with fail
  refine (ckset_any bl a HCK2.out (by omega)).mono ?_; rintro e w3 h
  obtain ⟨rfl, hck, ht⟩ := set_good h (by omega) (by omega) (by omega) (by omega)
  have HCK3 := hide_ hck; have HB3 := hide_ (ht.later HB2.out HCB2.out); have HCB3 := hide_ (HCB2.out.turn ht)
  clear h hck ht
  go_wp2_with fail
  refine (ckset_any bl (b + 1) HCK3.out (by omega)).mono ?_; rintro e w4 h
  obtain ⟨rfl, hck, ht⟩ := set_good h (by omega) (by omega) (by omega) (by omega)
  have HCK4 := hide_ hck; have HB4 := hide_ (ht.later HB3.out HCB3.out); have HCB4 := hide_ (HCB3.out.turn ht)
  clear h hck ht
  go_wp2_with fail
  refine (ckset_any (bl + 1) a HCK4.out (by omega)).mono ?_; rintro e w5 h
  obtain ⟨rfl, hck, ht⟩ := set_good h (by omega) (by omega) (by omega) (by omega)
  obtain ⟨L3, hL3⟩ : ∃ L3, L3 = setB (bl + 1) a (setB bl (b + 1) (setB bl a [])) := ⟨_, rfl⟩
  rw [← hL3] at hck
  have HCK5 := hide_ hck; have HB5 := hide_ (ht.later HB4.out HCB4.out); have HCB5 := hide_ (HCB4.out.turn ht)
  have HL3 := hide_ hL3
  clear h hck ht hL3
  cases st
  · have HPM := hide_ (HPL.out L3 L3 HL3.out rfl)
    obtain ⟨L4, hL4⟩ : ∃ L4, L4 = L3 := ⟨_, rfl⟩
    rw [← hL4] at HPM HCK5
    have HCK7 := hide_ HCK5.out; have HB7 := hide_ HB5.out; have HCB7 := hide_ HCB5.out
    obtain ⟨cnt, hcn⟩ : ∃ cnt : Nat, cnt = if false = true then 0 else 1 := ⟨_, rfl⟩
    have HCN := hide_ (show cnt = 1 from hcn)
    have hcl : cnt ≤ 1 := by rw [HCN.out]; omega
    rw [← hcn] at HPM
    clear HCK5 HB5 HCB5 hL4 hcn
    go_wp2_with fail
    refine (ckpass_any b HCK7.out (by omega)).mono ?_; rintro e w8 h
    obtain ⟨A8, m8, c8, rfl, hm8, ho8, hck, ht⟩ := pass_good h (by omega) (by omega)
    have HCK8 := hide_ hck; have HB8 := hide_ (ht.later HB7.out HCB7.out); have HCB8 := hide_ (HCB7.out.turn ht); have HX8 := hide_ ho8; have HM8 := hide_ hm8
    have hm8l : m8 ≤ 4096 := by have h := HPM.out.1; have h2 := congrArg List.length h; simp only [List.length_append] at h2; have := HPM.out.2.2.1; omega
    clear h hck ht ho8 hm8
    go_wp2_with fail
    refine (ckpass_any 1 HCK8.out (by omega)).mono ?_; rintro e w9 h
    obtain ⟨A9, m9, c9, rfl, hm9, ho9, hck, ht⟩ := pass_good h (by omega) (by omega)
    have HX9 := hide_ (own_ck HX8.out HCK8.out ht)
    have HCK9 := hide_ hck; have HB9 := hide_ (ht.later HB8.out HCB8.out); have HCB9 := hide_ (HCB8.out.turn ht); have HY9 := hide_ ho9; have HM9 := hide_ hm9
    have hm9l : m9 ≤ 4096 := by have h := HPM.out.1; have h2 := congrArg List.length h; simp only [List.length_append] at h2; have := HPM.out.2.2.1; omega
    clear h hck ht ho9 hm9
    go_wp2_with fail
    refine (ckpass_any 70000 HCK9.out (by omega)).mono ?_; rintro e w10 h
    obtain ⟨A10, m10, c10, rfl, hm10, ho10, hck, ht⟩ := pass_good h (by omega) (by omega)
    have HX10 := hide_ (own_ck HX9.out HCK9.out ht); have HY10 := hide_ (own_ck HY9.out HCK9.out ht)
    have HB10 := hide_ (ht.later HB9.out HCB9.out); have HZ10 := hide_ ho10; have HM10 := hide_ hm10
    have hm10l : m10 ≤ 4096 := by have h := HPM.out.1; have h2 := congrArg List.length h; simp only [List.length_append] at h2; have := HPM.out.2.2.1; omega
    have HO0 := hide_ (show (w10.alloc (.cells #[] 3)).ownsRow w10.heap.size 3 1 (.slice (some ⟨w10.heap.size, 0, none⟩) 0 0) 0 [] from own_new w10 #[] 3 1 0 w10.heap.size rfl (Nat.zero_le _) (Nat.le_refl _))
    have p1 : (0 + m8) * 8 ≤ 140737488355328 := by omega
    have p2 : 0 + m8 ≤ maxLen := by unfold maxLen; omega
    have p3 : w10.heap.size ≤ (w10.alloc (.cells #[] 3)).heap.size := by simp
    have p4 : (0 + m8 + m9) * 8 ≤ 140737488355328 := by omega
    have p5 : 0 + m8 + m9 ≤ maxLen := by unfold maxLen; omega
    have p7 : (0 + m8 + m9 + m10) * 8 ≤ 140737488355328 := by omega
    have p8 : 0 + m8 + m9 + m10 ≤ maxLen := by unfold maxLen; omega
    clear h hck ht ho10 hm10
    go_wp2_with (first | (at_builtin; go_loud (refine wpList_append_rd _ rfl (.tmp 89) (.tmp 90) 30 rfl w10.heap.size 3 1 8 intT _ 0 [] rfl HO0.out _ m8 c8 _ rfl ((Rd.of_own HX10.out).alloc _) (ints_one _) p1 p2 p3 (own_cap2 HX10.out).1 ?_; intro v11 w11 hown11 hg11 hat11; have HL11 := hide_ (own_grown (Below.alloc (Below.refl _ _) (Nat.le_refl _) _) HO0.out hg11 p3); have HO11 := hide_ hown11; have p6 := HL11.out.size; clear hown11 hg11 hat11)) | (at_builtin; go_loud (refine wpList_append_rd _ rfl (.tmp 91) (.tmp 92) 30 rfl w10.heap.size 3 1 8 intT _ _ _ rfl HO11.out _ m9 c9 _ rfl (Rd.of_own (own_below HY10.out HL11.out)) (ints_one _) p4 p5 p6 (own_cap2 HY10.out).1 ?_; intro v12 w12 hown12 hg12 hat12; have HL12 := hide_ (own_grown HL11.out HO11.out hg12 p6); have HO12 := hide_ hown12; have p9 := HL12.out.size; clear hown12 hg12 hat12)) | (at_builtin; go_loud (refine wpList_append_rd _ rfl (.tmp 93) (.tmp 94) 30 rfl w10.heap.size 3 1 8 intT _ _ _ rfl HO12.out _ m10 c10 _ rfl (Rd.of_own (own_below HZ10.out HL12.out)) (ints_one _) p7 p8 p9 (own_cap2 HZ10.out).1 ?_; intro v13 w13 hown13 hg13 hat13; have HL13 := hide_ (own_grown HL12.out HO12.out hg13 p9); have HO13 := hide_ hown13; clear hown13 hg13 hat13; obtain ⟨A13, c13, rfl⟩ := own_form HO13.out)))
    have hall : ([] : List Value) ++ ints ((dueB (0 + b) L4).map (·.1)) ++ ints ((dueB (0 + b + 1) (restB (0 + b) L4)).map (·.1)) ++ ints ((dueB (0 + b + 1 + 70000) (restB (0 + b + 1) (restB (0 + b) L4))).map (·.1)) = ints (L4.map (·.1)) := by
      conv => rhs; rw [← HPM.out.1]
      simp [ints_append]
    obtain ⟨N, hN⟩ : ∃ N, N = m8 + m9 + m10 := ⟨_, rfl⟩
    have hNl : N = cnt + 1 := by have h2 := congrArg List.length HPM.out.1; simp only [List.length_append] at h2; have := HPM.out.2.2.1; have := HM8.out; have := HM9.out; have := HM10.out; omega
    have ho13 := HO13.out
    rw [hall] at ho13
    rw [show 0 + m8 + m9 + m10 = m8 + m9 + m10 by omega, ← hN] at ho13
    rw [← hN]
    have HRD := hide_ (Rd.of_own ho13)
    have HRX := hide_ (Rd.of_own (own_below HX10.out HL13.out))
    have HB13 := hide_ (HB10.out.trans HL13.out)
    have HNL := hide_ hNl
    have hN2 : (N : Int) ≤ 2 := by omega
    have hm8i : (m8 : Int) ≤ 4096 := by omega
    clear HO13 HO12 HO11 HO0 hall ho13 hN hNl p1 p2 p3 p4 p5 p6 p7 p8 p9
    go_loop [17, 18, 19] (fun s17 s18 s19 => ∃ k p q : Nat, k ≤ N ∧ s19 = .int .i64 k ∧ s17 = .int .i64 p ∧ s18 = .int .i64 q ∧ p + q = k ∧ Hid (p = cntI bl ((L4.map (·.1)).take k))) (fun _ _ s19 => N - (intOf s19).toNat)
    case atStart => exact ⟨0, 0, 0, by omega, rfl, rfl, rfl, rfl, hide_ rfl⟩
    case round =>
      obtain ⟨k, p, q, hk, rfl, rfl, rfl, hpq, HP⟩ := hrel
      have r2 : (k : Int) ≤ 4096 := by omega
      have r3 : (0 : Int) ≤ (k : Int) := by omega
      have r4 : (p : Int) ≤ 4096 := by omega
      have r5 : (q : Int) ≤ 4096 := by omega
      have r6 : (0 : Int) ≤ (p : Int) := by omega
      have r7 : (0 : Int) ≤ (q : Int) := by omega
      by_cases hlt : k < N
      · have r1 : (k : Int) < (N : Int) := by omega
        obtain ⟨x, hx⟩ : ∃ x, (L4.map (·.1))[k]? = some x := ⟨_, List.getElem?_eq_getElem (by rw [List.length_map, HPM.out.2.2.1, ← HNL.out]; exact hlt)⟩
        obtain ⟨bb, oo, hA, hcl2⟩ := HRD.out.2 (by simp [ints]; have := HPM.out.2.2.1; omega)
        subst hA
        have c0 : w13.cell? ⟨bb, oo + k, none⟩ = some (.int .i64 x) := hcl2 k _ (by simp only [ints, List.getElem?_map]; rw [List.getElem?_map] at hx; rw [hx]; rfl)
        have c1' : w13.cell? ⟨bb, oo + k * 1, none⟩ = some (.int .i64 x) := by rw [Nat.mul_one]; exact c0
        by_cases hxb : x = bl
        · have HS := hide_ (cntI_yes hx hxb)
          have q1 : (x == bl) = true := by simpa using hxb
          clear hx hcl2 hxb
          go_wp2_with fail
          go_round
          case rel => exact ⟨k + 1, p + 1, q, by omega, by go_num, by go_num, rfl, by omega, hide_ (by rw [HS.out, ← HP.out])⟩
          case measure => simp [intOf]; omega
        · have HS := hide_ (cntI_no hx hxb)
          have q1 : (x == bl) = false := by simpa using hxb
          clear hx hcl2 hxb
          go_wp2_with fail
          go_round
          case rel => exact ⟨k + 1, p, q + 1, by omega, by go_num, rfl, by go_num, by omega, hide_ (by rw [HS.out, ← HP.out])⟩
          case measure => simp [intOf]; omega
      · have r1 : ¬ (k : Int) < (N : Int) := by omega
        obtain rfl : k = N := by omega
        have hpc : p = cnt := by
          rw [HP.out, List.take_of_length_le (by rw [List.length_map, HPM.out.2.2.1]; have := HNL.out; omega), cntI_map, HPM.out.2.1]
        have hq1 : q = 1 := by have := HNL.out; omega
        have hcv := HCN.out
        clear HP r2 r3 r4 r5 r6 r7 r1 hk hlt
        rw [hcv] at hpc
        subst hpc
        subst hq1
        go_wp2_with fail
        go_loop [20] (fun s20 => ∃ j : Nat, j ≤ m8 ∧ s20 = .int .i64 j) (fun s20 => m8 - (intOf s20).toNat)
        case atStart => exact ⟨0, by omega, rfl⟩
        case round =>
          obtain ⟨j, hj, rfl⟩ := hrel
          have r2 : (j : Int) ≤ 4096 := by omega
          have r3 : (0 : Int) ≤ (j : Int) := by omega
          by_cases hlt : j < m8
          · have r1 : (j : Int) < (m8 : Int) := by omega
            obtain ⟨x, hx⟩ : ∃ x, (dueB (0 + b) L4)[j]? = some x := ⟨_, List.getElem?_eq_getElem (by rw [HM8.out]; exact hlt)⟩
            obtain ⟨bb, oo, hA, hcl2⟩ := HRX.out.2 (by rw [ints, List.length_map, List.length_map, HM8.out]; omega)
            subst hA
            have c0 : w13.cell? ⟨bb, oo + j, none⟩ = some (.int .i64 x.1) := hcl2 j _ (by simp only [ints, List.getElem?_map]; rw [hx]; rfl)
            have c1' : w13.cell? ⟨bb, oo + j * 1, none⟩ = some (.int .i64 x.1) := by rw [Nat.mul_one]; exact c0
            have hne : x.1 ≠ bl := fun e => by
              have hmem := List.mem_of_getElem? hx
              have h1 := List.all_eq_true.1 (List.all_takeWhile (l := L4) (p := fun x : Bel => decide (x.2 ≤ 0 + b))) x hmem
              have h2 := (HPM.out.2.2.2 x ((List.takeWhile_sublist _).subset hmem)).1 e
              simp at h1; omega
            have q1 : (x.1 == bl) = false := by simpa using hne
            clear hx hcl2 hne
            go_wp2_with fail
            go_round
            case rel => exact ⟨j + 1, by omega, by go_num⟩
            case measure => simp [intOf]; omega
          · have r1 : ¬ (j : Int) < (m8 : Int) := by omega
            go_wp2_with fail
            go_ret
            exact ⟨rfl, HB13.out⟩
  · have HPM := hide_ (HPL.out L3 (butB bl L3) HL3.out rfl)
    obtain ⟨cnt, hcn⟩ : ∃ cnt : Nat, cnt = if true = true then 0 else 1 := ⟨_, rfl⟩
    have HCN := hide_ (show cnt = 0 from hcn)
    have hcl : cnt ≤ 1 := by rw [HCN.out]; omega
    rw [← hcn] at HPM
    clear hcn
    go_wp2_with fail
    refine (ckstop_any bl HCK5.out).mono ?_; rintro e w6 h
    rcases h with ⟨h, _⟩ | ⟨_, _, h, _⟩ | ⟨_, _, _, rfl, hck, ht⟩
    · omega
    · exfalso
      rcases set_cases a b bl with e | e
      · exact h (bl, b + 1) (by rw [HL3.out, e]; simp) rfl
      · exact h (bl, b + 1) (by rw [HL3.out, e]; simp) rfl
    obtain ⟨L4, hL4⟩ : ∃ L4, L4 = butB bl L3 := ⟨_, rfl⟩
    have hno : ∀ x, x ∈ L4 → x.1 ≠ bl := fun x hx => by rw [hL4] at hx; exact (mem_butB.1 hx).2
    rw [← hL4] at HPM hck
    have HCK6 := hide_ hck; have HB6 := hide_ (ht.later HB5.out HCB5.out); have HCB6 := hide_ (HCB5.out.turn ht)
    have HNO := hide_ hno
    clear HCK5 HB5 HCB5 hck ht hL4 hno
    go_wp2_with fail
    refine (ckstop_any bl HCK6.out).mono ?_; rintro e w7 h
    rcases h with ⟨h, _⟩ | ⟨_, _, _, rfl, rfl⟩ | ⟨_, _, ⟨x, hx, hxb⟩, _⟩
    · omega
    · have HCK7 := hide_ HCK6.out; have HB7 := hide_ HB6.out; have HCB7 := hide_ HCB6.out
      clear HCK6 HB6 HCB6 HNO
      go_wp2_with fail
      refine (ckpass_any b HCK7.out (by omega)).mono ?_; rintro e w8 h
      obtain ⟨A8, m8, c8, rfl, hm8, ho8, hck, ht⟩ := pass_good h (by omega) (by omega)
      have HCK8 := hide_ hck; have HB8 := hide_ (ht.later HB7.out HCB7.out); have HCB8 := hide_ (HCB7.out.turn ht); have HX8 := hide_ ho8; have HM8 := hide_ hm8
      have hm8l : m8 ≤ 4096 := by have h := HPM.out.1; have h2 := congrArg List.length h; simp only [List.length_append] at h2; have := HPM.out.2.2.1; omega
      clear h hck ht ho8 hm8
      go_wp2_with fail
      refine (ckpass_any 1 HCK8.out (by omega)).mono ?_; rintro e w9 h
      obtain ⟨A9, m9, c9, rfl, hm9, ho9, hck, ht⟩ := pass_good h (by omega) (by omega)
      have HX9 := hide_ (own_ck HX8.out HCK8.out ht)
      have HCK9 := hide_ hck; have HB9 := hide_ (ht.later HB8.out HCB8.out); have HCB9 := hide_ (HCB8.out.turn ht); have HY9 := hide_ ho9; have HM9 := hide_ hm9
      have hm9l : m9 ≤ 4096 := by have h := HPM.out.1; have h2 := congrArg List.length h; simp only [List.length_append] at h2; have := HPM.out.2.2.1; omega
      clear h hck ht ho9 hm9
      go_wp2_with fail
      refine (ckpass_any 70000 HCK9.out (by omega)).mono ?_; rintro e w10 h
      obtain ⟨A10, m10, c10, rfl, hm10, ho10, hck, ht⟩ := pass_good h (by omega) (by omega)
      have HX10 := hide_ (own_ck HX9.out HCK9.out ht); have HY10 := hide_ (own_ck HY9.out HCK9.out ht)
      have HB10 := hide_ (ht.later HB9.out HCB9.out); have HZ10 := hide_ ho10; have HM10 := hide_ hm10
      have hm10l : m10 ≤ 4096 := by have h := HPM.out.1; have h2 := congrArg List.length h; simp only [List.length_append] at h2; have := HPM.out.2.2.1; omega
      have HO0 := hide_ (show (w10.alloc (.cells #[] 3)).ownsRow w10.heap.size 3 1 (.slice (some ⟨w10.heap.size, 0, none⟩) 0 0) 0 [] from own_new w10 #[] 3 1 0 w10.heap.size rfl (Nat.zero_le _) (Nat.le_refl _))
      have p1 : (0 + m8) * 8 ≤ 140737488355328 := by omega
      have p2 : 0 + m8 ≤ maxLen := by unfold maxLen; omega
      have p3 : w10.heap.size ≤ (w10.alloc (.cells #[] 3)).heap.size := by simp
      have p4 : (0 + m8 + m9) * 8 ≤ 140737488355328 := by omega
      have p5 : 0 + m8 + m9 ≤ maxLen := by unfold maxLen; omega
      have p7 : (0 + m8 + m9 + m10) * 8 ≤ 140737488355328 := by omega
      have p8 : 0 + m8 + m9 + m10 ≤ maxLen := by unfold maxLen; omega
      clear h hck ht ho10 hm10
      go_wp2_with (first | (at_builtin; go_loud (refine wpList_append_rd _ rfl (.tmp 89) (.tmp 90) 30 rfl w10.heap.size 3 1 8 intT _ 0 [] rfl HO0.out _ m8 c8 _ rfl ((Rd.of_own HX10.out).alloc _) (ints_one _) p1 p2 p3 (own_cap2 HX10.out).1 ?_; intro v11 w11 hown11 hg11 hat11; have HL11 := hide_ (own_grown (Below.alloc (Below.refl _ _) (Nat.le_refl _) _) HO0.out hg11 p3); have HO11 := hide_ hown11; have p6 := HL11.out.size; clear hown11 hg11 hat11)) | (at_builtin; go_loud (refine wpList_append_rd _ rfl (.tmp 91) (.tmp 92) 30 rfl w10.heap.size 3 1 8 intT _ _ _ rfl HO11.out _ m9 c9 _ rfl (Rd.of_own (own_below HY10.out HL11.out)) (ints_one _) p4 p5 p6 (own_cap2 HY10.out).1 ?_; intro v12 w12 hown12 hg12 hat12; have HL12 := hide_ (own_grown HL11.out HO11.out hg12 p6); have HO12 := hide_ hown12; have p9 := HL12.out.size; clear hown12 hg12 hat12)) | (at_builtin; go_loud (refine wpList_append_rd _ rfl (.tmp 93) (.tmp 94) 30 rfl w10.heap.size 3 1 8 intT _ _ _ rfl HO12.out _ m10 c10 _ rfl (Rd.of_own (own_below HZ10.out HL12.out)) (ints_one _) p7 p8 p9 (own_cap2 HZ10.out).1 ?_; intro v13 w13 hown13 hg13 hat13; have HL13 := hide_ (own_grown HL12.out HO12.out hg13 p9); have HO13 := hide_ hown13; clear hown13 hg13 hat13; obtain ⟨A13, c13, rfl⟩ := own_form HO13.out)))
      have hall : ([] : List Value) ++ ints ((dueB (0 + b) L4).map (·.1)) ++ ints ((dueB (0 + b + 1) (restB (0 + b) L4)).map (·.1)) ++ ints ((dueB (0 + b + 1 + 70000) (restB (0 + b + 1) (restB (0 + b) L4))).map (·.1)) = ints (L4.map (·.1)) := by
        conv => rhs; rw [← HPM.out.1]
        simp [ints_append]
      obtain ⟨N, hN⟩ : ∃ N, N = m8 + m9 + m10 := ⟨_, rfl⟩
      have hNl : N = cnt + 1 := by have h2 := congrArg List.length HPM.out.1; simp only [List.length_append] at h2; have := HPM.out.2.2.1; have := HM8.out; have := HM9.out; have := HM10.out; omega
      have ho13 := HO13.out
      rw [hall] at ho13
      rw [show 0 + m8 + m9 + m10 = m8 + m9 + m10 by omega, ← hN] at ho13
      rw [← hN]
      have HRD := hide_ (Rd.of_own ho13)
      have HRX := hide_ (Rd.of_own (own_below HX10.out HL13.out))
      have HB13 := hide_ (HB10.out.trans HL13.out)
      have HNL := hide_ hNl
      have hN2 : (N : Int) ≤ 2 := by omega
      have hm8i : (m8 : Int) ≤ 4096 := by omega
      clear HO13 HO12 HO11 HO0 hall ho13 hN hNl p1 p2 p3 p4 p5 p6 p7 p8 p9
      go_loop [17, 18, 19] (fun s17 s18 s19 => ∃ k p q : Nat, k ≤ N ∧ s19 = .int .i64 k ∧ s17 = .int .i64 p ∧ s18 = .int .i64 q ∧ p + q = k ∧ Hid (p = cntI bl ((L4.map (·.1)).take k))) (fun _ _ s19 => N - (intOf s19).toNat)
      case atStart => exact ⟨0, 0, 0, by omega, rfl, rfl, rfl, rfl, hide_ rfl⟩
      case round =>
        obtain ⟨k, p, q, hk, rfl, rfl, rfl, hpq, HP⟩ := hrel
        have r2 : (k : Int) ≤ 4096 := by omega
        have r3 : (0 : Int) ≤ (k : Int) := by omega
        have r4 : (p : Int) ≤ 4096 := by omega
        have r5 : (q : Int) ≤ 4096 := by omega
        have r6 : (0 : Int) ≤ (p : Int) := by omega
        have r7 : (0 : Int) ≤ (q : Int) := by omega
        by_cases hlt : k < N
        · have r1 : (k : Int) < (N : Int) := by omega
          obtain ⟨x, hx⟩ : ∃ x, (L4.map (·.1))[k]? = some x := ⟨_, List.getElem?_eq_getElem (by rw [List.length_map, HPM.out.2.2.1, ← HNL.out]; exact hlt)⟩
          obtain ⟨bb, oo, hA, hcl2⟩ := HRD.out.2 (by simp [ints]; have := HPM.out.2.2.1; omega)
          subst hA
          have c0 : w13.cell? ⟨bb, oo + k, none⟩ = some (.int .i64 x) := hcl2 k _ (by simp only [ints, List.getElem?_map]; rw [List.getElem?_map] at hx; rw [hx]; rfl)
          have c1' : w13.cell? ⟨bb, oo + k * 1, none⟩ = some (.int .i64 x) := by rw [Nat.mul_one]; exact c0
          by_cases hxb : x = bl
          · have HS := hide_ (cntI_yes hx hxb)
            have q1 : (x == bl) = true := by simpa using hxb
            clear hx hcl2 hxb
            go_wp2_with fail
            go_round
            case rel => exact ⟨k + 1, p + 1, q, by omega, by go_num, by go_num, rfl, by omega, hide_ (by rw [HS.out, ← HP.out])⟩
            case measure => simp [intOf]; omega
          · have HS := hide_ (cntI_no hx hxb)
            have q1 : (x == bl) = false := by simpa using hxb
            clear hx hcl2 hxb
            go_wp2_with fail
            go_round
            case rel => exact ⟨k + 1, p, q + 1, by omega, by go_num, rfl, by go_num, by omega, hide_ (by rw [HS.out, ← HP.out])⟩
            case measure => simp [intOf]; omega
        · have r1 : ¬ (k : Int) < (N : Int) := by omega
          obtain rfl : k = N := by omega
          have hpc : p = cnt := by
            rw [HP.out, List.take_of_length_le (by rw [List.length_map, HPM.out.2.2.1]; have := HNL.out; omega), cntI_map, HPM.out.2.1]
          have hq1 : q = 1 := by have := HNL.out; omega
          have hcv := HCN.out
          clear HP r2 r3 r4 r5 r6 r7 r1 hk hlt
          rw [hcv] at hpc
          subst hpc
          subst hq1
          go_wp2_with fail
          go_loop [20] (fun s20 => ∃ j : Nat, j ≤ m8 ∧ s20 = .int .i64 j) (fun s20 => m8 - (intOf s20).toNat)
          case atStart => exact ⟨0, by omega, rfl⟩
          case round =>
            obtain ⟨j, hj, rfl⟩ := hrel
            have r2 : (j : Int) ≤ 4096 := by omega
            have r3 : (0 : Int) ≤ (j : Int) := by omega
            by_cases hlt : j < m8
            · have r1 : (j : Int) < (m8 : Int) := by omega
              obtain ⟨x, hx⟩ : ∃ x, (dueB (0 + b) L4)[j]? = some x := ⟨_, List.getElem?_eq_getElem (by rw [HM8.out]; exact hlt)⟩
              obtain ⟨bb, oo, hA, hcl2⟩ := HRX.out.2 (by rw [ints, List.length_map, List.length_map, HM8.out]; omega)
              subst hA
              have c0 : w13.cell? ⟨bb, oo + j, none⟩ = some (.int .i64 x.1) := hcl2 j _ (by simp only [ints, List.getElem?_map]; rw [hx]; rfl)
              have c1' : w13.cell? ⟨bb, oo + j * 1, none⟩ = some (.int .i64 x.1) := by rw [Nat.mul_one]; exact c0
              have hne : x.1 ≠ bl := fun e => by
                have hmem := List.mem_of_getElem? hx
                have h1 := List.all_eq_true.1 (List.all_takeWhile (l := L4) (p := fun x : Bel => decide (x.2 ≤ 0 + b))) x hmem
                have h2 := (HPM.out.2.2.2 x ((List.takeWhile_sublist _).subset hmem)).1 e
                simp at h1; omega
              have q1 : (x.1 == bl) = false := by simpa using hne
              clear hx hcl2 hne
              go_wp2_with fail
              go_round
              case rel => exact ⟨j + 1, by omega, by go_num⟩
              case measure => simp [intOf]; omega
            · have r1 : ¬ (j : Int) < (m8 : Int) := by omega
              go_wp2_with fail
              go_ret
              exact ⟨rfl, HB13.out⟩
    · exact absurd hxb (HNO.out x hx)
set_option maxRecDepth 20000 in
theorem clockAgain_contract (H : Type) (enc : TypeId × Value → H) (W : World) (base : Nat) (args : Array Value) (ds : List (DataW H)) (before : List MemPlace)
    (hval : ∀ (j : Nat) t v, Try.f6.params[j]? = some t → args[j]? = some v → Value.okWide Try.prog W .any base t v)
    (hA : DataW.TrodAll enc Try.prog W 0 (fun _ => true) true Try.f6.params.toList args.toList ds before)
    (_hsz : (DataW.weightsEach Try.prog (Try.f6.params.toList ++ Rows.clockAgainSpec.plain.varTypes Try.prog) (ds ++ [])).all (· ≤ reachBytes) = true) :
    Calls Try.prog 6 args W fun e W' => e = .returned (.bool true) ∧ Below W.heap.size W W' := by
  rw [Try.params6] at hA hval
  obtain ⟨v0, vs0, d0, ds0, p0, q0, hargs, rfl, rfl, h0, r0⟩ := trodAll_cons hA
  obtain ⟨v1, vs1, d1, ds1, p1, q1, rfl, rfl, rfl, h1, r1⟩ := trodAll_cons r0
  obtain ⟨v2, vs2, d2, ds2, p2, q2, rfl, rfl, rfl, h2, r2⟩ := trodAll_cons r1
  obtain ⟨v3, vs3, d3, ds3, p3, q3, rfl, rfl, rfl, h3, r3⟩ := trodAll_cons r2
  obtain ⟨rfl, rfl, rfl⟩ := trodAll_nil r3
  obtain rfl : args = #[v0, v1, v2, v3] := by cases args; simp_all
  obtain ⟨a, rfl, rfl, rfl, w1⟩ := open_int Try.underlying28 (hval 0 28 v0 rfl rfl) h0
  obtain ⟨b, rfl, rfl, rfl, w2⟩ := open_int Try.underlying28 (hval 1 28 v1 rfl rfl) h1
  obtain ⟨c, rfl, rfl, rfl, w3⟩ := open_int Try.underlying5 (hval 2 5 v2 rfl rfl) h2
  obtain ⟨x, rfl, rfl, rfl⟩ := open_bool Try.underlying4 (hval 3 4 v3 rfl rfl) h3
  exact clockAgain_walk a b c x (by simpa [Lit.wf, IntKind.min, IntKind.max, IntKind.signed, IntKind.bits] using w1) (by simpa [Lit.wf, IntKind.min, IntKind.max, IntKind.signed, IntKind.bits] using w2) (by simpa [Lit.wf, IntKind.min, IntKind.max, IntKind.signed, IntKind.bits] using w3) W

set_option maxRecDepth 100000 in
theorem clockAgain_lifted (os : Os) (started : os.Started) (H : Type) (enc : TypeId × Value → H) :
    ReturnsInHanded {} Try.checked os 6 .any (Rows.clockAgainSpec.pre6 enc Try.prog Try.f6 Rows.clockAgainRow.domain false) (Rows.clockAgainSpec.post enc Try.prog Try.f6 false true false false) := by
  refine returnsInHanded_of_change_sized (C := Try.checked) own started (by kernel_rfl) Try.func6
    (ChangeSpec.witness6 (enc := enc) (C := Try.checked) false ⟨#[], #[.int .u16 0, .int .u16 0, .int .u8 0, .bool false], []⟩ 8 (by kernel_rfl) (by kernel_rfl) (by kernel_rfl) (by kernel_rfl)) ?_
  intro W base args ds gs before hval hW _ hsz _
  have hW' := hW
  obtain ⟨p, q, hA0, hV, rfl, hfz, hnd⟩ := hW
  obtain ⟨rfl, rfl⟩ := trodVars_none hV
  have hA : DataW.TrodAll enc Try.prog W 0 (fun _ => true) true Try.f6.params.toList args.toList ds p := hA0
  refine (clockAgain_contract H enc W base args ds p hval hA hsz).mono fun e W' ⟨he, hb⟩ => ?_
  subst he
  have hds : ds.length = 4 := by
    rw [Try.params6] at hA
    obtain ⟨v0, vs0, d0, ds0, p0, q0, _, rfl, rfl, _, r0⟩ := trodAll_cons hA
    obtain ⟨v1, vs1, d1, ds1, p1, q1, _, rfl, rfl, _, r1⟩ := trodAll_cons r0
    obtain ⟨v2, vs2, d2, ds2, p2, q2, _, rfl, rfl, _, r2⟩ := trodAll_cons r1
    obtain ⟨v3, vs3, d3, ds3, p3, q3, _, rfl, rfl, _, r3⟩ := trodAll_cons r2
    obtain ⟨_, rfl, rfl⟩ := trodAll_nil r3
    rfl
  have hsh : ∃ d0 d1 d2 d3 : DataW H, ds = [d0, d1, d2, d3] := by
    match ds, hds with
    | [d0, d1, d2, d3], _ => exact ⟨d0, d1, d2, d3, rfl⟩
  obtain ⟨d0, d1, d2, d3, rfl⟩ := hsh
  exact ⟨_, rfl, post_law (s := Rows.clockAgainSpec) laidOut (by kernel_rfl) Try.underlying4 rfl (by kernel_rfl) hW' rfl rfl rfl hb⟩
theorem clockAgain_over : Rows.clockAgainRow.holds Try.pinned (OpenSpec.ofChange Rows.clockAgainSpec) :=
  OpenClaim.holds_of_wide 6 Try.f6 rfl rfl rfl rfl rfl rfl rfl ⟨rfl, rfl, rfl, rfl, rfl⟩ rfl rfl rfl rfl rfl (by kernel_rfl) Try.func6 (by kernel_rfl)
    (of_decide_eq_true (by kernel_rfl)) (by unfold Func.isWrapper; first | (rw [if_pos (by decide +kernel)]; kernel_rfl) | (rw [if_neg (by decide +kernel)]; exact ⟨rfl, rfl⟩))
    (fun os started H enc _ => clockAgain_lifted os started H enc)
/-- The statement. -/
theorem clockAgain_holds : Rows.ClockAgainSaid := clockAgain_over
end Go.Proofs.Ytinfeajbnhkkiaa
