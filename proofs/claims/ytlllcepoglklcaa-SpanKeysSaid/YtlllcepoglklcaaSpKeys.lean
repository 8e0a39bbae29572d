/-
  SpanKeys: for any span, any others and any key: the key is in the join just if it is in one of them, in what is left just if it is in the span and in none of them; joined spans do not touch; it writes nothing that was there.
  Conditions: none but the row's own.
-/
import Derived.Test.YtlllcepoglklcaaSpOrder
namespace Go.Proofs.Ytlllcepoglklcaa
open Go.ChangeShapes Go.WideShapes Go.ChangeAt Go.RowKit
open Go.ChangeMaps (open_string)
set_option linter.unusedVariables false
set_option linter.unusedSimpArgs false
/-- How many of the first k have the key: none or one. -/
def Cnt (L : List Spn) (k : Nat) (x : ByteArray) (a : Nat) : Prop := (a = 1 ∧ InL (L.take k) x) ∨ (a = 0 ∧ ¬ InL (L.take k) x)
theorem cnt_zero (L : List Spn) (x : ByteArray) : Cnt L 0 x 0 := .inr ⟨rfl, by simpa using InL.nil⟩
theorem cnt_yes {L : List Spn} {k : Nat} {x : ByteArray} {s : Spn} (hs : L[k]? = some s) (hin : InS s x) : Cnt L (k + 1) x 1 := .inl ⟨rfl, by rw [take_next hs, inl_snoc]; exact .inr hin⟩
theorem cnt_no {L : List Spn} {k a : Nat} {x : ByteArray} {s : Spn} (hs : L[k]? = some s) (hin : ¬ InS s x) (h : Cnt L k x a) : Cnt L (k + 1) x a := by
  unfold Cnt
  rw [take_next hs, inl_snoc]
  rcases h with ⟨h1, h2⟩ | ⟨h1, h2⟩
  · exact .inl ⟨h1, .inl h2⟩
  · exact .inr ⟨h1, fun h3 => by rcases h3 with h3 | h3; exact h2 h3; exact hin h3⟩
theorem canon_at {L : List Spn} (h : Canon L) {i j : Nat} {s t : Spn} (hi : L[i]? = some s) (hj : L[j]? = some t) (hij : i < j) : s.2 < t.1 := by
  induction L generalizing i j with
  | nil => simp at hi
  | cons a L ih =>
    obtain ⟨j', rfl⟩ : ∃ j', j = j' + 1 := ⟨j - 1, by omega⟩
    cases i with
    | zero =>
      simp at hi
      subst hi
      exact h.2.1 t (List.mem_of_getElem? (by simpa using hj))
    | succ i => exact ih h.2.2 (by simpa using hi) (by simpa using hj) (by omega)
theorem cnt_add {L : List Spn} (h : Canon L) {k a : Nat} {x : ByteArray} {s : Spn} (hs : L[k]? = some s) (hin : InS s x) (hc : Cnt L k x a) : a = 0 := by
  rcases hc with ⟨_, t, ht, hx⟩ | ⟨h1, _⟩
  · obtain ⟨i, hi⟩ := List.getElem?_of_mem ht
    rw [List.getElem?_take] at hi
    split at hi
    · rename_i hik
      have := canon_at h hi hs hik
      have := hx.2
      have := hin.1
      grind
    · cases hi
  · exact h1
theorem cnt_all {L : List Spn} {x : ByteArray} {a n : Nat} (h : Cnt L n x a) (hl : L.length = n) : (a = 1 ∧ InL L x) ∨ (a = 0 ∧ ¬ InL L x) := by
  unfold Cnt at h
  rwa [← hl, List.take_length] at h
set_option maxHeartbeats 4000000 in
theorem spanKeys_tail (s : Spn) (x : ByteArray) (A : Option Addr) (m c : Nat) (M : List Spn) (w : World) (hm : m ≤ 200) (hr : Rd w 2 A m (srow M)) (hA : A = none → m = 0) (hl : M.length = m) (hnc : m ≤ c) :
    Calls Try.prog 9 #[.agg #[.string s.1, .string s.2], .slice A m c, .string x] w fun e w' => e = .returned (.bool true) ∧ Below w.heap.size w w' := by
  have q1 : ¬ (200 : Int) < (m : Int) := by omega
  have hmi : (m : Int) ≤ 200 := by omega
  --BODY
  have hJ := hide_ (fun w1 (hb : Below w.heap.size w w1) => join_b (w := w1) (c := c) (hr.below hb) hA hl (by omega))
  have hWo := hide_ (fun w1 (hb : Below w.heap.size w w1) => without_any (w := w1) (c := c) s (hr.below hb) hA hl (by omega))
  have HR := hide_ hr
  have HL := hide_ hl
  obtain ⟨W0, hW0⟩ : ∃ W0, W0 = w.alloc (.cells #[.string s.1, .string s.2] 23) := ⟨_, rfl⟩
  have b1 : W0.cell? ⟨w.heap.size, 0, none⟩ = some (.string s.1) := by rw [hW0]; exact cell_of_row _ _ 0 _ _ (0, 0) (heap_alloc_new w _)
  have b2 : W0.cell? ⟨w.heap.size, 1, none⟩ = some (.string s.2) := by rw [hW0]; exact cell_of_row _ _ 1 _ _ (0, 0) (heap_alloc_new w _)
  have HB := hide_ (show Below w.heap.size w W0.drew by rw [hW0]; exact ((Below.refl _ _).alloc (Nat.le_refl _) _).drew)
  have HBX1 := hide_ (later_drew_cell b1)
  have HBX2 := hide_ (later_drew_cell b2)
  have lc1 := later_drew_cell b1
  have lc2 := later_drew_cell b2
  have H0 := hide_ hW0.symm
  have HL0 := hide_ (Later.refl W0.drew)
  clear hW0 b1 b2 hr hA hl
  go_enter Try.func9, Try.ntmps9
  go_wp2_with fail
  rw [H0.out]
  clear H0
  refine wp_region_k (by kernel_rfl) ?_
  refine wpAnyK_take 0 (v := ?_) rfl (by kernel_rfl) (by kernel_rfl) (by kernel_rfl) (fun _ _ _ h => h) (by rfl) (by intro W hSw; go_simp; with_reducible rfl) ?_; try simp only [Act.put, List.setIfInBounds_toArray, List.set_cons_zero, List.set_cons_succ]
  refine wpAnyK_take 2 (v := ?_) rfl (by kernel_rfl) (by kernel_rfl) (by kernel_rfl) (fun _ _ _ h => h) (by rfl) (by intro W hSw; go_simp; with_reducible rfl) ?_; try simp only [Act.put, List.setIfInBounds_toArray, List.set_cons_zero, List.set_cons_succ]
  refine wpAnyK_take 3 (v := ?_) rfl (by kernel_rfl) (by kernel_rfl) (by kernel_rfl) (fun _ _ _ h => h) (by rfl) (by intro W hSw; go_simp; with_reducible rfl) ?_; try simp only [Act.put, List.setIfInBounds_toArray, List.set_cons_zero, List.set_cons_succ]
  refine wpAnyK_one 1 (by kernel_rfl) rfl (fun K hK => ?_)
  go_simp
  (with_reducible refine (hJ.out _ HB.out).mono ?_); rintro e w2 ⟨⟨A1, R, q, rfl, hq, hR2, hA1, hqm, hc2, hk2⟩, hb2⟩; have lc1 := later_step lc1 hb2; have lc2 := later_step lc2 hb2; have HB := hide_ (below_step HB.out hb2); have HL0 := hide_ (Later.trans HL0.out hb2); have HR2 := hide_ hR2; have HC2 := hide_ hc2; have HK2 := hide_ hk2; have HQ := hide_ hq; have hqm2 := hqm; clear hc2 hk2 hR2 hq hA1 hqm
  refine hK.out _ _ (by assumption) ?_
  clear hK K; try simp only [Act.put, List.setIfInBounds_toArray, List.set_cons_zero, List.set_cons_succ]
  refine wpAnyK_one 4 (by kernel_rfl) rfl (fun K hK => ?_)
  go_simp
  (with_reducible refine (hWo.out _ HB.out).mono ?_); rintro e w3 ⟨⟨v3, N, rfl, ho3, hn3, hc3, hk3⟩, hb3⟩; obtain ⟨p, hp⟩ : ∃ p, N.length = p := ⟨_, rfl⟩; rw [hp] at ho3 hn3; obtain ⟨A3, c3, rfl⟩ := own_form ho3; have HB := hide_ (below_step HB.out hb3); have HL0 := hide_ (Later.trans HL0.out hb3); have HR2 := hide_ (HR2.out.below hb3); have HO3 := hide_ (Rd.of_own ho3); have HC3 := hide_ hc3; have HK3 := hide_ hk3; have HPN := hide_ hp; clear hc3 hk3 ho3 hp
  refine hK.out _ _ (by assumption) ?_
  clear hK K; try simp only [Act.put, List.setIfInBounds_toArray, List.set_cons_zero, List.set_cons_succ]
  refine wpAnyK_take 5 (v := ?_) rfl (by kernel_rfl) (by kernel_rfl) (by kernel_rfl) (fun _ _ _ h => h) (by rfl) (by intro W hSw; go_simp; with_reducible rfl) ?_; try simp only [Act.put, List.setIfInBounds_toArray, List.set_cons_zero, List.set_cons_succ]
  refine wpAnyK_take 6 (v := ?_) rfl (by kernel_rfl) (by kernel_rfl) (by kernel_rfl) (fun _ _ _ h => h) (by rfl) (by intro W hSw; go_simp; with_reducible rfl) ?_; try simp only [Act.put, List.setIfInBounds_toArray, List.set_cons_zero, List.set_cons_succ]
  refine wpAnyK_done (by kernel_rfl) ?_ _
  go_wp2_with fail
  have HM0 := hide_ (HR.out.below HB.out)
  go_loopw [9, 12] (fun s9 s12 wr => ∃ k a : Nat, k ≤ m ∧ s12 = .int .i64 k ∧ s9 = .int .i64 a ∧ Hid (Cnt M k x a) ∧ Hid (Later w3 wr)) (fun _ i _ => m - (intOf i).toNat)
  case atStart => exact ⟨0, 0, Nat.zero_le _, rfl, rfl, cnt_zero M x, Later.refl w3⟩
  case round =>
    obtain ⟨k, a, hk, rfl, rfl, HC, HV⟩ := hrel
    have r2 : (k : Int) ≤ 200 := by omega
    have r3 : (0 : Int) ≤ (k : Int) := by omega
    by_cases hlt : k < m
    · have r1 : (k : Int) < (m : Int) := by omega
      obtain ⟨g, hg⟩ : ∃ g, M[k]? = some g := ⟨_, List.getElem?_eq_getElem (by rw [HL.out]; exact hlt)⟩
      have HG := hide_ hg
      obtain ⟨b, o, rfl, l1, l2⟩ := (HM0.out.below HV.out).span hg
      clear hg
      by_cases hin : InS g x
      · have hh := fun W => has_b g x true (by simp [hin]) W
        have HIN := hide_ hin
        clear hin
        go_wp2_with (go_at_call 12; refine (hh _).mono ?_; rintro e w4 ⟨rfl, hb4⟩; have HV4 := hide_ (Later.trans HV.out hb4); clear hb4)
        go_roundw
        case rel => exact ⟨k + 1, 1, by omega, by go_num, rfl, cnt_yes HG.out HIN.out, HV4.out⟩
        case measure => simp [intOf]; omega
      · have hh := fun W => has_b g x false (by simp [hin]) W
        have HIN := hide_ hin
        clear hin
        go_wp2_with (go_at_call 12; refine (hh _).mono ?_; rintro e w4 ⟨rfl, hb4⟩; have HV4 := hide_ (Later.trans HV.out hb4); clear hb4)
        go_roundw
        case rel => exact ⟨k + 1, a, by omega, by go_num, rfl, cnt_no HG.out HIN.out HC.out, HV4.out⟩
        case measure => simp [intOf]; omega
    · have HCM := hide_ (cnt_all (show Cnt M m x a by have := HC.out; rwa [show k = m from by omega] at this) HL.out)
      obtain ⟨wA, rfl⟩ : ∃ wA : World, wA = wr := ⟨_, rfl⟩
      go_wp2_with fail
      go_loopw [10, 13] (fun s10 s13 wr => ∃ k b : Nat, k ≤ q ∧ s13 = .int .i64 k ∧ s10 = .int .i64 b ∧ Hid (Cnt R k x b) ∧ Hid (Later w3 wr)) (fun _ i _ => q - (intOf i).toNat)
      case atStart => exact ⟨0, 0, Nat.zero_le _, rfl, rfl, cnt_zero R x, HV.out⟩
      case round =>
        obtain ⟨k2, b2, hk2, rfl, rfl, HC4, HV2⟩ := hrel
        have hq2 : q ≤ 200 := by omega
        have r4 : (k2 : Int) ≤ 200 := by omega
        have r5 : (0 : Int) ≤ (k2 : Int) := by omega
        by_cases hlt2 : k2 < q
        · have r6 : (k2 : Int) < (q : Int) := by omega
          obtain ⟨g, hg⟩ : ∃ g, R[k2]? = some g := ⟨_, List.getElem?_eq_getElem (by rw [HQ.out]; exact hlt2)⟩
          obtain ⟨b, o, rfl, l1, l2⟩ := (HR2.out.below HV2.out).span hg
          have HG := hide_ hg
          have hne := HC2.out.mem g (List.mem_of_getElem? hg)
          have HEM := hide_ (fun W => (by have := empty_b g W; rwa [decide_eq_false (by grind)] at this : Calls Try.prog 14 #[.agg #[.string g.1, .string g.2]] W fun e w' => e = .returned (.bool false) ∧ Later W w'))
          have HPV := hide_ (fun (t : Spn) (j : Nat) (h : j + 1 = k2) (ht : R[j]? = some t) => canon_at HC2.out ht hg (by omega))
          clear hg hne
          by_cases hin : InS g x
          · have hh := fun W => has_b g x true (by simp [hin]) W
            have HIN := hide_ hin
            clear hin
            obtain rfl : b2 = 0 := cnt_add HC2.out HG.out HIN.out HC4.out
            go_wp2_with fail
            refine (hh _).mono ?_; rintro e w5 ⟨rfl, hb5⟩
            have HV5 := hide_ (Later.trans HV2.out hb5)
            have l1 := (hb5.cell (p := ⟨b, o + k2 * 2, none⟩) (cell_lt l1)).trans l1
            have l2 := (hb5.cell (p := ⟨b, o + k2 * 2 + 1, none⟩) (cell_lt l2)).trans l2
            have lc1 := later_drew_cell l1
            have lc2 := later_drew_cell l2
            have HV5d := hide_ (show Later w3 w5.drew from Below.drew HV5.out)
            clear hb5 hh l1 l2
            rcases Nat.eq_zero_or_pos k2 with hk0 | hk0
            · subst hk0
              simp only [Nat.zero_mul, Nat.add_zero] at lc1 lc2
              go_wp2_with fail
              refine wp_region_k (by kernel_rfl) ?_
              refine wpAnyK_take 0 (v := ?_) rfl (by kernel_rfl) (by kernel_rfl) (by kernel_rfl) (fun _ _ _ h => h) (by rfl) (by intro W hSw; go_simp; with_reducible rfl) ?_; try simp only [Act.put, List.setIfInBounds_toArray, List.set_cons_zero, List.set_cons_succ]
              refine wpAnyK_take 1 (v := ?_) rfl (by kernel_rfl) (by kernel_rfl) (by kernel_rfl) (fun _ _ _ h => h) (by rfl) (by intro W hSw; go_simp; with_reducible rfl) ?_; try simp only [Act.put, List.setIfInBounds_toArray, List.set_cons_zero, List.set_cons_succ]
              refine wpAnyK_take 2 (v := ?_) rfl (by kernel_rfl) (by kernel_rfl) (by kernel_rfl) (fun _ _ _ h => h) (by rfl) (by intro W hSw; go_simp; with_reducible rfl) ?_; try simp only [Act.put, List.setIfInBounds_toArray, List.set_cons_zero, List.set_cons_succ]
              refine wpAnyK_take 3 (v := ?_) rfl (by kernel_rfl) (by kernel_rfl) (by kernel_rfl) (fun _ _ _ h => h) (by rfl) (by intro W hSw; go_simp; with_reducible rfl) ?_; try simp only [Act.put, List.setIfInBounds_toArray, List.set_cons_zero, List.set_cons_succ]
              refine wpAnyK_one 4 (by kernel_rfl) rfl (fun K hK => ?_)
              go_simp
              refine (HEM.out _).mono ?_; rintro e w6 ⟨rfl, hb6⟩; have lc1 := later_step lc1 hb6; have lc2 := later_step lc2 hb6; have HV6 := hide_ (Later.trans HV5d.out hb6)
              refine hK.out _ _ (by assumption) ?_
              clear hK K; try simp only [Act.put, List.setIfInBounds_toArray, List.set_cons_zero, List.set_cons_succ]
              refine wpAnyK_take 5 (v := ?_) rfl (by kernel_rfl) (by kernel_rfl) (by kernel_rfl) (fun _ _ _ h => h) (by rfl) (by intro W hSw; go_simp; with_reducible rfl) ?_; try simp only [Act.put, List.setIfInBounds_toArray, List.set_cons_zero, List.set_cons_succ]
              refine wpAnyK_take 6 (v := ?_) rfl (by kernel_rfl) (by kernel_rfl) (by kernel_rfl) (fun _ _ _ h => h) (by rfl) (by intro W hSw; go_simp; with_reducible rfl) ?_; try simp only [Act.put, List.setIfInBounds_toArray, List.set_cons_zero, List.set_cons_succ]
              refine wpAnyK_take 7 (v := ?_) rfl (by kernel_rfl) (by kernel_rfl) (by kernel_rfl) (fun _ _ _ h => h) (by rfl) (by intro W hSw; go_simp; with_reducible rfl) ?_; try simp only [Act.put, List.setIfInBounds_toArray, List.set_cons_zero, List.set_cons_succ]
              refine wpAnyK_take 8 (v := ?_) rfl (by kernel_rfl) (by kernel_rfl) (by kernel_rfl) (fun _ _ _ h => h) (by rfl) (by intro W hSw; go_simp; with_reducible rfl) ?_; try simp only [Act.put, List.setIfInBounds_toArray, List.set_cons_zero, List.set_cons_succ]
              refine wpAnyK_skip 9 rfl (by kernel_rfl) (by kernel_rfl) (by kernel_rfl) (fun _ _ _ h => h) (by rfl) ?_; try simp only [Act.put, List.setIfInBounds_toArray, List.set_cons_zero, List.set_cons_succ]
              refine wpAnyK_skip 10 rfl (by kernel_rfl) (by kernel_rfl) (by kernel_rfl) (fun _ _ _ h => h) (by rfl) ?_; try simp only [Act.put, List.setIfInBounds_toArray, List.set_cons_zero, List.set_cons_succ]
              refine wpAnyK_skip 11 rfl (by kernel_rfl) (by kernel_rfl) (by kernel_rfl) (fun _ _ _ h => h) (by rfl) ?_; try simp only [Act.put, List.setIfInBounds_toArray, List.set_cons_zero, List.set_cons_succ]
              refine wpAnyK_skip 12 rfl (by kernel_rfl) (by kernel_rfl) (by kernel_rfl) (fun _ _ _ h => h) (by rfl) ?_; try simp only [Act.put, List.setIfInBounds_toArray, List.set_cons_zero, List.set_cons_succ]
              refine wpAnyK_skip 13 rfl (by kernel_rfl) (by kernel_rfl) (by kernel_rfl) (fun _ _ _ h => h) (by rfl) ?_; try simp only [Act.put, List.setIfInBounds_toArray, List.set_cons_zero, List.set_cons_succ]
              refine wpAnyK_skip 14 rfl (by kernel_rfl) (by kernel_rfl) (by kernel_rfl) (fun _ _ _ h => h) (by rfl) ?_; try simp only [Act.put, List.setIfInBounds_toArray, List.set_cons_zero, List.set_cons_succ]
              refine wpAnyK_skip 15 rfl (by kernel_rfl) (by kernel_rfl) (by kernel_rfl) (fun _ _ _ h => h) (by rfl) ?_; try simp only [Act.put, List.setIfInBounds_toArray, List.set_cons_zero, List.set_cons_succ]
              refine wpAnyK_skip 16 rfl (by kernel_rfl) (by kernel_rfl) (by kernel_rfl) (fun _ _ _ h => h) (by rfl) ?_; try simp only [Act.put, List.setIfInBounds_toArray, List.set_cons_zero, List.set_cons_succ]
              refine wpAnyK_skip 17 rfl (by kernel_rfl) (by kernel_rfl) (by kernel_rfl) (fun _ _ _ h => h) (by rfl) ?_; try simp only [Act.put, List.setIfInBounds_toArray, List.set_cons_zero, List.set_cons_succ]
              refine wpAnyK_skip 18 rfl (by kernel_rfl) (by kernel_rfl) (by kernel_rfl) (fun _ _ _ h => h) (by rfl) ?_; try simp only [Act.put, List.setIfInBounds_toArray, List.set_cons_zero, List.set_cons_succ]
              refine wpAnyK_skip 19 rfl (by kernel_rfl) (by kernel_rfl) (by kernel_rfl) (fun _ _ _ h => h) (by rfl) ?_; try simp only [Act.put, List.setIfInBounds_toArray, List.set_cons_zero, List.set_cons_succ]
              refine wpAnyK_skip 20 rfl (by kernel_rfl) (by kernel_rfl) (by kernel_rfl) (fun _ _ _ h => h) (by rfl) ?_; try simp only [Act.put, List.setIfInBounds_toArray, List.set_cons_zero, List.set_cons_succ]
              refine wpAnyK_take 21 (v := ?_) rfl (by kernel_rfl) (by kernel_rfl) (by kernel_rfl) (fun _ _ _ h => h) (by rfl) (by intro W hSw; go_simp; with_reducible rfl) ?_; try simp only [Act.put, List.setIfInBounds_toArray, List.set_cons_zero, List.set_cons_succ]
              refine wpAnyK_take 22 (v := ?_) rfl (by kernel_rfl) (by kernel_rfl) (by kernel_rfl) (fun _ _ _ h => h) (by rfl) (by intro W hSw; go_simp; with_reducible rfl) ?_; try simp only [Act.put, List.setIfInBounds_toArray, List.set_cons_zero, List.set_cons_succ]
              refine wpAnyK_done (by kernel_rfl) ?_ _
              go_wp2_with fail
              go_roundw
              case rel => exact ⟨1, 1, by omega, by go_num, rfl, cnt_yes HG.out HIN.out, HV6.out⟩
              case measure => simp [intOf]; omega
            · obtain ⟨j, rfl⟩ : ∃ j, k2 = j + 1 := ⟨k2 - 1, by omega⟩
              obtain ⟨t, ht⟩ : ∃ t, R[j]? = some t := ⟨_, List.getElem?_eq_getElem (by rw [HQ.out]; omega)⟩
              have hlt3 := HPV.out t j rfl ht
              obtain ⟨b', o', hbo, _, m2⟩ := (HR2.out.below HV5.out).span ht
              injection hbo with hbo
              injection hbo with h1 h2
              subst h1; subst h2
              have lc3 := later_drew_cell m2
              have t1 : (Op.bytesLess g.1.toList t.2.toList || g.1.toList == t.2.toList) = false := by rw [ble, decide_eq_false (by grind)]
              have jw : IntKind.i64.wrap (j : Int) = (j : Int) := IntWalk.i64_in _ (by omega)
              have j1 : (0 : Int) ≤ (j : Int) := by omega
              have j2 : (j : Int) < (q : Int) := by omega
              have j3 : j < q := by omega
              have j4 : (0 : Int) < (j : Int) + 1 := by omega
              have j5 : ((j : Int) + 1).toNat = j + 1 := by omega
              have j6 : (0 : Int) ≤ (j : Int) + 1 := by omega
              have j7 : (j : Int) + 1 < (q : Int) := by omega
              have jw2 : IntKind.i64.wrap ((j : Int) + 1) = (j : Int) + 1 := IntWalk.i64_in _ (by omega)
              clear ht hlt3 m2
              go_wp2_with fail
              refine wp_region_k (by kernel_rfl) ?_
              refine wpAnyK_take 0 (v := ?_) rfl (by kernel_rfl) (by kernel_rfl) (by kernel_rfl) (fun _ _ _ h => h) (by rfl) (by intro W hSw; go_simp; with_reducible rfl) ?_; try simp only [Act.put, List.setIfInBounds_toArray, List.set_cons_zero, List.set_cons_succ]
              refine wpAnyK_take 1 (v := ?_) rfl (by kernel_rfl) (by kernel_rfl) (by kernel_rfl) (fun _ _ _ h => h) (by rfl) (by intro W hSw; go_simp; with_reducible rfl) ?_; try simp only [Act.put, List.setIfInBounds_toArray, List.set_cons_zero, List.set_cons_succ]
              refine wpAnyK_take 2 (v := ?_) rfl (by kernel_rfl) (by kernel_rfl) (by kernel_rfl) (fun _ _ _ h => h) (by rfl) (by intro W hSw; go_simp; with_reducible rfl) ?_; try simp only [Act.put, List.setIfInBounds_toArray, List.set_cons_zero, List.set_cons_succ]
              refine wpAnyK_take 3 (v := ?_) rfl (by kernel_rfl) (by kernel_rfl) (by kernel_rfl) (fun _ _ _ h => h) (by rfl) (by intro W hSw; go_simp; with_reducible rfl) ?_; try simp only [Act.put, List.setIfInBounds_toArray, List.set_cons_zero, List.set_cons_succ]
              refine wpAnyK_one 4 (by kernel_rfl) rfl (fun K hK => ?_)
              go_simp
              refine (HEM.out _).mono ?_; rintro e w6 ⟨rfl, hb6⟩; have lc1 := later_step lc1 hb6; have lc2 := later_step lc2 hb6; have lc3 := later_step lc3 hb6; have HV6 := hide_ (Later.trans HV5d.out hb6)
              refine hK.out _ _ (by assumption) ?_
              clear hK K; try simp only [Act.put, List.setIfInBounds_toArray, List.set_cons_zero, List.set_cons_succ]
              refine wpAnyK_take 5 (v := ?_) rfl (by kernel_rfl) (by kernel_rfl) (by kernel_rfl) (fun _ _ _ h => h) (by rfl) (by intro W hSw; go_simp; with_reducible rfl) ?_; try simp only [Act.put, List.setIfInBounds_toArray, List.set_cons_zero, List.set_cons_succ]
              refine wpAnyK_take 6 (v := ?_) rfl (by kernel_rfl) (by kernel_rfl) (by kernel_rfl) (fun _ _ _ h => h) (by rfl) (by intro W hSw; go_simp; with_reducible rfl) ?_; try simp only [Act.put, List.setIfInBounds_toArray, List.set_cons_zero, List.set_cons_succ]
              refine wpAnyK_take 7 (v := ?_) rfl (by kernel_rfl) (by kernel_rfl) (by kernel_rfl) (fun _ _ _ h => h) (by rfl) (by intro W hSw; go_simp; with_reducible rfl) ?_; try simp only [Act.put, List.setIfInBounds_toArray, List.set_cons_zero, List.set_cons_succ]
              refine wpAnyK_take 8 (v := ?_) rfl (by kernel_rfl) (by kernel_rfl) (by kernel_rfl) (fun _ _ _ h => h) (by rfl) (by intro W hSw; go_simp; with_reducible rfl) ?_; try simp only [Act.put, List.setIfInBounds_toArray, List.set_cons_zero, List.set_cons_succ]
              refine wpAnyK_take 9 (v := ?_) rfl (by kernel_rfl) (by kernel_rfl) (by kernel_rfl) (fun _ _ _ h => h) (by rfl) (by intro W hSw; go_simp; with_reducible rfl) ?_; try simp only [Act.put, List.setIfInBounds_toArray, List.set_cons_zero, List.set_cons_succ]
              refine wpAnyK_take 10 (v := ?_) rfl (by kernel_rfl) (by kernel_rfl) (by kernel_rfl) (fun _ _ _ h => h) (by rfl) (by intro W hSw; go_simp; with_reducible rfl) ?_; try simp only [Act.put, List.setIfInBounds_toArray, List.set_cons_zero, List.set_cons_succ]
              refine wpAnyK_take 11 (v := ?_) rfl (by kernel_rfl) (by kernel_rfl) (by kernel_rfl) (fun _ _ _ h => h) (by rfl) (by intro W hSw; go_simp; with_reducible rfl) ?_; try simp only [Act.put, List.setIfInBounds_toArray, List.set_cons_zero, List.set_cons_succ]
              refine wpAnyK_take 12 (v := ?_) rfl (by kernel_rfl) (by kernel_rfl) (by kernel_rfl) (fun _ _ _ h => h) (by rfl) (by intro W hSw; go_simp; with_reducible rfl) ?_; try simp only [Act.put, List.setIfInBounds_toArray, List.set_cons_zero, List.set_cons_succ]
              refine wpAnyK_take 13 (v := ?_) rfl (by kernel_rfl) (by kernel_rfl) (by kernel_rfl) (fun _ _ _ h => h) (by rfl) (by intro W hSw; go_simp; with_reducible rfl) ?_; try simp only [Act.put, List.setIfInBounds_toArray, List.set_cons_zero, List.set_cons_succ]
              refine wpAnyK_take 14 (v := ?_) rfl (by kernel_rfl) (by kernel_rfl) (by kernel_rfl) (fun _ _ _ h => h) (by rfl) (by intro W hSw; go_simp; with_reducible rfl) ?_; try simp only [Act.put, List.setIfInBounds_toArray, List.set_cons_zero, List.set_cons_succ]
              refine wpAnyK_take 15 (v := ?_) rfl (by kernel_rfl) (by kernel_rfl) (by kernel_rfl) (fun _ _ _ h => h) (by rfl) (by intro W hSw; go_simp; with_reducible rfl) ?_; try simp only [Act.put, List.setIfInBounds_toArray, List.set_cons_zero, List.set_cons_succ]
              refine wpAnyK_take 16 (v := ?_) rfl (by kernel_rfl) (by kernel_rfl) (by kernel_rfl) (fun _ _ _ h => h) (by rfl) (by intro W hSw; go_simp; with_reducible rfl) ?_; try simp only [Act.put, List.setIfInBounds_toArray, List.set_cons_zero, List.set_cons_succ]
              refine wpAnyK_take 17 (v := ?_) rfl (by kernel_rfl) (by kernel_rfl) (by kernel_rfl) (fun _ _ _ h => h) (by rfl) (by intro W hSw; go_simp; with_reducible rfl) ?_; try simp only [Act.put, List.setIfInBounds_toArray, List.set_cons_zero, List.set_cons_succ]
              refine wpAnyK_take 18 (v := ?_) rfl (by kernel_rfl) (by kernel_rfl) (by kernel_rfl) (fun _ _ _ h => h) (by rfl) (by intro W hSw; go_simp; with_reducible rfl) ?_; try simp only [Act.put, List.setIfInBounds_toArray, List.set_cons_zero, List.set_cons_succ]
              refine wpAnyK_take 19 (v := ?_) rfl (by kernel_rfl) (by kernel_rfl) (by kernel_rfl) (fun _ _ _ h => h) (by rfl) (by intro W hSw; go_simp; with_reducible rfl) ?_; try simp only [Act.put, List.setIfInBounds_toArray, List.set_cons_zero, List.set_cons_succ]
              refine wpAnyK_take 20 (v := ?_) rfl (by kernel_rfl) (by kernel_rfl) (by kernel_rfl) (fun _ _ _ h => h) (by rfl) (by intro W hSw; go_simp; with_reducible rfl) ?_; try simp only [Act.put, List.setIfInBounds_toArray, List.set_cons_zero, List.set_cons_succ]
              refine wpAnyK_take 21 (v := ?_) rfl (by kernel_rfl) (by kernel_rfl) (by kernel_rfl) (fun _ _ _ h => h) (by rfl) (by intro W hSw; go_simp; with_reducible rfl) ?_; try simp only [Act.put, List.setIfInBounds_toArray, List.set_cons_zero, List.set_cons_succ]
              refine wpAnyK_take 22 (v := ?_) rfl (by kernel_rfl) (by kernel_rfl) (by kernel_rfl) (fun _ _ _ h => h) (by rfl) (by intro W hSw; go_simp; with_reducible rfl) ?_; try simp only [Act.put, List.setIfInBounds_toArray, List.set_cons_zero, List.set_cons_succ]
              refine wpAnyK_done (by kernel_rfl) ?_ _
              clear jw jw2 j5
              go_wp2_with fail
              go_roundw
              case rel => exact ⟨j + 1 + 1, 1, by omega, by go_num, rfl, cnt_yes HG.out HIN.out, HV6.out⟩
              case measure => simp [intOf]; omega
          · have hh := fun W => has_b g x false (by simp [hin]) W
            have HIN := hide_ hin
            clear hin
            go_wp2_with fail
            refine (hh _).mono ?_; rintro e w5 ⟨rfl, hb5⟩
            have HV5 := hide_ (Later.trans HV2.out hb5)
            have l1 := (hb5.cell (p := ⟨b, o + k2 * 2, none⟩) (cell_lt l1)).trans l1
            have l2 := (hb5.cell (p := ⟨b, o + k2 * 2 + 1, none⟩) (cell_lt l2)).trans l2
            have lc1 := later_drew_cell l1
            have lc2 := later_drew_cell l2
            have HV5d := hide_ (show Later w3 w5.drew from Below.drew HV5.out)
            clear hb5 hh l1 l2
            rcases Nat.eq_zero_or_pos k2 with hk0 | hk0
            · subst hk0
              simp only [Nat.zero_mul, Nat.add_zero] at lc1 lc2
              go_wp2_with fail
              refine wp_region_k (by kernel_rfl) ?_
              refine wpAnyK_take 0 (v := ?_) rfl (by kernel_rfl) (by kernel_rfl) (by kernel_rfl) (fun _ _ _ h => h) (by rfl) (by intro W hSw; go_simp; with_reducible rfl) ?_; try simp only [Act.put, List.setIfInBounds_toArray, List.set_cons_zero, List.set_cons_succ]
              refine wpAnyK_take 1 (v := ?_) rfl (by kernel_rfl) (by kernel_rfl) (by kernel_rfl) (fun _ _ _ h => h) (by rfl) (by intro W hSw; go_simp; with_reducible rfl) ?_; try simp only [Act.put, List.setIfInBounds_toArray, List.set_cons_zero, List.set_cons_succ]
              refine wpAnyK_take 2 (v := ?_) rfl (by kernel_rfl) (by kernel_rfl) (by kernel_rfl) (fun _ _ _ h => h) (by rfl) (by intro W hSw; go_simp; with_reducible rfl) ?_; try simp only [Act.put, List.setIfInBounds_toArray, List.set_cons_zero, List.set_cons_succ]
              refine wpAnyK_take 3 (v := ?_) rfl (by kernel_rfl) (by kernel_rfl) (by kernel_rfl) (fun _ _ _ h => h) (by rfl) (by intro W hSw; go_simp; with_reducible rfl) ?_; try simp only [Act.put, List.setIfInBounds_toArray, List.set_cons_zero, List.set_cons_succ]
              refine wpAnyK_one 4 (by kernel_rfl) rfl (fun K hK => ?_)
              go_simp
              refine (HEM.out _).mono ?_; rintro e w6 ⟨rfl, hb6⟩; have lc1 := later_step lc1 hb6; have lc2 := later_step lc2 hb6; have HV6 := hide_ (Later.trans HV5d.out hb6)
              refine hK.out _ _ (by assumption) ?_
              clear hK K; try simp only [Act.put, List.setIfInBounds_toArray, List.set_cons_zero, List.set_cons_succ]
              refine wpAnyK_take 5 (v := ?_) rfl (by kernel_rfl) (by kernel_rfl) (by kernel_rfl) (fun _ _ _ h => h) (by rfl) (by intro W hSw; go_simp; with_reducible rfl) ?_; try simp only [Act.put, List.setIfInBounds_toArray, List.set_cons_zero, List.set_cons_succ]
              refine wpAnyK_take 6 (v := ?_) rfl (by kernel_rfl) (by kernel_rfl) (by kernel_rfl) (fun _ _ _ h => h) (by rfl) (by intro W hSw; go_simp; with_reducible rfl) ?_; try simp only [Act.put, List.setIfInBounds_toArray, List.set_cons_zero, List.set_cons_succ]
              refine wpAnyK_take 7 (v := ?_) rfl (by kernel_rfl) (by kernel_rfl) (by kernel_rfl) (fun _ _ _ h => h) (by rfl) (by intro W hSw; go_simp; with_reducible rfl) ?_; try simp only [Act.put, List.setIfInBounds_toArray, List.set_cons_zero, List.set_cons_succ]
              refine wpAnyK_take 8 (v := ?_) rfl (by kernel_rfl) (by kernel_rfl) (by kernel_rfl) (fun _ _ _ h => h) (by rfl) (by intro W hSw; go_simp; with_reducible rfl) ?_; try simp only [Act.put, List.setIfInBounds_toArray, List.set_cons_zero, List.set_cons_succ]
              refine wpAnyK_skip 9 rfl (by kernel_rfl) (by kernel_rfl) (by kernel_rfl) (fun _ _ _ h => h) (by rfl) ?_; try simp only [Act.put, List.setIfInBounds_toArray, List.set_cons_zero, List.set_cons_succ]
              refine wpAnyK_skip 10 rfl (by kernel_rfl) (by kernel_rfl) (by kernel_rfl) (fun _ _ _ h => h) (by rfl) ?_; try simp only [Act.put, List.setIfInBounds_toArray, List.set_cons_zero, List.set_cons_succ]
              refine wpAnyK_skip 11 rfl (by kernel_rfl) (by kernel_rfl) (by kernel_rfl) (fun _ _ _ h => h) (by rfl) ?_; try simp only [Act.put, List.setIfInBounds_toArray, List.set_cons_zero, List.set_cons_succ]
              refine wpAnyK_skip 12 rfl (by kernel_rfl) (by kernel_rfl) (by kernel_rfl) (fun _ _ _ h => h) (by rfl) ?_; try simp only [Act.put, List.setIfInBounds_toArray, List.set_cons_zero, List.set_cons_succ]
              refine wpAnyK_skip 13 rfl (by kernel_rfl) (by kernel_rfl) (by kernel_rfl) (fun _ _ _ h => h) (by rfl) ?_; try simp only [Act.put, List.setIfInBounds_toArray, List.set_cons_zero, List.set_cons_succ]
              refine wpAnyK_skip 14 rfl (by kernel_rfl) (by kernel_rfl) (by kernel_rfl) (fun _ _ _ h => h) (by rfl) ?_; try simp only [Act.put, List.setIfInBounds_toArray, List.set_cons_zero, List.set_cons_succ]
              refine wpAnyK_skip 15 rfl (by kernel_rfl) (by kernel_rfl) (by kernel_rfl) (fun _ _ _ h => h) (by rfl) ?_; try simp only [Act.put, List.setIfInBounds_toArray, List.set_cons_zero, List.set_cons_succ]
              refine wpAnyK_skip 16 rfl (by kernel_rfl) (by kernel_rfl) (by kernel_rfl) (fun _ _ _ h => h) (by rfl) ?_; try simp only [Act.put, List.setIfInBounds_toArray, List.set_cons_zero, List.set_cons_succ]
              refine wpAnyK_skip 17 rfl (by kernel_rfl) (by kernel_rfl) (by kernel_rfl) (fun _ _ _ h => h) (by rfl) ?_; try simp only [Act.put, List.setIfInBounds_toArray, List.set_cons_zero, List.set_cons_succ]
              refine wpAnyK_skip 18 rfl (by kernel_rfl) (by kernel_rfl) (by kernel_rfl) (fun _ _ _ h => h) (by rfl) ?_; try simp only [Act.put, List.setIfInBounds_toArray, List.set_cons_zero, List.set_cons_succ]
              refine wpAnyK_skip 19 rfl (by kernel_rfl) (by kernel_rfl) (by kernel_rfl) (fun _ _ _ h => h) (by rfl) ?_; try simp only [Act.put, List.setIfInBounds_toArray, List.set_cons_zero, List.set_cons_succ]
              refine wpAnyK_skip 20 rfl (by kernel_rfl) (by kernel_rfl) (by kernel_rfl) (fun _ _ _ h => h) (by rfl) ?_; try simp only [Act.put, List.setIfInBounds_toArray, List.set_cons_zero, List.set_cons_succ]
              refine wpAnyK_take 21 (v := ?_) rfl (by kernel_rfl) (by kernel_rfl) (by kernel_rfl) (fun _ _ _ h => h) (by rfl) (by intro W hSw; go_simp; with_reducible rfl) ?_; try simp only [Act.put, List.setIfInBounds_toArray, List.set_cons_zero, List.set_cons_succ]
              refine wpAnyK_take 22 (v := ?_) rfl (by kernel_rfl) (by kernel_rfl) (by kernel_rfl) (fun _ _ _ h => h) (by rfl) (by intro W hSw; go_simp; with_reducible rfl) ?_; try simp only [Act.put, List.setIfInBounds_toArray, List.set_cons_zero, List.set_cons_succ]
              refine wpAnyK_done (by kernel_rfl) ?_ _
              go_wp2_with fail
              go_roundw
              case rel => exact ⟨1, b2, by omega, by go_num, rfl, cnt_no HG.out HIN.out HC4.out, HV6.out⟩
              case measure => simp [intOf]; omega
            · obtain ⟨j, rfl⟩ : ∃ j, k2 = j + 1 := ⟨k2 - 1, by omega⟩
              obtain ⟨t, ht⟩ : ∃ t, R[j]? = some t := ⟨_, List.getElem?_eq_getElem (by rw [HQ.out]; omega)⟩
              have hlt3 := HPV.out t j rfl ht
              obtain ⟨b', o', hbo, _, m2⟩ := (HR2.out.below HV5.out).span ht
              injection hbo with hbo
              injection hbo with h1 h2
              subst h1; subst h2
              have lc3 := later_drew_cell m2
              have t1 : (Op.bytesLess g.1.toList t.2.toList || g.1.toList == t.2.toList) = false := by rw [ble, decide_eq_false (by grind)]
              have jw : IntKind.i64.wrap (j : Int) = (j : Int) := IntWalk.i64_in _ (by omega)
              have j1 : (0 : Int) ≤ (j : Int) := by omega
              have j2 : (j : Int) < (q : Int) := by omega
              have j3 : j < q := by omega
              have j4 : (0 : Int) < (j : Int) + 1 := by omega
              have j5 : ((j : Int) + 1).toNat = j + 1 := by omega
              have j6 : (0 : Int) ≤ (j : Int) + 1 := by omega
              have j7 : (j : Int) + 1 < (q : Int) := by omega
              have jw2 : IntKind.i64.wrap ((j : Int) + 1) = (j : Int) + 1 := IntWalk.i64_in _ (by omega)
              clear ht hlt3 m2
              go_wp2_with fail
              refine wp_region_k (by kernel_rfl) ?_
              refine wpAnyK_take 0 (v := ?_) rfl (by kernel_rfl) (by kernel_rfl) (by kernel_rfl) (fun _ _ _ h => h) (by rfl) (by intro W hSw; go_simp; with_reducible rfl) ?_; try simp only [Act.put, List.setIfInBounds_toArray, List.set_cons_zero, List.set_cons_succ]
              refine wpAnyK_take 1 (v := ?_) rfl (by kernel_rfl) (by kernel_rfl) (by kernel_rfl) (fun _ _ _ h => h) (by rfl) (by intro W hSw; go_simp; with_reducible rfl) ?_; try simp only [Act.put, List.setIfInBounds_toArray, List.set_cons_zero, List.set_cons_succ]
              refine wpAnyK_take 2 (v := ?_) rfl (by kernel_rfl) (by kernel_rfl) (by kernel_rfl) (fun _ _ _ h => h) (by rfl) (by intro W hSw; go_simp; with_reducible rfl) ?_; try simp only [Act.put, List.setIfInBounds_toArray, List.set_cons_zero, List.set_cons_succ]
              refine wpAnyK_take 3 (v := ?_) rfl (by kernel_rfl) (by kernel_rfl) (by kernel_rfl) (fun _ _ _ h => h) (by rfl) (by intro W hSw; go_simp; with_reducible rfl) ?_; try simp only [Act.put, List.setIfInBounds_toArray, List.set_cons_zero, List.set_cons_succ]
              refine wpAnyK_one 4 (by kernel_rfl) rfl (fun K hK => ?_)
              go_simp
              refine (HEM.out _).mono ?_; rintro e w6 ⟨rfl, hb6⟩; have lc1 := later_step lc1 hb6; have lc2 := later_step lc2 hb6; have lc3 := later_step lc3 hb6; have HV6 := hide_ (Later.trans HV5d.out hb6)
              refine hK.out _ _ (by assumption) ?_
              clear hK K; try simp only [Act.put, List.setIfInBounds_toArray, List.set_cons_zero, List.set_cons_succ]
              refine wpAnyK_take 5 (v := ?_) rfl (by kernel_rfl) (by kernel_rfl) (by kernel_rfl) (fun _ _ _ h => h) (by rfl) (by intro W hSw; go_simp; with_reducible rfl) ?_; try simp only [Act.put, List.setIfInBounds_toArray, List.set_cons_zero, List.set_cons_succ]
              refine wpAnyK_take 6 (v := ?_) rfl (by kernel_rfl) (by kernel_rfl) (by kernel_rfl) (fun _ _ _ h => h) (by rfl) (by intro W hSw; go_simp; with_reducible rfl) ?_; try simp only [Act.put, List.setIfInBounds_toArray, List.set_cons_zero, List.set_cons_succ]
              refine wpAnyK_take 7 (v := ?_) rfl (by kernel_rfl) (by kernel_rfl) (by kernel_rfl) (fun _ _ _ h => h) (by rfl) (by intro W hSw; go_simp; with_reducible rfl) ?_; try simp only [Act.put, List.setIfInBounds_toArray, List.set_cons_zero, List.set_cons_succ]
              refine wpAnyK_take 8 (v := ?_) rfl (by kernel_rfl) (by kernel_rfl) (by kernel_rfl) (fun _ _ _ h => h) (by rfl) (by intro W hSw; go_simp; with_reducible rfl) ?_; try simp only [Act.put, List.setIfInBounds_toArray, List.set_cons_zero, List.set_cons_succ]
              refine wpAnyK_take 9 (v := ?_) rfl (by kernel_rfl) (by kernel_rfl) (by kernel_rfl) (fun _ _ _ h => h) (by rfl) (by intro W hSw; go_simp; with_reducible rfl) ?_; try simp only [Act.put, List.setIfInBounds_toArray, List.set_cons_zero, List.set_cons_succ]
              refine wpAnyK_take 10 (v := ?_) rfl (by kernel_rfl) (by kernel_rfl) (by kernel_rfl) (fun _ _ _ h => h) (by rfl) (by intro W hSw; go_simp; with_reducible rfl) ?_; try simp only [Act.put, List.setIfInBounds_toArray, List.set_cons_zero, List.set_cons_succ]
              refine wpAnyK_take 11 (v := ?_) rfl (by kernel_rfl) (by kernel_rfl) (by kernel_rfl) (fun _ _ _ h => h) (by rfl) (by intro W hSw; go_simp; with_reducible rfl) ?_; try simp only [Act.put, List.setIfInBounds_toArray, List.set_cons_zero, List.set_cons_succ]
              refine wpAnyK_take 12 (v := ?_) rfl (by kernel_rfl) (by kernel_rfl) (by kernel_rfl) (fun _ _ _ h => h) (by rfl) (by intro W hSw; go_simp; with_reducible rfl) ?_; try simp only [Act.put, List.setIfInBounds_toArray, List.set_cons_zero, List.set_cons_succ]
              refine wpAnyK_take 13 (v := ?_) rfl (by kernel_rfl) (by kernel_rfl) (by kernel_rfl) (fun _ _ _ h => h) (by rfl) (by intro W hSw; go_simp; with_reducible rfl) ?_; try simp only [Act.put, List.setIfInBounds_toArray, List.set_cons_zero, List.set_cons_succ]
              refine wpAnyK_take 14 (v := ?_) rfl (by kernel_rfl) (by kernel_rfl) (by kernel_rfl) (fun _ _ _ h => h) (by rfl) (by intro W hSw; go_simp; with_reducible rfl) ?_; try simp only [Act.put, List.setIfInBounds_toArray, List.set_cons_zero, List.set_cons_succ]
              refine wpAnyK_take 15 (v := ?_) rfl (by kernel_rfl) (by kernel_rfl) (by kernel_rfl) (fun _ _ _ h => h) (by rfl) (by intro W hSw; go_simp; with_reducible rfl) ?_; try simp only [Act.put, List.setIfInBounds_toArray, List.set_cons_zero, List.set_cons_succ]
              refine wpAnyK_take 16 (v := ?_) rfl (by kernel_rfl) (by kernel_rfl) (by kernel_rfl) (fun _ _ _ h => h) (by rfl) (by intro W hSw; go_simp; with_reducible rfl) ?_; try simp only [Act.put, List.setIfInBounds_toArray, List.set_cons_zero, List.set_cons_succ]
              refine wpAnyK_take 17 (v := ?_) rfl (by kernel_rfl) (by kernel_rfl) (by kernel_rfl) (fun _ _ _ h => h) (by rfl) (by intro W hSw; go_simp; with_reducible rfl) ?_; try simp only [Act.put, List.setIfInBounds_toArray, List.set_cons_zero, List.set_cons_succ]
              refine wpAnyK_take 18 (v := ?_) rfl (by kernel_rfl) (by kernel_rfl) (by kernel_rfl) (fun _ _ _ h => h) (by rfl) (by intro W hSw; go_simp; with_reducible rfl) ?_; try simp only [Act.put, List.setIfInBounds_toArray, List.set_cons_zero, List.set_cons_succ]
              refine wpAnyK_take 19 (v := ?_) rfl (by kernel_rfl) (by kernel_rfl) (by kernel_rfl) (fun _ _ _ h => h) (by rfl) (by intro W hSw; go_simp; with_reducible rfl) ?_; try simp only [Act.put, List.setIfInBounds_toArray, List.set_cons_zero, List.set_cons_succ]
              refine wpAnyK_take 20 (v := ?_) rfl (by kernel_rfl) (by kernel_rfl) (by kernel_rfl) (fun _ _ _ h => h) (by rfl) (by intro W hSw; go_simp; with_reducible rfl) ?_; try simp only [Act.put, List.setIfInBounds_toArray, List.set_cons_zero, List.set_cons_succ]
              refine wpAnyK_take 21 (v := ?_) rfl (by kernel_rfl) (by kernel_rfl) (by kernel_rfl) (fun _ _ _ h => h) (by rfl) (by intro W hSw; go_simp; with_reducible rfl) ?_; try simp only [Act.put, List.setIfInBounds_toArray, List.set_cons_zero, List.set_cons_succ]
              refine wpAnyK_take 22 (v := ?_) rfl (by kernel_rfl) (by kernel_rfl) (by kernel_rfl) (fun _ _ _ h => h) (by rfl) (by intro W hSw; go_simp; with_reducible rfl) ?_; try simp only [Act.put, List.setIfInBounds_toArray, List.set_cons_zero, List.set_cons_succ]
              refine wpAnyK_done (by kernel_rfl) ?_ _
              clear jw jw2 j5
              go_wp2_with fail
              go_roundw
              case rel => exact ⟨j + 1 + 1, b2, by omega, by go_num, rfl, cnt_no HG.out HIN.out HC4.out, HV6.out⟩
              case measure => simp [intOf]; omega
        · have HCR := hide_ (cnt_all (show Cnt R q x b2 by have := HC4.out; rwa [show k2 = q from by omega] at this) HQ.out)
          obtain ⟨wB, rfl⟩ : ∃ wB : World, wB = wr := ⟨_, rfl⟩
          go_wp2_with fail
          go_loopw [11, 14] (fun s11 s14 wr => ∃ k cc : Nat, k ≤ p ∧ s14 = .int .i64 k ∧ s11 = .int .i64 cc ∧ Hid (Cnt N k x cc) ∧ Hid (Later w3 wr)) (fun _ i _ => p - (intOf i).toNat)
          case atStart => exact ⟨0, 0, Nat.zero_le _, rfl, rfl, cnt_zero N x, HV2.out⟩
          case round =>
            obtain ⟨k3, cc, hk3, rfl, rfl, HC6, HV3⟩ := hrel
            have hp2 : p ≤ 201 := by omega
            have r7 : (k3 : Int) ≤ 201 := by omega
            have r8 : (0 : Int) ≤ (k3 : Int) := by omega
            by_cases hlt3 : k3 < p
            · have r9 : (k3 : Int) < (p : Int) := by omega
              obtain ⟨g, hg⟩ : ∃ g, N[k3]? = some g := ⟨_, List.getElem?_eq_getElem (by rw [HPN.out]; exact hlt3)⟩
              obtain ⟨b, o, rfl, l1, l2⟩ := (HO3.out.below HV3.out).span hg
              have HG := hide_ hg
              clear hg
              by_cases hin : InS g x
              · have hh := fun W => has_b g x true (by simp [hin]) W
                have HIN := hide_ hin
                clear hin
                obtain rfl : cc = 0 := cnt_add HC3.out HG.out HIN.out HC6.out
                go_wp2_with (go_at_call 12; refine (hh _).mono ?_; rintro e w4 ⟨rfl, hb4⟩; have HV4 := hide_ (Later.trans HV3.out hb4); clear hb4)
                go_roundw
                case rel => exact ⟨k3 + 1, 1, by omega, by go_num, rfl, cnt_yes HG.out HIN.out, HV4.out⟩
                case measure => simp [intOf]; omega
              · have hh := fun W => has_b g x false (by simp [hin]) W
                have HIN := hide_ hin
                clear hin
                go_wp2_with (go_at_call 12; refine (hh _).mono ?_; rintro e w4 ⟨rfl, hb4⟩; have HV4 := hide_ (Later.trans HV3.out hb4); clear hb4)
                go_roundw
                case rel => exact ⟨k3 + 1, cc, by omega, by go_num, rfl, cnt_no HG.out HIN.out HC6.out, HV4.out⟩
                case measure => simp [intOf]; omega
            · have HCN := hide_ (cnt_all (show Cnt N p x cc by have := HC6.out; rwa [show k3 = p from by omega] at this) HPN.out)
              by_cases hM : InL M x
              · by_cases hS : InS s x
                · obtain rfl : a = 1 := by
                    rcases HCM.out with ⟨h, h2⟩ | ⟨h, h2⟩
                    · exact h
                    · exact absurd hM h2
                  obtain rfl : b2 = 1 := by
                    rcases HCR.out with ⟨h, h2⟩ | ⟨h, h2⟩
                    · exact h
                    · exact absurd ((HK2.out x).2 hM) h2
                  obtain rfl : cc = 0 := by
                    rcases HCN.out with ⟨h, h2⟩ | ⟨h, h2⟩
                    · exact absurd hM ((HK3.out x).1 h2).2
                    · exact h
                  have hh := fun W => has_b s x true (by simp [hS]) W
                  clear hM hS
                  go_wp2_with fail
                  refine (awake_any _).mono ?_; rintro e w7 ⟨rfl, hb7⟩
                  have z1 := HBX1.out w7 (Later.trans (Later.trans HL0.out HV3.out) hb7)
                  have z2 := HBX2.out w7 (Later.trans (Later.trans HL0.out HV3.out) hb7)
                  have HB7 := hide_ (below_step (below_step HB.out HV3.out) hb7)
                  clear hb7
                  go_wp2_with fail
                  refine (hh _).mono ?_; rintro e w8 ⟨rfl, hb8⟩
                  have HB8 := hide_ (below_step HB7.out hb8)
                  clear hb8
                  go_wp2_with fail
                  go_ret
                  exact ⟨rfl, HB8.out⟩
                · obtain rfl : a = 1 := by
                    rcases HCM.out with ⟨h, h2⟩ | ⟨h, h2⟩
                    · exact h
                    · exact absurd hM h2
                  obtain rfl : b2 = 1 := by
                    rcases HCR.out with ⟨h, h2⟩ | ⟨h, h2⟩
                    · exact h
                    · exact absurd ((HK2.out x).2 hM) h2
                  obtain rfl : cc = 0 := by
                    rcases HCN.out with ⟨h, h2⟩ | ⟨h, h2⟩
                    · exact absurd hM ((HK3.out x).1 h2).2
                    · exact h
                  have hh := fun W => has_b s x false (by simp [hS]) W
                  clear hM hS
                  go_wp2_with fail
                  refine (awake_any _).mono ?_; rintro e w7 ⟨rfl, hb7⟩
                  have z1 := HBX1.out w7 (Later.trans (Later.trans HL0.out HV3.out) hb7)
                  have z2 := HBX2.out w7 (Later.trans (Later.trans HL0.out HV3.out) hb7)
                  have HB7 := hide_ (below_step (below_step HB.out HV3.out) hb7)
                  clear hb7
                  go_wp2_with fail
                  refine (hh _).mono ?_; rintro e w8 ⟨rfl, hb8⟩
                  have HB8 := hide_ (below_step HB7.out hb8)
                  clear hb8
                  go_wp2_with fail
                  go_ret
                  exact ⟨rfl, HB8.out⟩
              · by_cases hS : InS s x
                · obtain rfl : a = 0 := by
                    rcases HCM.out with ⟨h, h2⟩ | ⟨h, h2⟩
                    · exact absurd h2 hM
                    · exact h
                  obtain rfl : b2 = 0 := by
                    rcases HCR.out with ⟨h, h2⟩ | ⟨h, h2⟩
                    · exact absurd ((HK2.out x).1 h2) hM
                    · exact h
                  obtain rfl : cc = 1 := by
                    rcases HCN.out with ⟨h, h2⟩ | ⟨h, h2⟩
                    · exact h
                    · exact absurd ((HK3.out x).2 ⟨hS, hM⟩) h2
                  have hh := fun W => has_b s x true (by simp [hS]) W
                  clear hM hS
                  go_wp2_with fail
                  refine (awake_any _).mono ?_; rintro e w7 ⟨rfl, hb7⟩
                  have z1 := HBX1.out w7 (Later.trans (Later.trans HL0.out HV3.out) hb7)
                  have z2 := HBX2.out w7 (Later.trans (Later.trans HL0.out HV3.out) hb7)
                  have HB7 := hide_ (below_step (below_step HB.out HV3.out) hb7)
                  clear hb7
                  go_wp2_with fail
                  refine (hh _).mono ?_; rintro e w8 ⟨rfl, hb8⟩
                  have HB8 := hide_ (below_step HB7.out hb8)
                  clear hb8
                  go_wp2_with fail
                  go_ret
                  exact ⟨rfl, HB8.out⟩
                · obtain rfl : a = 0 := by
                    rcases HCM.out with ⟨h, h2⟩ | ⟨h, h2⟩
                    · exact absurd h2 hM
                    · exact h
                  obtain rfl : b2 = 0 := by
                    rcases HCR.out with ⟨h, h2⟩ | ⟨h, h2⟩
                    · exact absurd ((HK2.out x).1 h2) hM
                    · exact h
                  obtain rfl : cc = 0 := by
                    rcases HCN.out with ⟨h, h2⟩ | ⟨h, h2⟩
                    · exact absurd ((HK3.out x).1 h2).1 hS
                    · exact h
                  have hh := fun W => has_b s x false (by simp [hS]) W
                  clear hM hS
                  go_wp2_with fail
                  refine (awake_any _).mono ?_; rintro e w7 ⟨rfl, hb7⟩
                  have z1 := HBX1.out w7 (Later.trans (Later.trans HL0.out HV3.out) hb7)
                  have z2 := HBX2.out w7 (Later.trans (Later.trans HL0.out HV3.out) hb7)
                  have HB7 := hide_ (below_step (below_step HB.out HV3.out) hb7)
                  clear hb7
                  go_wp2_with fail
                  refine (hh _).mono ?_; rintro e w8 ⟨rfl, hb8⟩
                  have HB8 := hide_ (below_step HB7.out hb8)
                  clear hb8
                  go_wp2_with fail
                  go_ret
                  exact ⟨rfl, HB8.out⟩
set_option maxHeartbeats 4000000 in
theorem spanKeys_big (s : Spn) (x : ByteArray) (bb oo n c : Nat) (M : List Spn) (w : World) (hn : 200 < n) (hr : Rd w 2 (some ⟨bb, oo, none⟩) 200 (srow M)) (hl : M.length = 200) (hnc : n ≤ c) :
    Calls Try.prog 9 #[.agg #[.string s.1, .string s.2], .slice (some ⟨bb, oo, none⟩) n c, .string x] w fun e w' => e = .returned (.bool true) ∧ Below w.heap.size w w' := by
  have q1 : (200 : Int) < (n : Int) := by omega
  have q2 : (200 : Int) ≤ (c : Int) := by omega
  have q3 : 200 ≤ c := by omega
  have hA : (some ⟨bb, oo, none⟩ : Option Addr) = none → (200 : Nat) = 0 := fun h => nomatch h
  --BODY
  have hJ := hide_ (fun w1 (hb : Below w.heap.size w w1) => join_b (w := w1) (c := c) (hr.below hb) hA hl (by omega))
  have hWo := hide_ (fun w1 (hb : Below w.heap.size w w1) => without_any (w := w1) (c := c) s (hr.below hb) hA hl (by omega))
  have HR := hide_ hr
  have HL := hide_ hl
  obtain ⟨W0, hW0⟩ : ∃ W0, W0 = w.alloc (.cells #[.string s.1, .string s.2] 23) := ⟨_, rfl⟩
  have b1 : W0.cell? ⟨w.heap.size, 0, none⟩ = some (.string s.1) := by rw [hW0]; exact cell_of_row _ _ 0 _ _ (0, 0) (heap_alloc_new w _)
  have b2 : W0.cell? ⟨w.heap.size, 1, none⟩ = some (.string s.2) := by rw [hW0]; exact cell_of_row _ _ 1 _ _ (0, 0) (heap_alloc_new w _)
  have HB := hide_ (show Below w.heap.size w W0.drew by rw [hW0]; exact ((Below.refl _ _).alloc (Nat.le_refl _) _).drew)
  have HBX1 := hide_ (later_drew_cell b1)
  have HBX2 := hide_ (later_drew_cell b2)
  have lc1 := later_drew_cell b1
  have lc2 := later_drew_cell b2
  have H0 := hide_ hW0.symm
  have HL0 := hide_ (Later.refl W0.drew)
  clear hW0 b1 b2 hr hA hl
  go_enter Try.func9, Try.ntmps9
  go_wp2_with fail
  rw [H0.out]
  clear H0
  refine wp_region_k (by kernel_rfl) ?_
  refine wpAnyK_take 0 (v := ?_) rfl (by kernel_rfl) (by kernel_rfl) (by kernel_rfl) (fun _ _ _ h => h) (by rfl) (by intro W hSw; go_simp; with_reducible rfl) ?_; try simp only [Act.put, List.setIfInBounds_toArray, List.set_cons_zero, List.set_cons_succ]
  refine wpAnyK_take 2 (v := ?_) rfl (by kernel_rfl) (by kernel_rfl) (by kernel_rfl) (fun _ _ _ h => h) (by rfl) (by intro W hSw; go_simp; with_reducible rfl) ?_; try simp only [Act.put, List.setIfInBounds_toArray, List.set_cons_zero, List.set_cons_succ]
  refine wpAnyK_take 3 (v := ?_) rfl (by kernel_rfl) (by kernel_rfl) (by kernel_rfl) (fun _ _ _ h => h) (by rfl) (by intro W hSw; go_simp; with_reducible rfl) ?_; try simp only [Act.put, List.setIfInBounds_toArray, List.set_cons_zero, List.set_cons_succ]
  refine wpAnyK_one 1 (by kernel_rfl) rfl (fun K hK => ?_)
  go_simp
  (with_reducible refine (hJ.out _ HB.out).mono ?_); rintro e w2 ⟨⟨A1, R, q, rfl, hq, hR2, hA1, hqm, hc2, hk2⟩, hb2⟩; have lc1 := later_step lc1 hb2; have lc2 := later_step lc2 hb2; have HB := hide_ (below_step HB.out hb2); have HL0 := hide_ (Later.trans HL0.out hb2); have HR2 := hide_ hR2; have HC2 := hide_ hc2; have HK2 := hide_ hk2; have HQ := hide_ hq; have hqm2 := hqm; clear hc2 hk2 hR2 hq hA1 hqm
  refine hK.out _ _ (by assumption) ?_
  clear hK K; try simp only [Act.put, List.setIfInBounds_toArray, List.set_cons_zero, List.set_cons_succ]
  refine wpAnyK_one 4 (by kernel_rfl) rfl (fun K hK => ?_)
  go_simp
  (with_reducible refine (hWo.out _ HB.out).mono ?_); rintro e w3 ⟨⟨v3, N, rfl, ho3, hn3, hc3, hk3⟩, hb3⟩; obtain ⟨p, hp⟩ : ∃ p, N.length = p := ⟨_, rfl⟩; rw [hp] at ho3 hn3; obtain ⟨A3, c3, rfl⟩ := own_form ho3; have HB := hide_ (below_step HB.out hb3); have HL0 := hide_ (Later.trans HL0.out hb3); have HR2 := hide_ (HR2.out.below hb3); have HO3 := hide_ (Rd.of_own ho3); have HC3 := hide_ hc3; have HK3 := hide_ hk3; have HPN := hide_ hp; clear hc3 hk3 ho3 hp
  refine hK.out _ _ (by assumption) ?_
  clear hK K; try simp only [Act.put, List.setIfInBounds_toArray, List.set_cons_zero, List.set_cons_succ]
  refine wpAnyK_take 5 (v := ?_) rfl (by kernel_rfl) (by kernel_rfl) (by kernel_rfl) (fun _ _ _ h => h) (by rfl) (by intro W hSw; go_simp; with_reducible rfl) ?_; try simp only [Act.put, List.setIfInBounds_toArray, List.set_cons_zero, List.set_cons_succ]
  refine wpAnyK_take 6 (v := ?_) rfl (by kernel_rfl) (by kernel_rfl) (by kernel_rfl) (fun _ _ _ h => h) (by rfl) (by intro W hSw; go_simp; with_reducible rfl) ?_; try simp only [Act.put, List.setIfInBounds_toArray, List.set_cons_zero, List.set_cons_succ]
  refine wpAnyK_done (by kernel_rfl) ?_ _
  go_wp2_with fail
  have HM0 := hide_ (HR.out.below HB.out)
  go_loopw [9, 12] (fun s9 s12 wr => ∃ k a : Nat, k ≤ 200 ∧ s12 = .int .i64 k ∧ s9 = .int .i64 a ∧ Hid (Cnt M k x a) ∧ Hid (Later w3 wr)) (fun _ i _ => 200 - (intOf i).toNat)
  case atStart => exact ⟨0, 0, Nat.zero_le _, rfl, rfl, cnt_zero M x, Later.refl w3⟩
  case round =>
    obtain ⟨k, a, hk, rfl, rfl, HC, HV⟩ := hrel
    have r2 : (k : Int) ≤ 200 := by omega
    have r3 : (0 : Int) ≤ (k : Int) := by omega
    by_cases hlt : k < 200
    · have r1 : (k : Int) < 200 := by omega
      obtain ⟨g, hg⟩ : ∃ g, M[k]? = some g := ⟨_, List.getElem?_eq_getElem (by rw [HL.out]; exact hlt)⟩
      have HG := hide_ hg
      obtain ⟨b2, o2, hbo, l1, l2⟩ := (HM0.out.below HV.out).span hg
      injection hbo with hbo
      injection hbo with hb1 hb2
      subst hb1; subst hb2
      clear hg
      by_cases hin : InS g x
      · have hh := fun W => has_b g x true (by simp [hin]) W
        have HIN := hide_ hin
        clear hin
        go_wp2_with (go_at_call 12; refine (hh _).mono ?_; rintro e w4 ⟨rfl, hb4⟩; have HV4 := hide_ (Later.trans HV.out hb4); clear hb4)
        go_roundw
        case rel => exact ⟨k + 1, 1, by omega, by go_num, rfl, cnt_yes HG.out HIN.out, HV4.out⟩
        case measure => simp [intOf]; omega
      · have hh := fun W => has_b g x false (by simp [hin]) W
        have HIN := hide_ hin
        clear hin
        go_wp2_with (go_at_call 12; refine (hh _).mono ?_; rintro e w4 ⟨rfl, hb4⟩; have HV4 := hide_ (Later.trans HV.out hb4); clear hb4)
        go_roundw
        case rel => exact ⟨k + 1, a, by omega, by go_num, rfl, cnt_no HG.out HIN.out HC.out, HV4.out⟩
        case measure => simp [intOf]; omega
    · have HCM := hide_ (cnt_all (show Cnt M 200 x a by have := HC.out; rwa [show k = 200 from by omega] at this) HL.out)
      have hge : ¬ (k : Int) < 200 := by omega
      clear hlt
      obtain ⟨wA, rfl⟩ : ∃ wA : World, wA = wr := ⟨_, rfl⟩
      go_wp2_with fail
      go_loopw [10, 13] (fun s10 s13 wr => ∃ k b : Nat, k ≤ q ∧ s13 = .int .i64 k ∧ s10 = .int .i64 b ∧ Hid (Cnt R k x b) ∧ Hid (Later w3 wr)) (fun _ i _ => q - (intOf i).toNat)
      case atStart => exact ⟨0, 0, Nat.zero_le _, rfl, rfl, cnt_zero R x, HV.out⟩
      case round =>
        obtain ⟨k2, b2, hk2, rfl, rfl, HC4, HV2⟩ := hrel
        have hq2 : q ≤ 200 := by omega
        have r4 : (k2 : Int) ≤ 200 := by omega
        have r5 : (0 : Int) ≤ (k2 : Int) := by omega
        by_cases hlt2 : k2 < q
        · have r6 : (k2 : Int) < (q : Int) := by omega
          obtain ⟨g, hg⟩ : ∃ g, R[k2]? = some g := ⟨_, List.getElem?_eq_getElem (by rw [HQ.out]; exact hlt2)⟩
          obtain ⟨b, o, rfl, l1, l2⟩ := (HR2.out.below HV2.out).span hg
          have HG := hide_ hg
          have hne := HC2.out.mem g (List.mem_of_getElem? hg)
          have HEM := hide_ (fun W => (by have := empty_b g W; rwa [decide_eq_false (by grind)] at this : Calls Try.prog 14 #[.agg #[.string g.1, .string g.2]] W fun e w' => e = .returned (.bool false) ∧ Later W w'))
          have HPV := hide_ (fun (t : Spn) (j : Nat) (h : j + 1 = k2) (ht : R[j]? = some t) => canon_at HC2.out ht hg (by omega))
          clear hg hne
          by_cases hin : InS g x
          · have hh := fun W => has_b g x true (by simp [hin]) W
            have HIN := hide_ hin
            clear hin
            obtain rfl : b2 = 0 := cnt_add HC2.out HG.out HIN.out HC4.out
            go_wp2_with fail
            refine (hh _).mono ?_; rintro e w5 ⟨rfl, hb5⟩
            have HV5 := hide_ (Later.trans HV2.out hb5)
            have l1 := (hb5.cell (p := ⟨b, o + k2 * 2, none⟩) (cell_lt l1)).trans l1
            have l2 := (hb5.cell (p := ⟨b, o + k2 * 2 + 1, none⟩) (cell_lt l2)).trans l2
            have lc1 := later_drew_cell l1
            have lc2 := later_drew_cell l2
            have HV5d := hide_ (show Later w3 w5.drew from Below.drew HV5.out)
            clear hb5 hh l1 l2
            rcases Nat.eq_zero_or_pos k2 with hk0 | hk0
            · subst hk0
              simp only [Nat.zero_mul, Nat.add_zero] at lc1 lc2
              go_wp2_with fail
              refine wp_region_k (by kernel_rfl) ?_
              refine wpAnyK_take 0 (v := ?_) rfl (by kernel_rfl) (by kernel_rfl) (by kernel_rfl) (fun _ _ _ h => h) (by rfl) (by intro W hSw; go_simp; with_reducible rfl) ?_; try simp only [Act.put, List.setIfInBounds_toArray, List.set_cons_zero, List.set_cons_succ]
              refine wpAnyK_take 1 (v := ?_) rfl (by kernel_rfl) (by kernel_rfl) (by kernel_rfl) (fun _ _ _ h => h) (by rfl) (by intro W hSw; go_simp; with_reducible rfl) ?_; try simp only [Act.put, List.setIfInBounds_toArray, List.set_cons_zero, List.set_cons_succ]
              refine wpAnyK_take 2 (v := ?_) rfl (by kernel_rfl) (by kernel_rfl) (by kernel_rfl) (fun _ _ _ h => h) (by rfl) (by intro W hSw; go_simp; with_reducible rfl) ?_; try simp only [Act.put, List.setIfInBounds_toArray, List.set_cons_zero, List.set_cons_succ]
              refine wpAnyK_take 3 (v := ?_) rfl (by kernel_rfl) (by kernel_rfl) (by kernel_rfl) (fun _ _ _ h => h) (by rfl) (by intro W hSw; go_simp; with_reducible rfl) ?_; try simp only [Act.put, List.setIfInBounds_toArray, List.set_cons_zero, List.set_cons_succ]
              refine wpAnyK_one 4 (by kernel_rfl) rfl (fun K hK => ?_)
              go_simp
              refine (HEM.out _).mono ?_; rintro e w6 ⟨rfl, hb6⟩; have lc1 := later_step lc1 hb6; have lc2 := later_step lc2 hb6; have HV6 := hide_ (Later.trans HV5d.out hb6)
              refine hK.out _ _ (by assumption) ?_
              clear hK K; try simp only [Act.put, List.setIfInBounds_toArray, List.set_cons_zero, List.set_cons_succ]
              refine wpAnyK_take 5 (v := ?_) rfl (by kernel_rfl) (by kernel_rfl) (by kernel_rfl) (fun _ _ _ h => h) (by rfl) (by intro W hSw; go_simp; with_reducible rfl) ?_; try simp only [Act.put, List.setIfInBounds_toArray, List.set_cons_zero, List.set_cons_succ]
              refine wpAnyK_take 6 (v := ?_) rfl (by kernel_rfl) (by kernel_rfl) (by kernel_rfl) (fun _ _ _ h => h) (by rfl) (by intro W hSw; go_simp; with_reducible rfl) ?_; try simp only [Act.put, List.setIfInBounds_toArray, List.set_cons_zero, List.set_cons_succ]
              refine wpAnyK_take 7 (v := ?_) rfl (by kernel_rfl) (by kernel_rfl) (by kernel_rfl) (fun _ _ _ h => h) (by rfl) (by intro W hSw; go_simp; with_reducible rfl) ?_; try simp only [Act.put, List.setIfInBounds_toArray, List.set_cons_zero, List.set_cons_succ]
              refine wpAnyK_take 8 (v := ?_) rfl (by kernel_rfl) (by kernel_rfl) (by kernel_rfl) (fun _ _ _ h => h) (by rfl) (by intro W hSw; go_simp; with_reducible rfl) ?_; try simp only [Act.put, List.setIfInBounds_toArray, List.set_cons_zero, List.set_cons_succ]
              refine wpAnyK_skip 9 rfl (by kernel_rfl) (by kernel_rfl) (by kernel_rfl) (fun _ _ _ h => h) (by rfl) ?_; try simp only [Act.put, List.setIfInBounds_toArray, List.set_cons_zero, List.set_cons_succ]
              refine wpAnyK_skip 10 rfl (by kernel_rfl) (by kernel_rfl) (by kernel_rfl) (fun _ _ _ h => h) (by rfl) ?_; try simp only [Act.put, List.setIfInBounds_toArray, List.set_cons_zero, List.set_cons_succ]
              refine wpAnyK_skip 11 rfl (by kernel_rfl) (by kernel_rfl) (by kernel_rfl) (fun _ _ _ h => h) (by rfl) ?_; try simp only [Act.put, List.setIfInBounds_toArray, List.set_cons_zero, List.set_cons_succ]
              refine wpAnyK_skip 12 rfl (by kernel_rfl) (by kernel_rfl) (by kernel_rfl) (fun _ _ _ h => h) (by rfl) ?_; try simp only [Act.put, List.setIfInBounds_toArray, List.set_cons_zero, List.set_cons_succ]
              refine wpAnyK_skip 13 rfl (by kernel_rfl) (by kernel_rfl) (by kernel_rfl) (fun _ _ _ h => h) (by rfl) ?_; try simp only [Act.put, List.setIfInBounds_toArray, List.set_cons_zero, List.set_cons_succ]
              refine wpAnyK_skip 14 rfl (by kernel_rfl) (by kernel_rfl) (by kernel_rfl) (fun _ _ _ h => h) (by rfl) ?_; try simp only [Act.put, List.setIfInBounds_toArray, List.set_cons_zero, List.set_cons_succ]
              refine wpAnyK_skip 15 rfl (by kernel_rfl) (by kernel_rfl) (by kernel_rfl) (fun _ _ _ h => h) (by rfl) ?_; try simp only [Act.put, List.setIfInBounds_toArray, List.set_cons_zero, List.set_cons_succ]
              refine wpAnyK_skip 16 rfl (by kernel_rfl) (by kernel_rfl) (by kernel_rfl) (fun _ _ _ h => h) (by rfl) ?_; try simp only [Act.put, List.setIfInBounds_toArray, List.set_cons_zero, List.set_cons_succ]
              refine wpAnyK_skip 17 rfl (by kernel_rfl) (by kernel_rfl) (by kernel_rfl) (fun _ _ _ h => h) (by rfl) ?_; try simp only [Act.put, List.setIfInBounds_toArray, List.set_cons_zero, List.set_cons_succ]
              refine wpAnyK_skip 18 rfl (by kernel_rfl) (by kernel_rfl) (by kernel_rfl) (fun _ _ _ h => h) (by rfl) ?_; try simp only [Act.put, List.setIfInBounds_toArray, List.set_cons_zero, List.set_cons_succ]
              refine wpAnyK_skip 19 rfl (by kernel_rfl) (by kernel_rfl) (by kernel_rfl) (fun _ _ _ h => h) (by rfl) ?_; try simp only [Act.put, List.setIfInBounds_toArray, List.set_cons_zero, List.set_cons_succ]
              refine wpAnyK_skip 20 rfl (by kernel_rfl) (by kernel_rfl) (by kernel_rfl) (fun _ _ _ h => h) (by rfl) ?_; try simp only [Act.put, List.setIfInBounds_toArray, List.set_cons_zero, List.set_cons_succ]
              refine wpAnyK_take 21 (v := ?_) rfl (by kernel_rfl) (by kernel_rfl) (by kernel_rfl) (fun _ _ _ h => h) (by rfl) (by intro W hSw; go_simp; with_reducible rfl) ?_; try simp only [Act.put, List.setIfInBounds_toArray, List.set_cons_zero, List.set_cons_succ]
              refine wpAnyK_take 22 (v := ?_) rfl (by kernel_rfl) (by kernel_rfl) (by kernel_rfl) (fun _ _ _ h => h) (by rfl) (by intro W hSw; go_simp; with_reducible rfl) ?_; try simp only [Act.put, List.setIfInBounds_toArray, List.set_cons_zero, List.set_cons_succ]
              refine wpAnyK_done (by kernel_rfl) ?_ _
              go_wp2_with fail
              go_roundw
              case rel => exact ⟨1, 1, by omega, by go_num, rfl, cnt_yes HG.out HIN.out, HV6.out⟩
              case measure => simp [intOf]; omega
            · obtain ⟨j, rfl⟩ : ∃ j, k2 = j + 1 := ⟨k2 - 1, by omega⟩
              obtain ⟨t, ht⟩ : ∃ t, R[j]? = some t := ⟨_, List.getElem?_eq_getElem (by rw [HQ.out]; omega)⟩
              have hlt3 := HPV.out t j rfl ht
              obtain ⟨b', o', hbo, _, m2⟩ := (HR2.out.below HV5.out).span ht
              injection hbo with hbo
              injection hbo with h1 h2
              subst h1; subst h2
              have lc3 := later_drew_cell m2
              have t1 : (Op.bytesLess g.1.toList t.2.toList || g.1.toList == t.2.toList) = false := by rw [ble, decide_eq_false (by grind)]
              have jw : IntKind.i64.wrap (j : Int) = (j : Int) := IntWalk.i64_in _ (by omega)
              have j1 : (0 : Int) ≤ (j : Int) := by omega
              have j2 : (j : Int) < (q : Int) := by omega
              have j3 : j < q := by omega
              have j4 : (0 : Int) < (j : Int) + 1 := by omega
              have j5 : ((j : Int) + 1).toNat = j + 1 := by omega
              have j6 : (0 : Int) ≤ (j : Int) + 1 := by omega
              have j7 : (j : Int) + 1 < (q : Int) := by omega
              have jw2 : IntKind.i64.wrap ((j : Int) + 1) = (j : Int) + 1 := IntWalk.i64_in _ (by omega)
              clear ht hlt3 m2
              go_wp2_with fail
              refine wp_region_k (by kernel_rfl) ?_
              refine wpAnyK_take 0 (v := ?_) rfl (by kernel_rfl) (by kernel_rfl) (by kernel_rfl) (fun _ _ _ h => h) (by rfl) (by intro W hSw; go_simp; with_reducible rfl) ?_; try simp only [Act.put, List.setIfInBounds_toArray, List.set_cons_zero, List.set_cons_succ]
              refine wpAnyK_take 1 (v := ?_) rfl (by kernel_rfl) (by kernel_rfl) (by kernel_rfl) (fun _ _ _ h => h) (by rfl) (by intro W hSw; go_simp; with_reducible rfl) ?_; try simp only [Act.put, List.setIfInBounds_toArray, List.set_cons_zero, List.set_cons_succ]
              refine wpAnyK_take 2 (v := ?_) rfl (by kernel_rfl) (by kernel_rfl) (by kernel_rfl) (fun _ _ _ h => h) (by rfl) (by intro W hSw; go_simp; with_reducible rfl) ?_; try simp only [Act.put, List.setIfInBounds_toArray, List.set_cons_zero, List.set_cons_succ]
              refine wpAnyK_take 3 (v := ?_) rfl (by kernel_rfl) (by kernel_rfl) (by kernel_rfl) (fun _ _ _ h => h) (by rfl) (by intro W hSw; go_simp; with_reducible rfl) ?_; try simp only [Act.put, List.setIfInBounds_toArray, List.set_cons_zero, List.set_cons_succ]
              refine wpAnyK_one 4 (by kernel_rfl) rfl (fun K hK => ?_)
              go_simp
              refine (HEM.out _).mono ?_; rintro e w6 ⟨rfl, hb6⟩; have lc1 := later_step lc1 hb6; have lc2 := later_step lc2 hb6; have lc3 := later_step lc3 hb6; have HV6 := hide_ (Later.trans HV5d.out hb6)
              refine hK.out _ _ (by assumption) ?_
              clear hK K; try simp only [Act.put, List.setIfInBounds_toArray, List.set_cons_zero, List.set_cons_succ]
              refine wpAnyK_take 5 (v := ?_) rfl (by kernel_rfl) (by kernel_rfl) (by kernel_rfl) (fun _ _ _ h => h) (by rfl) (by intro W hSw; go_simp; with_reducible rfl) ?_; try simp only [Act.put, List.setIfInBounds_toArray, List.set_cons_zero, List.set_cons_succ]
              refine wpAnyK_take 6 (v := ?_) rfl (by kernel_rfl) (by kernel_rfl) (by kernel_rfl) (fun _ _ _ h => h) (by rfl) (by intro W hSw; go_simp; with_reducible rfl) ?_; try simp only [Act.put, List.setIfInBounds_toArray, List.set_cons_zero, List.set_cons_succ]
              refine wpAnyK_take 7 (v := ?_) rfl (by kernel_rfl) (by kernel_rfl) (by kernel_rfl) (fun _ _ _ h => h) (by rfl) (by intro W hSw; go_simp; with_reducible rfl) ?_; try simp only [Act.put, List.setIfInBounds_toArray, List.set_cons_zero, List.set_cons_succ]
              refine wpAnyK_take 8 (v := ?_) rfl (by kernel_rfl) (by kernel_rfl) (by kernel_rfl) (fun _ _ _ h => h) (by rfl) (by intro W hSw; go_simp; with_reducible rfl) ?_; try simp only [Act.put, List.setIfInBounds_toArray, List.set_cons_zero, List.set_cons_succ]
              refine wpAnyK_take 9 (v := ?_) rfl (by kernel_rfl) (by kernel_rfl) (by kernel_rfl) (fun _ _ _ h => h) (by rfl) (by intro W hSw; go_simp; with_reducible rfl) ?_; try simp only [Act.put, List.setIfInBounds_toArray, List.set_cons_zero, List.set_cons_succ]
              refine wpAnyK_take 10 (v := ?_) rfl (by kernel_rfl) (by kernel_rfl) (by kernel_rfl) (fun _ _ _ h => h) (by rfl) (by intro W hSw; go_simp; with_reducible rfl) ?_; try simp only [Act.put, List.setIfInBounds_toArray, List.set_cons_zero, List.set_cons_succ]
              refine wpAnyK_take 11 (v := ?_) rfl (by kernel_rfl) (by kernel_rfl) (by kernel_rfl) (fun _ _ _ h => h) (by rfl) (by intro W hSw; go_simp; with_reducible rfl) ?_; try simp only [Act.put, List.setIfInBounds_toArray, List.set_cons_zero, List.set_cons_succ]
              refine wpAnyK_take 12 (v := ?_) rfl (by kernel_rfl) (by kernel_rfl) (by kernel_rfl) (fun _ _ _ h => h) (by rfl) (by intro W hSw; go_simp; with_reducible rfl) ?_; try simp only [Act.put, List.setIfInBounds_toArray, List.set_cons_zero, List.set_cons_succ]
              refine wpAnyK_take 13 (v := ?_) rfl (by kernel_rfl) (by kernel_rfl) (by kernel_rfl) (fun _ _ _ h => h) (by rfl) (by intro W hSw; go_simp; with_reducible rfl) ?_; try simp only [Act.put, List.setIfInBounds_toArray, List.set_cons_zero, List.set_cons_succ]
              refine wpAnyK_take 14 (v := ?_) rfl (by kernel_rfl) (by kernel_rfl) (by kernel_rfl) (fun _ _ _ h => h) (by rfl) (by intro W hSw; go_simp; with_reducible rfl) ?_; try simp only [Act.put, List.setIfInBounds_toArray, List.set_cons_zero, List.set_cons_succ]
              refine wpAnyK_take 15 (v := ?_) rfl (by kernel_rfl) (by kernel_rfl) (by kernel_rfl) (fun _ _ _ h => h) (by rfl) (by intro W hSw; go_simp; with_reducible rfl) ?_; try simp only [Act.put, List.setIfInBounds_toArray, List.set_cons_zero, List.set_cons_succ]
              refine wpAnyK_take 16 (v := ?_) rfl (by kernel_rfl) (by kernel_rfl) (by kernel_rfl) (fun _ _ _ h => h) (by rfl) (by intro W hSw; go_simp; with_reducible rfl) ?_; try simp only [Act.put, List.setIfInBounds_toArray, List.set_cons_zero, List.set_cons_succ]
              refine wpAnyK_take 17 (v := ?_) rfl (by kernel_rfl) (by kernel_rfl) (by kernel_rfl) (fun _ _ _ h => h) (by rfl) (by intro W hSw; go_simp; with_reducible rfl) ?_; try simp only [Act.put, List.setIfInBounds_toArray, List.set_cons_zero, List.set_cons_succ]
              refine wpAnyK_take 18 (v := ?_) rfl (by kernel_rfl) (by kernel_rfl) (by kernel_rfl) (fun _ _ _ h => h) (by rfl) (by intro W hSw; go_simp; with_reducible rfl) ?_; try simp only [Act.put, List.setIfInBounds_toArray, List.set_cons_zero, List.set_cons_succ]
              refine wpAnyK_take 19 (v := ?_) rfl (by kernel_rfl) (by kernel_rfl) (by kernel_rfl) (fun _ _ _ h => h) (by rfl) (by intro W hSw; go_simp; with_reducible rfl) ?_; try simp only [Act.put, List.setIfInBounds_toArray, List.set_cons_zero, List.set_cons_succ]
              refine wpAnyK_take 20 (v := ?_) rfl (by kernel_rfl) (by kernel_rfl) (by kernel_rfl) (fun _ _ _ h => h) (by rfl) (by intro W hSw; go_simp; with_reducible rfl) ?_; try simp only [Act.put, List.setIfInBounds_toArray, List.set_cons_zero, List.set_cons_succ]
              refine wpAnyK_take 21 (v := ?_) rfl (by kernel_rfl) (by kernel_rfl) (by kernel_rfl) (fun _ _ _ h => h) (by rfl) (by intro W hSw; go_simp; with_reducible rfl) ?_; try simp only [Act.put, List.setIfInBounds_toArray, List.set_cons_zero, List.set_cons_succ]
              refine wpAnyK_take 22 (v := ?_) rfl (by kernel_rfl) (by kernel_rfl) (by kernel_rfl) (fun _ _ _ h => h) (by rfl) (by intro W hSw; go_simp; with_reducible rfl) ?_; try simp only [Act.put, List.setIfInBounds_toArray, List.set_cons_zero, List.set_cons_succ]
              refine wpAnyK_done (by kernel_rfl) ?_ _
              clear jw jw2 j5
              go_wp2_with fail
              go_roundw
              case rel => exact ⟨j + 1 + 1, 1, by omega, by go_num, rfl, cnt_yes HG.out HIN.out, HV6.out⟩
              case measure => simp [intOf]; omega
          · have hh := fun W => has_b g x false (by simp [hin]) W
            have HIN := hide_ hin
            clear hin
            go_wp2_with fail
            refine (hh _).mono ?_; rintro e w5 ⟨rfl, hb5⟩
            have HV5 := hide_ (Later.trans HV2.out hb5)
            have l1 := (hb5.cell (p := ⟨b, o + k2 * 2, none⟩) (cell_lt l1)).trans l1
            have l2 := (hb5.cell (p := ⟨b, o + k2 * 2 + 1, none⟩) (cell_lt l2)).trans l2
            have lc1 := later_drew_cell l1
            have lc2 := later_drew_cell l2
            have HV5d := hide_ (show Later w3 w5.drew from Below.drew HV5.out)
            clear hb5 hh l1 l2
            rcases Nat.eq_zero_or_pos k2 with hk0 | hk0
            · subst hk0
              simp only [Nat.zero_mul, Nat.add_zero] at lc1 lc2
              go_wp2_with fail
              refine wp_region_k (by kernel_rfl) ?_
              refine wpAnyK_take 0 (v := ?_) rfl (by kernel_rfl) (by kernel_rfl) (by kernel_rfl) (fun _ _ _ h => h) (by rfl) (by intro W hSw; go_simp; with_reducible rfl) ?_; try simp only [Act.put, List.setIfInBounds_toArray, List.set_cons_zero, List.set_cons_succ]
              refine wpAnyK_take 1 (v := ?_) rfl (by kernel_rfl) (by kernel_rfl) (by kernel_rfl) (fun _ _ _ h => h) (by rfl) (by intro W hSw; go_simp; with_reducible rfl) ?_; try simp only [Act.put, List.setIfInBounds_toArray, List.set_cons_zero, List.set_cons_succ]
              refine wpAnyK_take 2 (v := ?_) rfl (by kernel_rfl) (by kernel_rfl) (by kernel_rfl) (fun _ _ _ h => h) (by rfl) (by intro W hSw; go_simp; with_reducible rfl) ?_; try simp only [Act.put, List.setIfInBounds_toArray, List.set_cons_zero, List.set_cons_succ]
              refine wpAnyK_take 3 (v := ?_) rfl (by kernel_rfl) (by kernel_rfl) (by kernel_rfl) (fun _ _ _ h => h) (by rfl) (by intro W hSw; go_simp; with_reducible rfl) ?_; try simp only [Act.put, List.setIfInBounds_toArray, List.set_cons_zero, List.set_cons_succ]
              refine wpAnyK_one 4 (by kernel_rfl) rfl (fun K hK => ?_)
              go_simp
              refine (HEM.out _).mono ?_; rintro e w6 ⟨rfl, hb6⟩; have lc1 := later_step lc1 hb6; have lc2 := later_step lc2 hb6; have HV6 := hide_ (Later.trans HV5d.out hb6)
              refine hK.out _ _ (by assumption) ?_
              clear hK K; try simp only [Act.put, List.setIfInBounds_toArray, List.set_cons_zero, List.set_cons_succ]
              refine wpAnyK_take 5 (v := ?_) rfl (by kernel_rfl) (by kernel_rfl) (by kernel_rfl) (fun _ _ _ h => h) (by rfl) (by intro W hSw; go_simp; with_reducible rfl) ?_; try simp only [Act.put, List.setIfInBounds_toArray, List.set_cons_zero, List.set_cons_succ]
              refine wpAnyK_take 6 (v := ?_) rfl (by kernel_rfl) (by kernel_rfl) (by kernel_rfl) (fun _ _ _ h => h) (by rfl) (by intro W hSw; go_simp; with_reducible rfl) ?_; try simp only [Act.put, List.setIfInBounds_toArray, List.set_cons_zero, List.set_cons_succ]
              refine wpAnyK_take 7 (v := ?_) rfl (by kernel_rfl) (by kernel_rfl) (by kernel_rfl) (fun _ _ _ h => h) (by rfl) (by intro W hSw; go_simp; with_reducible rfl) ?_; try simp only [Act.put, List.setIfInBounds_toArray, List.set_cons_zero, List.set_cons_succ]
              refine wpAnyK_take 8 (v := ?_) rfl (by kernel_rfl) (by kernel_rfl) (by kernel_rfl) (fun _ _ _ h => h) (by rfl) (by intro W hSw; go_simp; with_reducible rfl) ?_; try simp only [Act.put, List.setIfInBounds_toArray, List.set_cons_zero, List.set_cons_succ]
              refine wpAnyK_skip 9 rfl (by kernel_rfl) (by kernel_rfl) (by kernel_rfl) (fun _ _ _ h => h) (by rfl) ?_; try simp only [Act.put, List.setIfInBounds_toArray, List.set_cons_zero, List.set_cons_succ]
              refine wpAnyK_skip 10 rfl (by kernel_rfl) (by kernel_rfl) (by kernel_rfl) (fun _ _ _ h => h) (by rfl) ?_; try simp only [Act.put, List.setIfInBounds_toArray, List.set_cons_zero, List.set_cons_succ]
              refine wpAnyK_skip 11 rfl (by kernel_rfl) (by kernel_rfl) (by kernel_rfl) (fun _ _ _ h => h) (by rfl) ?_; try simp only [Act.put, List.setIfInBounds_toArray, List.set_cons_zero, List.set_cons_succ]
              refine wpAnyK_skip 12 rfl (by kernel_rfl) (by kernel_rfl) (by kernel_rfl) (fun _ _ _ h => h) (by rfl) ?_; try simp only [Act.put, List.setIfInBounds_toArray, List.set_cons_zero, List.set_cons_succ]
              refine wpAnyK_skip 13 rfl (by kernel_rfl) (by kernel_rfl) (by kernel_rfl) (fun _ _ _ h => h) (by rfl) ?_; try simp only [Act.put, List.setIfInBounds_toArray, List.set_cons_zero, List.set_cons_succ]
              refine wpAnyK_skip 14 rfl (by kernel_rfl) (by kernel_rfl) (by kernel_rfl) (fun _ _ _ h => h) (by rfl) ?_; try simp only [Act.put, List.setIfInBounds_toArray, List.set_cons_zero, List.set_cons_succ]
              refine wpAnyK_skip 15 rfl (by kernel_rfl) (by kernel_rfl) (by kernel_rfl) (fun _ _ _ h => h) (by rfl) ?_; try simp only [Act.put, List.setIfInBounds_toArray, List.set_cons_zero, List.set_cons_succ]
              refine wpAnyK_skip 16 rfl (by kernel_rfl) (by kernel_rfl) (by kernel_rfl) (fun _ _ _ h => h) (by rfl) ?_; try simp only [Act.put, List.setIfInBounds_toArray, List.set_cons_zero, List.set_cons_succ]
              refine wpAnyK_skip 17 rfl (by kernel_rfl) (by kernel_rfl) (by kernel_rfl) (fun _ _ _ h => h) (by rfl) ?_; try simp only [Act.put, List.setIfInBounds_toArray, List.set_cons_zero, List.set_cons_succ]
              refine wpAnyK_skip 18 rfl (by kernel_rfl) (by kernel_rfl) (by kernel_rfl) (fun _ _ _ h => h) (by rfl) ?_; try simp only [Act.put, List.setIfInBounds_toArray, List.set_cons_zero, List.set_cons_succ]
              refine wpAnyK_skip 19 rfl (by kernel_rfl) (by kernel_rfl) (by kernel_rfl) (fun _ _ _ h => h) (by rfl) ?_; try simp only [Act.put, List.setIfInBounds_toArray, List.set_cons_zero, List.set_cons_succ]
              refine wpAnyK_skip 20 rfl (by kernel_rfl) (by kernel_rfl) (by kernel_rfl) (fun _ _ _ h => h) (by rfl) ?_; try simp only [Act.put, List.setIfInBounds_toArray, List.set_cons_zero, List.set_cons_succ]
              refine wpAnyK_take 21 (v := ?_) rfl (by kernel_rfl) (by kernel_rfl) (by kernel_rfl) (fun _ _ _ h => h) (by rfl) (by intro W hSw; go_simp; with_reducible rfl) ?_; try simp only [Act.put, List.setIfInBounds_toArray, List.set_cons_zero, List.set_cons_succ]
              refine wpAnyK_take 22 (v := ?_) rfl (by kernel_rfl) (by kernel_rfl) (by kernel_rfl) (fun _ _ _ h => h) (by rfl) (by intro W hSw; go_simp; with_reducible rfl) ?_; try simp only [Act.put, List.setIfInBounds_toArray, List.set_cons_zero, List.set_cons_succ]
              refine wpAnyK_done (by kernel_rfl) ?_ _
              go_wp2_with fail
              go_roundw
              case rel => exact ⟨1, b2, by omega, by go_num, rfl, cnt_no HG.out HIN.out HC4.out, HV6.out⟩
              case measure => simp [intOf]; omega
            · obtain ⟨j, rfl⟩ : ∃ j, k2 = j + 1 := ⟨k2 - 1, by omega⟩
              obtain ⟨t, ht⟩ : ∃ t, R[j]? = some t := ⟨_, List.getElem?_eq_getElem (by rw [HQ.out]; omega)⟩
              have hlt3 := HPV.out t j rfl ht
              obtain ⟨b', o', hbo, _, m2⟩ := (HR2.out.below HV5.out).span ht
              injection hbo with hbo
              injection hbo with h1 h2
              subst h1; subst h2
              have lc3 := later_drew_cell m2
              have t1 : (Op.bytesLess g.1.toList t.2.toList || g.1.toList == t.2.toList) = false := by rw [ble, decide_eq_false (by grind)]
              have jw : IntKind.i64.wrap (j : Int) = (j : Int) := IntWalk.i64_in _ (by omega)
              have j1 : (0 : Int) ≤ (j : Int) := by omega
              have j2 : (j : Int) < (q : Int) := by omega
              have j3 : j < q := by omega
              have j4 : (0 : Int) < (j : Int) + 1 := by omega
              have j5 : ((j : Int) + 1).toNat = j + 1 := by omega
              have j6 : (0 : Int) ≤ (j : Int) + 1 := by omega
              have j7 : (j : Int) + 1 < (q : Int) := by omega
              have jw2 : IntKind.i64.wrap ((j : Int) + 1) = (j : Int) + 1 := IntWalk.i64_in _ (by omega)
              clear ht hlt3 m2
              go_wp2_with fail
              refine wp_region_k (by kernel_rfl) ?_
              refine wpAnyK_take 0 (v := ?_) rfl (by kernel_rfl) (by kernel_rfl) (by kernel_rfl) (fun _ _ _ h => h) (by rfl) (by intro W hSw; go_simp; with_reducible rfl) ?_; try simp only [Act.put, List.setIfInBounds_toArray, List.set_cons_zero, List.set_cons_succ]
              refine wpAnyK_take 1 (v := ?_) rfl (by kernel_rfl) (by kernel_rfl) (by kernel_rfl) (fun _ _ _ h => h) (by rfl) (by intro W hSw; go_simp; with_reducible rfl) ?_; try simp only [Act.put, List.setIfInBounds_toArray, List.set_cons_zero, List.set_cons_succ]
              refine wpAnyK_take 2 (v := ?_) rfl (by kernel_rfl) (by kernel_rfl) (by kernel_rfl) (fun _ _ _ h => h) (by rfl) (by intro W hSw; go_simp; with_reducible rfl) ?_; try simp only [Act.put, List.setIfInBounds_toArray, List.set_cons_zero, List.set_cons_succ]
              refine wpAnyK_take 3 (v := ?_) rfl (by kernel_rfl) (by kernel_rfl) (by kernel_rfl) (fun _ _ _ h => h) (by rfl) (by intro W hSw; go_simp; with_reducible rfl) ?_; try simp only [Act.put, List.setIfInBounds_toArray, List.set_cons_zero, List.set_cons_succ]
              refine wpAnyK_one 4 (by kernel_rfl) rfl (fun K hK => ?_)
              go_simp
              refine (HEM.out _).mono ?_; rintro e w6 ⟨rfl, hb6⟩; have lc1 := later_step lc1 hb6; have lc2 := later_step lc2 hb6; have lc3 := later_step lc3 hb6; have HV6 := hide_ (Later.trans HV5d.out hb6)
              refine hK.out _ _ (by assumption) ?_
              clear hK K; try simp only [Act.put, List.setIfInBounds_toArray, List.set_cons_zero, List.set_cons_succ]
              refine wpAnyK_take 5 (v := ?_) rfl (by kernel_rfl) (by kernel_rfl) (by kernel_rfl) (fun _ _ _ h => h) (by rfl) (by intro W hSw; go_simp; with_reducible rfl) ?_; try simp only [Act.put, List.setIfInBounds_toArray, List.set_cons_zero, List.set_cons_succ]
              refine wpAnyK_take 6 (v := ?_) rfl (by kernel_rfl) (by kernel_rfl) (by kernel_rfl) (fun _ _ _ h => h) (by rfl) (by intro W hSw; go_simp; with_reducible rfl) ?_; try simp only [Act.put, List.setIfInBounds_toArray, List.set_cons_zero, List.set_cons_succ]
              refine wpAnyK_take 7 (v := ?_) rfl (by kernel_rfl) (by kernel_rfl) (by kernel_rfl) (fun _ _ _ h => h) (by rfl) (by intro W hSw; go_simp; with_reducible rfl) ?_; try simp only [Act.put, List.setIfInBounds_toArray, List.set_cons_zero, List.set_cons_succ]
              refine wpAnyK_take 8 (v := ?_) rfl (by kernel_rfl) (by kernel_rfl) (by kernel_rfl) (fun _ _ _ h => h) (by rfl) (by intro W hSw; go_simp; with_reducible rfl) ?_; try simp only [Act.put, List.setIfInBounds_toArray, List.set_cons_zero, List.set_cons_succ]
              refine wpAnyK_take 9 (v := ?_) rfl (by kernel_rfl) (by kernel_rfl) (by kernel_rfl) (fun _ _ _ h => h) (by rfl) (by intro W hSw; go_simp; with_reducible rfl) ?_; try simp only [Act.put, List.setIfInBounds_toArray, List.set_cons_zero, List.set_cons_succ]
              refine wpAnyK_take 10 (v := ?_) rfl (by kernel_rfl) (by kernel_rfl) (by kernel_rfl) (fun _ _ _ h => h) (by rfl) (by intro W hSw; go_simp; with_reducible rfl) ?_; try simp only [Act.put, List.setIfInBounds_toArray, List.set_cons_zero, List.set_cons_succ]
              refine wpAnyK_take 11 (v := ?_) rfl (by kernel_rfl) (by kernel_rfl) (by kernel_rfl) (fun _ _ _ h => h) (by rfl) (by intro W hSw; go_simp; with_reducible rfl) ?_; try simp only [Act.put, List.setIfInBounds_toArray, List.set_cons_zero, List.set_cons_succ]
              refine wpAnyK_take 12 (v := ?_) rfl (by kernel_rfl) (by kernel_rfl) (by kernel_rfl) (fun _ _ _ h => h) (by rfl) (by intro W hSw; go_simp; with_reducible rfl) ?_; try simp only [Act.put, List.setIfInBounds_toArray, List.set_cons_zero, List.set_cons_succ]
              refine wpAnyK_take 13 (v := ?_) rfl (by kernel_rfl) (by kernel_rfl) (by kernel_rfl) (fun _ _ _ h => h) (by rfl) (by intro W hSw; go_simp; with_reducible rfl) ?_; try simp only [Act.put, List.setIfInBounds_toArray, List.set_cons_zero, List.set_cons_succ]
              refine wpAnyK_take 14 (v := ?_) rfl (by kernel_rfl) (by kernel_rfl) (by kernel_rfl) (fun _ _ _ h => h) (by rfl) (by intro W hSw; go_simp; with_reducible rfl) ?_; try simp only [Act.put, List.setIfInBounds_toArray, List.set_cons_zero, List.set_cons_succ]
              refine wpAnyK_take 15 (v := ?_) rfl (by kernel_rfl) (by kernel_rfl) (by kernel_rfl) (fun _ _ _ h => h) (by rfl) (by intro W hSw; go_simp; with_reducible rfl) ?_; try simp only [Act.put, List.setIfInBounds_toArray, List.set_cons_zero, List.set_cons_succ]
              refine wpAnyK_take 16 (v := ?_) rfl (by kernel_rfl) (by kernel_rfl) (by kernel_rfl) (fun _ _ _ h => h) (by rfl) (by intro W hSw; go_simp; with_reducible rfl) ?_; try simp only [Act.put, List.setIfInBounds_toArray, List.set_cons_zero, List.set_cons_succ]
              refine wpAnyK_take 17 (v := ?_) rfl (by kernel_rfl) (by kernel_rfl) (by kernel_rfl) (fun _ _ _ h => h) (by rfl) (by intro W hSw; go_simp; with_reducible rfl) ?_; try simp only [Act.put, List.setIfInBounds_toArray, List.set_cons_zero, List.set_cons_succ]
              refine wpAnyK_take 18 (v := ?_) rfl (by kernel_rfl) (by kernel_rfl) (by kernel_rfl) (fun _ _ _ h => h) (by rfl) (by intro W hSw; go_simp; with_reducible rfl) ?_; try simp only [Act.put, List.setIfInBounds_toArray, List.set_cons_zero, List.set_cons_succ]
              refine wpAnyK_take 19 (v := ?_) rfl (by kernel_rfl) (by kernel_rfl) (by kernel_rfl) (fun _ _ _ h => h) (by rfl) (by intro W hSw; go_simp; with_reducible rfl) ?_; try simp only [Act.put, List.setIfInBounds_toArray, List.set_cons_zero, List.set_cons_succ]
              refine wpAnyK_take 20 (v := ?_) rfl (by kernel_rfl) (by kernel_rfl) (by kernel_rfl) (fun _ _ _ h => h) (by rfl) (by intro W hSw; go_simp; with_reducible rfl) ?_; try simp only [Act.put, List.setIfInBounds_toArray, List.set_cons_zero, List.set_cons_succ]
              refine wpAnyK_take 21 (v := ?_) rfl (by kernel_rfl) (by kernel_rfl) (by kernel_rfl) (fun _ _ _ h => h) (by rfl) (by intro W hSw; go_simp; with_reducible rfl) ?_; try simp only [Act.put, List.setIfInBounds_toArray, List.set_cons_zero, List.set_cons_succ]
              refine wpAnyK_take 22 (v := ?_) rfl (by kernel_rfl) (by kernel_rfl) (by kernel_rfl) (fun _ _ _ h => h) (by rfl) (by intro W hSw; go_simp; with_reducible rfl) ?_; try simp only [Act.put, List.setIfInBounds_toArray, List.set_cons_zero, List.set_cons_succ]
              refine wpAnyK_done (by kernel_rfl) ?_ _
              clear jw jw2 j5
              go_wp2_with fail
              go_roundw
              case rel => exact ⟨j + 1 + 1, b2, by omega, by go_num, rfl, cnt_no HG.out HIN.out HC4.out, HV6.out⟩
              case measure => simp [intOf]; omega
        · have HCR := hide_ (cnt_all (show Cnt R q x b2 by have := HC4.out; rwa [show k2 = q from by omega] at this) HQ.out)
          obtain ⟨wB, rfl⟩ : ∃ wB : World, wB = wr := ⟨_, rfl⟩
          go_wp2_with fail
          go_loopw [11, 14] (fun s11 s14 wr => ∃ k cc : Nat, k ≤ p ∧ s14 = .int .i64 k ∧ s11 = .int .i64 cc ∧ Hid (Cnt N k x cc) ∧ Hid (Later w3 wr)) (fun _ i _ => p - (intOf i).toNat)
          case atStart => exact ⟨0, 0, Nat.zero_le _, rfl, rfl, cnt_zero N x, HV2.out⟩
          case round =>
            obtain ⟨k3, cc, hk3, rfl, rfl, HC6, HV3⟩ := hrel
            have hp2 : p ≤ 201 := by omega
            have r7 : (k3 : Int) ≤ 201 := by omega
            have r8 : (0 : Int) ≤ (k3 : Int) := by omega
            by_cases hlt3 : k3 < p
            · have r9 : (k3 : Int) < (p : Int) := by omega
              obtain ⟨g, hg⟩ : ∃ g, N[k3]? = some g := ⟨_, List.getElem?_eq_getElem (by rw [HPN.out]; exact hlt3)⟩
              obtain ⟨b, o, rfl, l1, l2⟩ := (HO3.out.below HV3.out).span hg
              have HG := hide_ hg
              clear hg
              by_cases hin : InS g x
              · have hh := fun W => has_b g x true (by simp [hin]) W
                have HIN := hide_ hin
                clear hin
                obtain rfl : cc = 0 := cnt_add HC3.out HG.out HIN.out HC6.out
                go_wp2_with (go_at_call 12; refine (hh _).mono ?_; rintro e w4 ⟨rfl, hb4⟩; have HV4 := hide_ (Later.trans HV3.out hb4); clear hb4)
                go_roundw
                case rel => exact ⟨k3 + 1, 1, by omega, by go_num, rfl, cnt_yes HG.out HIN.out, HV4.out⟩
                case measure => simp [intOf]; omega
              · have hh := fun W => has_b g x false (by simp [hin]) W
                have HIN := hide_ hin
                clear hin
                go_wp2_with (go_at_call 12; refine (hh _).mono ?_; rintro e w4 ⟨rfl, hb4⟩; have HV4 := hide_ (Later.trans HV3.out hb4); clear hb4)
                go_roundw
                case rel => exact ⟨k3 + 1, cc, by omega, by go_num, rfl, cnt_no HG.out HIN.out HC6.out, HV4.out⟩
                case measure => simp [intOf]; omega
            · have HCN := hide_ (cnt_all (show Cnt N p x cc by have := HC6.out; rwa [show k3 = p from by omega] at this) HPN.out)
              by_cases hM : InL M x
              · by_cases hS : InS s x
                · obtain rfl : a = 1 := by
                    rcases HCM.out with ⟨h, h2⟩ | ⟨h, h2⟩
                    · exact h
                    · exact absurd hM h2
                  obtain rfl : b2 = 1 := by
                    rcases HCR.out with ⟨h, h2⟩ | ⟨h, h2⟩
                    · exact h
                    · exact absurd ((HK2.out x).2 hM) h2
                  obtain rfl : cc = 0 := by
                    rcases HCN.out with ⟨h, h2⟩ | ⟨h, h2⟩
                    · exact absurd hM ((HK3.out x).1 h2).2
                    · exact h
                  have hh := fun W => has_b s x true (by simp [hS]) W
                  clear hM hS
                  go_wp2_with fail
                  refine (awake_any _).mono ?_; rintro e w7 ⟨rfl, hb7⟩
                  have z1 := HBX1.out w7 (Later.trans (Later.trans HL0.out HV3.out) hb7)
                  have z2 := HBX2.out w7 (Later.trans (Later.trans HL0.out HV3.out) hb7)
                  have HB7 := hide_ (below_step (below_step HB.out HV3.out) hb7)
                  clear hb7
                  go_wp2_with fail
                  refine (hh _).mono ?_; rintro e w8 ⟨rfl, hb8⟩
                  have HB8 := hide_ (below_step HB7.out hb8)
                  clear hb8
                  go_wp2_with fail
                  go_ret
                  exact ⟨rfl, HB8.out⟩
                · obtain rfl : a = 1 := by
                    rcases HCM.out with ⟨h, h2⟩ | ⟨h, h2⟩
                    · exact h
                    · exact absurd hM h2
                  obtain rfl : b2 = 1 := by
                    rcases HCR.out with ⟨h, h2⟩ | ⟨h, h2⟩
                    · exact h
                    · exact absurd ((HK2.out x).2 hM) h2
                  obtain rfl : cc = 0 := by
                    rcases HCN.out with ⟨h, h2⟩ | ⟨h, h2⟩
                    · exact absurd hM ((HK3.out x).1 h2).2
                    · exact h
                  have hh := fun W => has_b s x false (by simp [hS]) W
                  clear hM hS
                  go_wp2_with fail
                  refine (awake_any _).mono ?_; rintro e w7 ⟨rfl, hb7⟩
                  have z1 := HBX1.out w7 (Later.trans (Later.trans HL0.out HV3.out) hb7)
                  have z2 := HBX2.out w7 (Later.trans (Later.trans HL0.out HV3.out) hb7)
                  have HB7 := hide_ (below_step (below_step HB.out HV3.out) hb7)
                  clear hb7
                  go_wp2_with fail
                  refine (hh _).mono ?_; rintro e w8 ⟨rfl, hb8⟩
                  have HB8 := hide_ (below_step HB7.out hb8)
                  clear hb8
                  go_wp2_with fail
                  go_ret
                  exact ⟨rfl, HB8.out⟩
              · by_cases hS : InS s x
                · obtain rfl : a = 0 := by
                    rcases HCM.out with ⟨h, h2⟩ | ⟨h, h2⟩
                    · exact absurd h2 hM
                    · exact h
                  obtain rfl : b2 = 0 := by
                    rcases HCR.out with ⟨h, h2⟩ | ⟨h, h2⟩
                    · exact absurd ((HK2.out x).1 h2) hM
                    · exact h
                  obtain rfl : cc = 1 := by
                    rcases HCN.out with ⟨h, h2⟩ | ⟨h, h2⟩
                    · exact h
                    · exact absurd ((HK3.out x).2 ⟨hS, hM⟩) h2
                  have hh := fun W => has_b s x true (by simp [hS]) W
                  clear hM hS
                  go_wp2_with fail
                  refine (awake_any _).mono ?_; rintro e w7 ⟨rfl, hb7⟩
                  have z1 := HBX1.out w7 (Later.trans (Later.trans HL0.out HV3.out) hb7)
                  have z2 := HBX2.out w7 (Later.trans (Later.trans HL0.out HV3.out) hb7)
                  have HB7 := hide_ (below_step (below_step HB.out HV3.out) hb7)
                  clear hb7
                  go_wp2_with fail
                  refine (hh _).mono ?_; rintro e w8 ⟨rfl, hb8⟩
                  have HB8 := hide_ (below_step HB7.out hb8)
                  clear hb8
                  go_wp2_with fail
                  go_ret
                  exact ⟨rfl, HB8.out⟩
                · obtain rfl : a = 0 := by
                    rcases HCM.out with ⟨h, h2⟩ | ⟨h, h2⟩
                    · exact absurd h2 hM
                    · exact h
                  obtain rfl : b2 = 0 := by
                    rcases HCR.out with ⟨h, h2⟩ | ⟨h, h2⟩
                    · exact absurd ((HK2.out x).1 h2) hM
                    · exact h
                  obtain rfl : cc = 0 := by
                    rcases HCN.out with ⟨h, h2⟩ | ⟨h, h2⟩
                    · exact absurd ((HK3.out x).1 h2).1 hS
                    · exact h
                  have hh := fun W => has_b s x false (by simp [hS]) W
                  clear hM hS
                  go_wp2_with fail
                  refine (awake_any _).mono ?_; rintro e w7 ⟨rfl, hb7⟩
                  have z1 := HBX1.out w7 (Later.trans (Later.trans HL0.out HV3.out) hb7)
                  have z2 := HBX2.out w7 (Later.trans (Later.trans HL0.out HV3.out) hb7)
                  have HB7 := hide_ (below_step (below_step HB.out HV3.out) hb7)
                  clear hb7
                  go_wp2_with fail
                  refine (hh _).mono ?_; rintro e w8 ⟨rfl, hb8⟩
                  have HB8 := hide_ (below_step HB7.out hb8)
                  clear hb8
                  go_wp2_with fail
                  go_ret
                  exact ⟨rfl, HB8.out⟩
theorem spanKeys_contract (H : Type) (enc : TypeId × Value → H) (W : World) (base : Nat) (args : Array Value) (ds : List (DataW H)) (before : List MemPlace)
    (hval : ∀ (j : Nat) t v, Try.f9.params[j]? = some t → args[j]? = some v → Value.okWide Try.prog W .any base t v)
    (hA : DataW.TrodAll enc Try.prog W 0 (fun _ => true) true Try.f9.params.toList args.toList ds before)
    (_hsz : (DataW.weightsEach Try.prog (Try.f9.params.toList ++ Rows.spanKeysSpec.plain.varTypes Try.prog) (ds ++ [])).all (· ≤ reachBytes) = true) :
    Calls Try.prog 9 args W fun e W' => e = .returned (.bool true) ∧ Below W.heap.size W W' := by
  rw [Try.params9] at hA hval
  obtain ⟨v0, vs0, d0, ds0, p0, q0, hargs, rfl, rfl, h0, r0⟩ := trodAll_cons hA
  obtain ⟨v1, vs1, d1, ds1, p1, q1, rfl, rfl, rfl, h1, r1⟩ := trodAll_cons r0
  obtain ⟨v2, vs2, d2, ds2, p2, q2, rfl, rfl, rfl, h2, r2⟩ := trodAll_cons r1
  obtain ⟨rfl, rfl, rfl⟩ := trodAll_nil r2
  obtain rfl : args = #[v0, v1, v2] := by cases args; simp_all
  obtain ⟨s, rfl, _, _⟩ := open_span (hval 0 23 v0 rfl rfl) h0
  obtain ⟨A, c, L, rfl, hlc, hcm, hA1, hR⟩ := open_spans (hval 1 34 v1 rfl rfl) h1
  obtain ⟨x, rfl, rfl, rfl, hx⟩ := open_string Try.underlying9 (hval 2 9 v2 rfl rfl) h2
  rcases Nat.lt_or_ge 200 L.length with h | h
  · obtain ⟨b, o, rfl, _⟩ := hR.2 (by rw [srow_len]; omega)
    obtain ⟨h1, h2⟩ := rd_take60 hR rfl (Nat.le_of_lt h)
    exact spanKeys_big s x b o L.length c (L.take 200) W h h1 h2 hlc
  · exact spanKeys_tail s x A L.length c L W h hR hA1 rfl hlc

set_option maxRecDepth 100000 in
theorem spanKeys_lifted (os : Os) (started : os.Started) (H : Type) (enc : TypeId × Value → H) :
    ReturnsInHanded {} Try.checked os 9 .any (Rows.spanKeysSpec.pre6 enc Try.prog Try.f9 Rows.spanKeysRow.domain false) (Rows.spanKeysSpec.post enc Try.prog Try.f9 false true false false) := by
  refine returnsInHanded_of_change_sized (C := Try.checked) own started (by kernel_rfl) Try.func9
    (ChangeSpec.witness6 (enc := enc) (C := Try.checked) false ⟨#[], #[.agg #[.string ByteArray.empty, .string ByteArray.empty], .slice none 0 0, .string ByteArray.empty], []⟩ 8 (by kernel_rfl) (by kernel_rfl) (by kernel_rfl) (by kernel_rfl)) ?_
  intro W base args ds gs before hval hW _ hsz _
  have hW' := hW
  obtain ⟨p, q, hA0, hV, rfl, hfz, hnd⟩ := hW
  obtain ⟨rfl, rfl⟩ := trodVars_none hV
  have hA : DataW.TrodAll enc Try.prog W 0 (fun _ => true) true Try.f9.params.toList args.toList ds p := hA0
  refine (spanKeys_contract H enc W base args ds p hval hA hsz).mono fun e W' ⟨he, hb⟩ => ?_
  subst he
  have hds : ds.length = 3 := by
    rw [Try.params9] at hA
    obtain ⟨v0, vs0, d0, ds0, p0, q0, _, rfl, rfl, _, r0⟩ := trodAll_cons hA
    obtain ⟨v1, vs1, d1, ds1, p1, q1, _, rfl, rfl, _, r1⟩ := trodAll_cons r0
    obtain ⟨v2, vs2, d2, ds2, p2, q2, _, rfl, rfl, _, r2⟩ := trodAll_cons r1
    obtain ⟨_, rfl, rfl⟩ := trodAll_nil r2
    rfl
  have hsh : ∃ d0 d1 d2 : DataW H, ds = [d0, d1, d2] := by
    match ds, hds with
    | [d0, d1, d2], _ => exact ⟨d0, d1, d2, rfl⟩
  obtain ⟨d0, d1, d2, rfl⟩ := hsh
  exact ⟨_, rfl, post_law (s := Rows.spanKeysSpec) laidOut (by kernel_rfl) Try.underlying4 rfl (by kernel_rfl) hW' rfl rfl rfl hb⟩
theorem spanKeys_over : Rows.spanKeysRow.holds Try.pinned (OpenSpec.ofChange Rows.spanKeysSpec) :=
  OpenClaim.holds_of_wide 9 Try.f9 rfl rfl rfl rfl rfl rfl rfl ⟨rfl, rfl, rfl, rfl, rfl⟩ rfl rfl rfl rfl rfl (by kernel_rfl) Try.func9 (by kernel_rfl)
    (of_decide_eq_true (by kernel_rfl)) (by unfold Func.isWrapper; first | (rw [if_pos (by decide +kernel)]; kernel_rfl) | (rw [if_neg (by decide +kernel)]; exact ⟨rfl, rfl⟩))
    (fun os started H enc _ => spanKeys_lifted os started H enc)
/-- The statement. -/
theorem spanKeys_holds : Rows.SpanKeysSaid := spanKeys_over
end Go.Proofs.Ytlllcepoglklcaa
