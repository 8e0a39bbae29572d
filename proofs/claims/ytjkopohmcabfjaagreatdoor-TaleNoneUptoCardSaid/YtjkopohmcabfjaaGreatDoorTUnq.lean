/-
  tale.unquote: the text that a word is.
-/
import Derived.Test.YtjkopohmcabfjaaGreatDoorTQuote
import Derived.Test.YtjkopohmcabfjaaGreatDoorSplit
namespace Go.Proofs.YtjkopohmcabfjaaGreatDoor
open Go.RowKit
set_option linter.unusedVariables false
set_option linter.unusedSimpArgs false
/-- What three digits say. -/
def threeV (l : List UInt8) : Option UInt8 := match Lib.atoiAll l with
  | .ok v => if 0 ≤ v ∧ v ≤ 255 then some (UInt8.ofNat v.toNat) else none
  | _ => none
/-- What is behind the quote. -/
def unq : Nat → List UInt8 → Option (List UInt8)
  | _, [] => some []
  | 0, _ => none
  | k + 1, b :: r => if b.toNat ≠ 126 then (unq k r).map (b :: ·) else if r.length < 3 then none else match threeV (r.take 3) with
    | some c => (unq k (r.drop 3)).map (c :: ·)
    | none => none
def unquoteV (l : List UInt8) : List UInt8 × Bool := match l with
  | 39 :: r => match unq r.length r with
    | some x => (x, true)
    | none => ([], false)
  | _ => ([], false)
theorem unq_fuel : ∀ (k j : Nat) (l : List UInt8), l.length ≤ k → l.length ≤ j → unq k l = unq j l
  | k, j, [], _, _ => by cases k <;> cases j <;> rfl
  | 0, _, b :: r, h, _ => by simp at h
  | _, 0, b :: r, _, h => by simp at h
  | k + 1, j + 1, b :: r, h1, h2 => by
    simp only [List.length_cons] at h1 h2
    have e1 := unq_fuel k j r (by omega) (by omega)
    have e2 := unq_fuel k j (r.drop 3) (by rw [List.length_drop]; omega) (by rw [List.length_drop]; omega)
    simp only [unq, e1, e2]
theorem unq_plain {b : UInt8} {r : List UInt8} (h : b.toNat ≠ 126) : unq (b :: r).length (b :: r) = (unq r.length r).map (b :: ·) := by
  simp only [List.length_cons, unq, if_pos h]
theorem unq_short {b : UInt8} {r : List UInt8} (h : b.toNat = 126) (hr : r.length < 3) : unq (b :: r).length (b :: r) = none := by
  simp only [List.length_cons, unq, h]; simp [hr]
theorem unq_bad {b : UInt8} {r : List UInt8} (h : b.toNat = 126) (ht : threeV (r.take 3) = none) : unq (b :: r).length (b :: r) = none := by
  simp only [List.length_cons, unq, h, ht]; simp
theorem unq_three {b c : UInt8} {r : List UInt8} (h : b.toNat = 126) (hr : ¬ r.length < 3) (ht : threeV (r.take 3) = some c) : unq (b :: r).length (b :: r) = (unq (r.drop 3).length (r.drop 3)).map (c :: ·) := by
  have e := unq_fuel r.length (r.drop 3).length (r.drop 3) (by rw [List.length_drop]; omega) (Nat.le_refl _)
  simp only [List.length_cons, unq, h, ht, e]; simp [hr]
theorem atoi_any {B : Nat} {w : World} (h : Env B w) (s : ByteArray) (hs : s.size ≤ 281474976710656) :
    Calls Tryz.prog 8 #[.string s] w fun e w' => (∃ v, Lib.atoiAll s.data.toList = .ok v ∧ e = .returned (.tuple #[.int .i64 v, .nilIface]) ∨ (∀ v, Lib.atoiAll s.data.toList ≠ .ok v) ∧ ∃ N, e = .returned (.tuple #[.int .i64 v, .iface 118 (.pointer (some ⟨N, 0, none⟩))])) ∧ Later w w' := by
  obtain ⟨t, p, s1, s2⟩ := h.syn
  obtain ⟨t', p', r1, r2⟩ := h.rng
  cases hc : Lib.atoiAll s.data.toList with
  | ok v =>
    refine (Tryz.strconv_Atoi_ok s (by omega) v hc w).mono ?_
    rintro e w' ⟨rfl, hw⟩
    refine ⟨⟨v, .inl ⟨rfl, rfl⟩⟩, ?_⟩
    rcases hw with rfl | ⟨t, rfl⟩
    · exact Later.refl _
    · exact Lib.bytesWorld_below w _ t
  | «syntax» =>
    refine (Tryz.strconv_Atoi_syntax s hs hc _ w s2 (.inr ⟨_, _, rfl⟩)).mono ?_
    rintro e w' ⟨N, rfl, h1, _, h2⟩
    exact ⟨⟨_, .inr ⟨(fun v h => nomatch h), N, rfl⟩⟩, h2⟩
  | range =>
    refine (Tryz.strconv_Atoi_range s hs hc _ w r2 (.inr ⟨_, _, rfl⟩)).mono ?_
    rintro e w' ⟨N, rfl, h1, _, h2⟩
    exact ⟨⟨_, .inr ⟨(fun v h => nomatch h), N, rfl⟩⟩, h2⟩
/-- What unquote leaves: its answer. -/
def UnqPost (l : List UInt8) (w : World) (e : Ending) (w' : World) : Prop := e = .returned (.tuple #[.string ⟨(unquoteV l).1.toArray⟩, .bool (unquoteV l).2]) ∧ Later w w'
theorem ba_cons (b : UInt8) (r : List UInt8) : (⟨(b :: r).toArray⟩ : ByteArray).extract 1 (r.length + 1) = ⟨r.toArray⟩ := by
  apply ba_ext
  have h := Lib.extract_to_end (⟨(b :: r).toArray⟩ : ByteArray) 1
  rw [show (⟨(b :: r).toArray⟩ : ByteArray).size = r.length + 1 from rfl] at h
  rw [h]; rfl
theorem ba_three (b : UInt8) (r : List UInt8) : (⟨(b :: r).toArray⟩ : ByteArray).extract 1 4 = ⟨(r.take 3).toArray⟩ := by
  apply ba_ext
  rw [Lib.extract_data]; rfl
theorem ba_rest (b : UInt8) (r : List UInt8) : (⟨(b :: r).toArray⟩ : ByteArray).extract 4 (r.length + 1) = ⟨(r.drop 3).toArray⟩ := by
  apply ba_ext
  have h := Lib.extract_to_end (⟨(b :: r).toArray⟩ : ByteArray) 4
  rw [show (⟨(b :: r).toArray⟩ : ByteArray).size = r.length + 1 from rfl] at h
  rw [h]; rfl
set_option maxHeartbeats 4000000 in
set_option maxRecDepth 100000 in
theorem unquote_any {B : Nat} {w : World} (h : Env B w) (s : ByteArray) (hlen : s.size ≤ 140737488355328) :
    Calls Tryz.prog 26 #[.string s] w (UnqPost s.data.toList w) := by
  have HE := hide_ h
  have hcp := Tryz.strings_CutPrefix s ⟨#[39]⟩ w
  by_cases hq : ∃ r, s.data.toList = 39 :: r
  · obtain ⟨r, hr⟩ := hq
    have hh : Lib.hasPrefix s.data.toList [39] = true := by rw [hr]; rfl
    have ht : Lib.trimPrefix s.data.toList [39] = r := by rw [hr]; rfl
    have hrl : r.length < s.size := by have h := congrArg List.length hr; rw [Array.length_toList] at h; simp at h; have : s.data.size = s.size := rfl; omega
    have hcp2 : Calls Tryz.prog 56 #[.string s, .string ⟨#[39]⟩] w fun e w' => e = .returned (.tuple #[.string ⟨r.toArray⟩, .bool true]) ∧ w' = w := by
      have e : (⟨#[39]⟩ : ByteArray).data.toList = [39] := rfl
      rw [e, hh, ht] at hcp; exact hcp
    have HCP := hide_ hcp2
    have HR := hide_ hr
    clear hcp hh ht hcp2 h hr
    go_enter Tryz.func26, Tryz.ntmps26
    go_wp2_with fail
    refine HCP.out.mono ?_; rintro e w1 ⟨rfl, rfl⟩
    go_wp2_with fail
    go_loopw [0, 5] (fun s0 s5 wr => ∃ (R acc : List UInt8) (v : Value), R.length ≤ r.length ∧ s0 = .string ⟨R.toArray⟩ ∧ s5 = v ∧ acc.length + R.length ≤ r.length ∧ Hid (unq r.length r = (unq R.length R).map (acc ++ ·)) ∧ Hid (wr.ownsRow w1.heap.size 5 1 v acc.length (bvs acc)) ∧ Hid (Later w1 wr)) (fun s0 _ _ => match s0 with | .string t => t.size | _ => 0)
    case atStart => exact ⟨r, [], .slice none 0 0, by omega, rfl, rfl, by simp, hide_ (by simp), hide_ (World.ownsRow_nil _ _ _ _), hide_ (Later.refl _)⟩
    case round =>
      obtain ⟨R, acc, v, hR1, rfl, rfl, hR2, HU, HO, HL⟩ := hrel
      obtain ⟨A0, c0, hv⟩ := own_form HO.out
      subst hv
      have hwl : w1.heap.size ≤ wr.heap.size := HL.out.size
      match R with
      | [] =>
        have hs : (convert 49 9 (.slice A0 acc.length c0)).run Tryz.prog wr = .ok (.string ⟨acc.toArray⟩) wr := run_str_n _ _ 5 c0 rfl Tryz.underlying49 Tryz.underlying5 Tryz.underlying9 (own_nil HO.out) (Rd.of_own HO.out)
        have HV := hide_ (show unquoteV s.data.toList = (acc, true) by
          have h := HU.out
          rw [HR.out]; show (match unq r.length r with | some x => (x, true) | none => ([], false)) = _; rw [h]; simp [unq])
        go_wp2_with fail
        go_ret2
        exact ⟨by rw [HV.out]; rfl, HL.out⟩
      | b :: R =>
        simp only [List.length_cons] at hR1 hR2
        have hR3 : (R.length : Int) ≤ 140737488355328 := by omega
        have hix : ((⟨(b :: R).toArray⟩ : ByteArray)[0]'(by show 0 < (b :: R).toArray.size; simp)).toNat = b.toNat := rfl
        have hcons := ba_cons b R
        have h1R : (1 : Int) ≤ (R.length : Int) + 1 := by omega
        by_cases hb : b.toNat = 126
        rotate_left
        · have hne : ((b.toNat : Int) != 126) = true := by rw [bne_iff_ne]; omega
          have HU2 := hide_ (show unq r.length r = (unq R.length R).map ((acc ++ [b]) ++ ·) by rw [HU.out, unq_plain hb, Option.map_map]; congr 1; funext x; simp)
          clear hb
          go_wp2_with fail
          refine wp_region_l [4] (by kernel_rfl) ?_
          refine wpAnyL_pure 0 (v := ?_) rfl (by kernel_rfl) (by kernel_rfl) (by kernel_rfl) (fun _ _ _ h => h) (by rfl) (by intro W; go_simp; with_reducible rfl) ?_; try simp only [Act.put, List.setIfInBounds_toArray, List.set_cons_zero, List.set_cons_succ]
          refine wpAnyL_pure 1 (v := ?_) rfl (by kernel_rfl) (by kernel_rfl) (by kernel_rfl) (fun _ _ _ h => h) (by rfl) (by intro W; go_simp; with_reducible rfl) ?_; try simp only [Act.put, List.setIfInBounds_toArray, List.set_cons_zero, List.set_cons_succ]
          refine wpAnyL_pure 2 (v := ?_) rfl (by kernel_rfl) (by kernel_rfl) (by kernel_rfl) (fun _ _ _ h => h) (by rfl) (by intro W; go_simp; with_reducible rfl) ?_; try simp only [Act.put, List.setIfInBounds_toArray, List.set_cons_zero, List.set_cons_succ]
          refine wpAnyL_pure 5 (v := ?_) rfl (by kernel_rfl) (by kernel_rfl) (by kernel_rfl) (fun _ _ _ h => h) (by rfl) (by intro W; go_simp; with_reducible rfl) ?_; try simp only [Act.put, List.setIfInBounds_toArray, List.set_cons_zero, List.set_cons_succ]
          refine wpAnyL_pure 6 (v := ?_) rfl (by kernel_rfl) (by kernel_rfl) (by kernel_rfl) (fun _ _ _ h => h) (by rfl) (by intro W; go_simp; with_reducible rfl) ?_; try simp only [Act.put, List.setIfInBounds_toArray, List.set_cons_zero, List.set_cons_succ]
          refine wpAnyL_one 3 (by kernel_rfl) rfl (fun K hK => ?_)
          go_simp
          first | refine hK.out _ _ (by assumption) ?_ | refine hK.out _ _ (Later.refl _) ?_ | refine hK.out _ _ (Below.alloc (Below.refl _ _) (Nat.le_refl _) _) ?_
          clear hK K; try simp only [Act.put, List.setIfInBounds_toArray, List.set_cons_zero, List.set_cons_succ]
          refine wpAnyL_loud 4 (by kernel_rfl) (by rfl) rfl (fun K hK => ?_)
          refine step_append_rd (by rfl) (.tmp 21) (.tmp 24) 49 rfl w1.heap.size 5 1 1 byteT _ acc.length (bvs acc) rfl (HO.out.drew.alloc _) _ 1 1 [bv b] rfl (Rd.newAt _ #[bv b] 5 1 1 _ (0, 0) rfl rfl) (by simp [bv, Value.oneCell']) (by omega) (by unfold maxLen; omega) (by simp; omega) (fun h => nomatch h) ?_; intro v8 w8 hown8 hg8 hat8; have HO8 := hide_ (show w8.ownsRow w1.heap.size 5 1 v8 (acc ++ [b]).length (bvs (acc ++ [b])) by simpa [bvs] using hown8); have HL8 := hide_ (show Later w1 w8 from own_grown (Below.alloc (below_drewN HL.out 1) hwl _) (HO.out.drew.alloc _) hg8 (by simp; omega)); clear hown8 hg8 hat8
          refine hK.out _ _ ?_
          clear hK K; try simp only [Act.put, List.setIfInBounds_toArray, List.set_cons_zero, List.set_cons_succ]
          refine wpAnyL_pure 7 (v := ?_) rfl (by kernel_rfl) (by kernel_rfl) (by kernel_rfl) (fun _ _ _ h => h) (by rfl) (by intro W; go_simp; with_reducible rfl) ?_; try simp only [Act.put, List.setIfInBounds_toArray, List.set_cons_zero, List.set_cons_succ]
          refine wpAnyL_pure 8 (v := ?_) rfl (by kernel_rfl) (by kernel_rfl) (by kernel_rfl) (fun _ _ _ h => h) (by rfl) (by intro W; go_simp; with_reducible rfl) ?_; try simp only [Act.put, List.setIfInBounds_toArray, List.set_cons_zero, List.set_cons_succ]
          refine wpAnyL_done (by kernel_rfl) ?_ _
          go_wp2_with fail
          go_roundw
          case rel => exact ⟨R, acc ++ [b], v8, by omega, rfl, rfl, by simp; omega, HU2, HO8, HL8⟩
          case measure => show (⟨R.toArray⟩ : ByteArray).size < (⟨(b :: R).toArray⟩ : ByteArray).size; show R.toArray.size < (b :: R).toArray.size; simp
        · have hne : ((b.toNat : Int) != 126) = false := by rw [bne_eq_false_iff_eq]; omega
          by_cases h4 : R.length < 3
          · have d4 : decide ((R.length : Int) + 1 < 4) = true := decide_eq_true (by omega)
            have HV := hide_ (show unquoteV s.data.toList = ([], false) by
              have h := HU.out
              rw [unq_short hb h4] at h
              rw [HR.out]; show (match unq r.length r with | some x => (x, true) | none => ([], false)) = _; rw [h]; rfl)
            clear hb
            go_wp2_with fail
            go_ret2
            exact ⟨by rw [HV.out]; rfl, HL.out⟩
          · have d4 : decide ((R.length : Int) + 1 < 4) = false := decide_eq_false (by omega)
            have h3 := ba_three b R
            have h3r := ba_rest b R
            have h4R : (4 : Int) ≤ (R.length : Int) + 1 := by omega
            have HAT := hide_ (atoi_any (HE.out.later HL.out) ⟨(R.take 3).toArray⟩ (by show (R.take 3).toArray.size ≤ _; simp; omega))
            have HB := hide_ hb
            clear hb
            go_wp2_with fail
            refine HAT.out.mono ?_; rintro e w5 ⟨⟨n, hc⟩, hl5⟩
            have HL5 := hide_ (HL.out.trans hl5)
            have HO5 := hide_ (show w5.ownsRow w1.heap.size 5 1 (.slice A0 acc.length c0) acc.length (bvs acc) by
              refine ⟨HO.out.1, ?_⟩
              rcases HO.out.2 with h0 | ⟨g, cap, cur, hv, hg, hh, hr⟩
              · exact .inl h0
              · exact .inr ⟨g, cap, cur, hv, hg, (hl5.block g (theap_lt hh)).trans hh, hr⟩)
            have hwl5 : w1.heap.size ≤ w5.heap.size := HL5.out.size
            clear hl5
            rcases hc with ⟨hc1, rfl⟩ | ⟨hc1, N, rfl⟩
            rotate_left
            · have HV := hide_ (show unquoteV s.data.toList = ([], false) by
                have h := HU.out
                rw [unq_bad HB.out (by
                  unfold threeV
                  split
                  · rename_i v hv; exact absurd hv (hc1 v)
                  · rfl)] at h
                rw [HR.out]; show (match unq r.length r with | some x => (x, true) | none => ([], false)) = _; rw [h]; rfl)
              clear hc1
              go_wp2_with fail
              go_ret2
              exact ⟨by rw [HV.out]; rfl, HL5.out⟩
            · have HC1 := hide_ (show Lib.atoiAll (R.take 3) = .ok n from hc1)
              clear hc1
              by_cases hv : 0 ≤ n ∧ n ≤ 255
              · obtain ⟨c, rfl⟩ : ∃ c : UInt8, n = (c.toNat : Int) := ⟨UInt8.ofNat n.toNat, by simp; omega⟩
                have g0 : (0 : Int) ≤ (c.toNat : Int) := hv.1
                have g1 : (c.toNat : Int) ≤ 255 := hv.2
                have ew : IntKind.u8.wrap (c.toNat : Int) = (c.toNat : Int) := by
                  simp only [IntKind.wrap, IntKind.signed, IntKind.bits]
                  simp; omega
                have HU2 := hide_ (show unq r.length r = (unq (R.drop 3).length (R.drop 3)).map ((acc ++ [c]) ++ ·) by
                  rw [HU.out, unq_three HB.out h4 (c := c) (by
                    unfold threeV; rw [HC1.out]; simp only [hv, and_self, if_true]; simp), Option.map_map]
                  congr 1; funext x; simp)
                have hdl : (R.drop 3).length ≤ R.length := by rw [List.length_drop]; omega
                clear hv
                go_wp2_with fail
                refine wp_region_l [4] (by kernel_rfl) ?_
                refine wpAnyL_pure 0 (v := ?_) rfl (by kernel_rfl) (by kernel_rfl) (by kernel_rfl) (fun _ _ _ h => h) (by rfl) (by intro W; go_simp; with_reducible rfl) ?_; try simp only [Act.put, List.setIfInBounds_toArray, List.set_cons_zero, List.set_cons_succ]
                refine wpAnyL_pure 1 (v := ?_) rfl (by kernel_rfl) (by kernel_rfl) (by kernel_rfl) (fun _ _ _ h => h) (by rfl) (by intro W; go_simp; with_reducible rfl) ?_; try simp only [Act.put, List.setIfInBounds_toArray, List.set_cons_zero, List.set_cons_succ]
                refine wpAnyL_take 2 (v := ?_) rfl (by kernel_rfl) (by kernel_rfl) (by kernel_rfl) (by kernel_rfl) (fun _ _ _ h => h) (by rfl) (by intro W hSw; go_simp; with_reducible rfl) ?_; try simp only [Act.put, List.setIfInBounds_toArray, List.set_cons_zero, List.set_cons_succ]
                refine wpAnyL_pure 5 (v := ?_) rfl (by kernel_rfl) (by kernel_rfl) (by kernel_rfl) (fun _ _ _ h => h) (by rfl) (by intro W; go_simp; with_reducible rfl) ?_; try simp only [Act.put, List.setIfInBounds_toArray, List.set_cons_zero, List.set_cons_succ]
                refine wpAnyL_pure 6 (v := ?_) rfl (by kernel_rfl) (by kernel_rfl) (by kernel_rfl) (fun _ _ _ h => h) (by rfl) (by intro W; go_simp; with_reducible rfl) ?_; try simp only [Act.put, List.setIfInBounds_toArray, List.set_cons_zero, List.set_cons_succ]
                refine wpAnyL_one 3 (by kernel_rfl) rfl (fun K hK => ?_)
                go_simp
                first | refine hK.out _ _ (by assumption) ?_ | refine hK.out _ _ (Later.refl _) ?_ | refine hK.out _ _ (Below.alloc (Below.refl _ _) (Nat.le_refl _) _) ?_
                clear hK K; try simp only [Act.put, List.setIfInBounds_toArray, List.set_cons_zero, List.set_cons_succ]
                refine wpAnyL_loud 4 (by kernel_rfl) (by rfl) rfl (fun K hK => ?_)
                refine step_append_rd (by rfl) (.tmp 47) (.tmp 50) 49 rfl w1.heap.size 5 1 1 byteT _ acc.length (bvs acc) rfl (HO5.out.drew.alloc _) _ 1 1 [bv c] rfl (Rd.newAt _ #[bv c] 5 1 1 _ (0, 0) rfl rfl) (by simp [bv, Value.oneCell']) (by omega) (by unfold maxLen; omega) (by simp; omega) (fun h => nomatch h) ?_; intro v8 w8 hown8 hg8 hat8; have HO8 := hide_ (show w8.ownsRow w1.heap.size 5 1 v8 (acc ++ [c]).length (bvs (acc ++ [c])) by simpa [bvs] using hown8); have HL8 := hide_ (show Later w1 w8 from own_grown (Below.alloc (below_drewN HL5.out 1) hwl5 _) (HO5.out.drew.alloc _) hg8 (by simp; omega)); clear hown8 hg8 hat8
                refine hK.out _ _ ?_
                clear hK K; try simp only [Act.put, List.setIfInBounds_toArray, List.set_cons_zero, List.set_cons_succ]
                refine wpAnyL_pure 7 (v := ?_) rfl (by kernel_rfl) (by kernel_rfl) (by kernel_rfl) (fun _ _ _ h => h) (by rfl) (by intro W; go_simp; with_reducible rfl) ?_; try simp only [Act.put, List.setIfInBounds_toArray, List.set_cons_zero, List.set_cons_succ]
                refine wpAnyL_pure 8 (v := ?_) rfl (by kernel_rfl) (by kernel_rfl) (by kernel_rfl) (fun _ _ _ h => h) (by rfl) (by intro W; go_simp; with_reducible rfl) ?_; try simp only [Act.put, List.setIfInBounds_toArray, List.set_cons_zero, List.set_cons_succ]
                refine wpAnyL_done (by kernel_rfl) ?_ _
                clear ew
                go_wp2_with fail
                go_roundw
                case rel => exact ⟨R.drop 3, acc ++ [c], v8, by omega, rfl, rfl, by simp; omega, HU2, HO8, HL8⟩
                case measure => show (R.drop 3).toArray.size < (b :: R).toArray.size; simp; omega
              · have hv2 : n < 0 ∨ (¬ n < 0 ∧ 255 < n) := by omega
                have HV := hide_ (show unquoteV s.data.toList = ([], false) by
                  have h := HU.out
                  rw [unq_bad HB.out (by unfold threeV; rw [HC1.out]; simp only [if_neg hv])] at h
                  rw [HR.out]; show (match unq r.length r with | some x => (x, true) | none => ([], false)) = _; rw [h]; rfl)
                clear hv
                rcases hv2 with hv2 | ⟨hv2, hv3⟩
                all_goals
                  go_wp2_with fail
                  go_ret2
                  exact ⟨by rw [HV.out]; rfl, HL5.out⟩
  · have hh : Lib.hasPrefix s.data.toList [39] = false := by
      cases hc : s.data.toList with
      | nil => rfl
      | cons b r =>
        cases hx : Lib.hasPrefix (b :: r) [39] with
        | false => rfl
        | true =>
          exfalso; apply hq
          refine ⟨r, ?_⟩
          have : b = 39 := (show 39 = b by simpa [Lib.hasPrefix] using hx).symm
          rw [hc, this]
    have HV := hide_ (show unquoteV s.data.toList = ([], false) by
      unfold unquoteV
      split
      · rename_i r hr; exact absurd ⟨r, hr⟩ hq
      · rfl)
    have hcp2 : ∃ t, Calls Tryz.prog 56 #[.string s, .string ⟨#[39]⟩] w fun e w' => e = .returned (.tuple #[.string t, .bool false]) ∧ w' = w := by
      have e : (⟨#[39]⟩ : ByteArray).data.toList = [39] := rfl
      rw [e, hh] at hcp; exact ⟨_, hcp⟩
    obtain ⟨t, hcp2⟩ := hcp2
    have HCP := hide_ hcp2
    clear hcp hh hcp2 h hq
    go_enter Tryz.func26, Tryz.ntmps26
    go_wp2_with fail
    refine HCP.out.mono ?_; rintro e w1 ⟨rfl, rfl⟩
    go_wp2_with fail
    have hs0 := run_convert_bytes_nil (P := Tryz.prog) w1 49 5 Tryz.underlying49 Tryz.underlying5 0 0 9 Tryz.underlying9
    refine wp_loop_rounds 1 ?_; rw [rounds_succ]
    go_wp2_with fail
    go_ret2
    exact ⟨by rw [HV.out]; rfl, Later.refl _⟩

end Go.Proofs.YtjkopohmcabfjaaGreatDoor
