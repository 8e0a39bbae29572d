/-
  The document's Least.
-/
import Derived.Test.YtblljpdlmllceaaKLeastSum
import Derived.Test.YtblljpdlmllceaaKCanonLen
namespace Go.Proofs.Ytblljpdlmllceaa
open Go.RowKit
set_option linter.unusedVariables false
set_option linter.unusedSimpArgs false
/-- What the document's Least answers. -/
def RLeastPost (C : List Chg) (w : World) (e : Ending) (w' : World) : Prop :=
  (∃ (u : Value) (n : Nat) (R : List Spn) (M : List Pr), e = .returned u ∧ Canon R ∧ (∀ x, InL R x ↔ goneOf C x) ∧ AppOf [] C M ∧ (leastC R M).length = n ∧ w'.ownsRow w.heap.size 32 3 u n (crow (leastC R M))) ∧ Later w w'
set_option maxRecDepth 100000 in
set_option maxHeartbeats 8000000 in
theorem rleast_any {w : World} {A : Option Addr} {p c : Nat} {C : List Chg} (hr : Rd w 3 A p (crow C)) (hl : C.length = p) (hn : p ≤ 1000) (h0 : chkAll C = 0) :
    Calls Try.prog 31 #[.slice A p c] w (RLeastPost C w) := by
  have HL := hide_ hl
  obtain ⟨w1, hw1⟩ : ∃ w1, w1 = (w.alloc (.cells #[] 55)).alloc (.cells #[] 34) := ⟨_, rfl⟩
  have HB1 := hide_ (show Later w w1 by rw [hw1]; exact ((Below.refl _ _).alloc (Nat.le_refl _) _).alloc (by simp) _)
  have HR := hide_ hr
  have HP1 := hide_ (show w1.ownsRow w.heap.size 55 2 (.slice (some ⟨w.heap.size, 0, none⟩) 0 0) 0 (prow []) by rw [hw1]; exact (own_new w #[] 55 2 0 w.heap.size rfl (Nat.zero_le _) (Nat.le_refl _)).alloc _)
  have HG1 := hide_ (show w1.ownsRow w.heap.size 34 2 (.slice (some ⟨w.heap.size + 1, 0, none⟩) 0 0) 0 (srow []) by
    rw [hw1]
    have h := own_new (w.alloc (.cells #[] 55)) #[] 34 2 0 w.heap.size rfl (Nat.zero_le _) (by simp)
    rwa [show (w.alloc (.cells #[] 55)).heap.size = w.heap.size + 1 by simp] at h)
  have HW := hide_ hw1.symm
  have HC0 := hide_ h0
  have HMEM := hide_ (fun c (hc : c ∈ C) => chk_size (chkAll_mem h0 c hc))
  have HKIND := hide_ (fun c (hc : c ∈ C) => chk_kind (chkAll_mem h0 c hc))
  have hn2 : (p : Int) ≤ 1000 := by omega
  clear hr hl hw1 h0
  go_enter Try.func31, Try.ntmps31
  go_wp2_with fail
  rw [HW.out]
  go_loopw [3, 4, 5] (fun s3 s4 s5 wr => ∃ (k q m : Nat) (G : List Spn) (M : List Pr), k ≤ p ∧ s5 = .int .i64 k ∧ q ≤ k * k ∧ Hid (G.length = q) ∧ Hid (GoneInv C k G) ∧ Hid (wr.ownsRow w.heap.size 34 2 s4 q (srow G)) ∧ m ≤ k ∧ Hid (M.length = m) ∧ Hid (Ris M) ∧ Hid (AppOf [] (C.take k) M) ∧ Hid (wr.ownsRow w.heap.size 55 2 s3 m (prow M)) ∧ Hid (Later w wr)) (fun _ _ i _ => p - (intOf i).toNat)
  case atStart => exact ⟨0, 0, 0, [], [], Nat.zero_le _, rfl, Nat.zero_le _, hide_ rfl, hide_ (gone_start C), HG1, Nat.le_refl _, hide_ rfl, hide_ List.Pairwise.nil, hide_ rfl, HP1, HB1⟩
  case round =>
    obtain ⟨k, q, m, G, M, hkp, rfl, hqk, HQ, HGI, HG, hmk, HM, HRI, HAP, HP, HB⟩ := hrel
    have HRC := hide_ (HR.out.below HB.out)
    obtain ⟨A4, c4, rfl⟩ := own_form HG.out
    obtain ⟨A3, c3, rfl⟩ := own_form HP.out
    have hkk : k * k ≤ 1000 * 1000 := Nat.mul_le_mul (by omega) (by omega)
    by_cases hlt : k < p
    · obtain ⟨x, hx⟩ : ∃ x, C[k]? = some x := ⟨_, List.getElem?_eq_getElem (by rw [HL.out]; exact hlt)⟩
      obtain ⟨b, o, rfl, l0, l1, l2⟩ := HRC.out.chg hx
      obtain ⟨kd, kx, vx⟩ := x
      have q1 : (k : Int) < (p : Int) := by omega
      have q2 : (0 : Int) ≤ (k : Int) := by omega
      have q3 : (k : Int) ≤ 1000 := by omega
      have HT := hide_ (take_snoc hx)
      have HX := hide_ hx
      have HKX := hide_ (HMEM.out _ (List.mem_of_getElem? hx))
      have HKD := hide_ (HKIND.out _ (List.mem_of_getElem? hx))
      have hone := hide_ (rone_any (c := c3) kd kx vx (by have h : (kd, kx, vx).2.1.size ≤ 17 := HKX.out; exact Nat.le_trans h (by decide)) (Rd.of_own HP.out) HM.out HRI.out (by omega))
      clear hx
      go_wp2_with fail
      refine hone.out.mono ?_; rintro e w2 ⟨⟨u2, M2, m2, rfl, hm2, hmm2, hone2, ho2⟩, hb2⟩
      obtain ⟨A2, c2, rfl⟩ := own_form ho2
      have HM2 := hide_ hm2; have HON := hide_ hone2; have HP2 := hide_ (own_base ho2 (Below.size HB.out))
      have HG2 := hide_ (own_below HG.out hb2)
      have HB2 := hide_ (Later.trans HB.out hb2)
      have HR2 := hide_ (HRC.out.below hb2)
      obtain ⟨b', o', hA', l0, l1, l2⟩ := HR2.out.chg HX.out
      injection hA' with hA'; injection hA' with hbb hoo
      subst hbb hoo
      have HAP2 := hide_ (show AppOf [] (C.take (k + 1)) M2 by rw [HT.out]; exact app_snoc HAP.out HON.out)
      clear hm2 hone2 ho2 hb2 hone
      by_cases hk1 : kd = 1
      · subst hk1
        have HO2 := hide_ (own_new w2 #[] 34 2 0 w2.heap.size rfl (Nat.zero_le _) (Nat.le_refl _))
        have HL2 := hide_ (later_alloc w2 (.cells #[] 34))
        have hl3 := HL2.out
        generalize hW3 : w2.alloc (.cells #[] 34) = w3 at HO2 HL2 hl3
        have HW3 := hide_ hW3
        clear hW3 hl3
        go_wp2_with (first | (rw [HW3.out]) | fail)
        have hsn : spanC 1 kx vx = spanC 1 kx vx := rfl
        generalize hsn' : spanC 1 kx vx = sn at hsn
        have HSN := hide_ hsn'
        have hsp := hide_ (fun W => rspan_any 1 kx vx (by have := HKX.out; omega) W)
        rw [hsn'] at hsp
        have HRG := hide_ (Rd.of_own HG2.out)
        clear hsn hsn' l0 l1 l2
        go_loopw [6, 7] (fun s6 s7 wi => ∃ (j r : Nat) (O : List Spn), j ≤ q ∧ s7 = .int .i64 j ∧ Hid (O.length = r) ∧ Hid (LeftInv G kx j O) ∧ Hid (wi.ownsRow w2.heap.size 34 2 s6 r (srow O)) ∧ Hid (Later w2 wi)) (fun _ j _ => q - (intOf j).toNat)
        case atStart => exact ⟨0, 0, [], Nat.zero_le _, rfl, hide_ rfl, hide_ (left_start G kx), HO2, HL2⟩
        case round =>
          obtain ⟨j, r, O, hjq, rfl, HOL, HLI, HO, HBI⟩ := hrel
          obtain ⟨A6, c6, rfl⟩ := own_form HO.out
          by_cases hjlt : j < q
          · obtain ⟨g, hg⟩ : ∃ g, G[j]? = some g := ⟨_, List.getElem?_eq_getElem (by rw [HQ.out]; exact hjlt)⟩
            obtain ⟨gb, go, rfl, t0, t1⟩ := (HRG.out.below HBI.out).span hg
            obtain ⟨b', o', hA', l0, l1, l2⟩ := (HR2.out.below HBI.out).chg HX.out
            injection hA' with hA'; injection hA' with hbb hoo
            subst hbb hoo
            have j1 : (j : Int) < (q : Int) := by omega
            have j2 : (0 : Int) ≤ (j : Int) := by omega
            have j3 : (j : Int) ≤ 1048576 := by omega
            have HGJ := hide_ hg
            have t0' := later_drew_cell t0
            have t1' := later_drew_cell t1
            have l0' := later_drew_cell l0
            have l1' := later_drew_cell l1
            have l2' := later_drew_cell l2
            have hwo := hide_ (fun (W : World) (b1 : Nat) (hb : Rd W 2 (some ⟨b1, 0, none⟩) 1 (srow [sn])) => rwithout_any (c := 1) g hb (fun h => nomatch h) rfl (by omega))
            have HOd := hide_ (show wr.drew.ownsRow w2.heap.size 34 2 (.slice A6 r c6) r (srow O) from HO.out)
            have HBd := hide_ (show Later w2 wr.drew from HBI.out.drew)
            have hrn : r ≤ 2199023255552 := by
              have h1 := HLI.out.1
              have h2 := mult_le (G.take j) kx
              rw [List.length_take] at h2
              rw [HOL.out] at h1
              omega
            clear hg t0 t1 l0 l1 l2
            go_wp2_with fail
            refine wp_region_l [12] (by kernel_rfl) ?_
            refine wpAnyL_pure 0 (v := ?_) rfl (by kernel_rfl) (by kernel_rfl) (by kernel_rfl) (fun _ _ _ h => h) (by rfl) (by intro W; go_simp; with_reducible rfl) ?_; try simp only [Act.put, List.setIfInBounds_toArray, List.set_cons_zero, List.set_cons_succ]
            refine wpAnyL_pure 1 (v := ?_) rfl (by kernel_rfl) (by kernel_rfl) (by kernel_rfl) (fun _ _ _ h => h) (by rfl) (by intro W; go_simp; with_reducible rfl) ?_; try simp only [Act.put, List.setIfInBounds_toArray, List.set_cons_zero, List.set_cons_succ]
            refine wpAnyL_pure 2 (v := ?_) rfl (by kernel_rfl) (by kernel_rfl) (by kernel_rfl) (fun _ _ _ h => h) (by rfl) (by intro W; go_simp; with_reducible rfl) ?_; try simp only [Act.put, List.setIfInBounds_toArray, List.set_cons_zero, List.set_cons_succ]
            refine wpAnyL_pure 3 (v := ?_) rfl (by kernel_rfl) (by kernel_rfl) (by kernel_rfl) (fun _ _ _ h => h) (by rfl) (by intro W; go_simp; with_reducible rfl) ?_; try simp only [Act.put, List.setIfInBounds_toArray, List.set_cons_zero, List.set_cons_succ]
            refine wpAnyL_take 4 (v := ?_) rfl (by kernel_rfl) (by kernel_rfl) (by kernel_rfl) (by kernel_rfl) (fun _ _ _ h => h) (by rfl) (by intro W hSw; go_simp; with_reducible rfl) ?_; try simp only [Act.put, List.setIfInBounds_toArray, List.set_cons_zero, List.set_cons_succ]
            refine wpAnyL_pure 5 (v := ?_) rfl (by kernel_rfl) (by kernel_rfl) (by kernel_rfl) (fun _ _ _ h => h) (by rfl) (by intro W; go_simp; with_reducible rfl) ?_; try simp only [Act.put, List.setIfInBounds_toArray, List.set_cons_zero, List.set_cons_succ]
            refine wpAnyL_pure 6 (v := ?_) rfl (by kernel_rfl) (by kernel_rfl) (by kernel_rfl) (fun _ _ _ h => h) (by rfl) (by intro W; go_simp; with_reducible rfl) ?_; try simp only [Act.put, List.setIfInBounds_toArray, List.set_cons_zero, List.set_cons_succ]
            refine wpAnyL_pure 7 (v := ?_) rfl (by kernel_rfl) (by kernel_rfl) (by kernel_rfl) (fun _ _ _ h => h) (by rfl) (by intro W; go_simp; with_reducible rfl) ?_; try simp only [Act.put, List.setIfInBounds_toArray, List.set_cons_zero, List.set_cons_succ]
            refine wpAnyL_take 8 (v := ?_) rfl (by kernel_rfl) (by kernel_rfl) (by kernel_rfl) (by kernel_rfl) (fun _ _ _ h => h) (by rfl) (by intro W hSw; go_simp; with_reducible rfl) ?_; try simp only [Act.put, List.setIfInBounds_toArray, List.set_cons_zero, List.set_cons_succ]
            refine wpAnyL_one 9 (by kernel_rfl) rfl (fun K hK => ?_)
            go_simp
            refine (hsp.out _).mono ?_; rintro e w5 ⟨rfl, hb5⟩; have HO5 := hide_ (own_below HOd.out hb5); have HB5 := hide_ (Later.trans HBd.out hb5)
            first | refine hK.out _ _ (by assumption) ?_ | refine hK.out _ _ (Later.refl _) ?_ | refine hK.out _ _ (Below.alloc (Below.refl _ _) (Nat.le_refl _) _) ?_
            clear hK K; try simp only [Act.put, List.setIfInBounds_toArray, List.set_cons_zero, List.set_cons_succ]
            refine wpAnyL_one 10 (by kernel_rfl) rfl (fun K hK => ?_)
            go_simp
            first | refine hK.out _ _ (by assumption) ?_ | refine hK.out _ _ (Later.refl _) ?_ | refine hK.out _ _ (Below.alloc (Below.refl _ _) (Nat.le_refl _) _) ?_
            clear hK K; try simp only [Act.put, List.setIfInBounds_toArray, List.set_cons_zero, List.set_cons_succ]
            refine wpAnyL_one 11 (by kernel_rfl) rfl (fun K hK => ?_)
            go_simp
            refine (hwo.out _ _ (Rd.newAt _ #[.string sn.1, .string sn.2] 34 1 2 _ (0, 0) rfl rfl)).mono ?_; rintro e w6 ⟨⟨v6, R6, n6, rfl, hn6, hc6, hk6, ho6⟩, hb6⟩; obtain ⟨A11, c11, rfl⟩ := own_form ho6; have hb6' : Later w5 w6 := Later.trans (later_alloc _ (.cells #[.string sn.1, .string sn.2] 34)) hb6; have HO6 := hide_ (own_below HO5.out hb6'); have HB6 := hide_ (Later.trans HB5.out hb6'); have HR6 := hide_ (Rd.of_own ho6); have HA6 := hide_ (own_cap2 ho6).1; have HN6 := hide_ hn6; have hk6' : ∀ x, InL R6 x ↔ InS g x ∧ ¬ x = kx := fun x => (by rw [hk6]; unfold But; rw [InL.cons, InL.cons]; simp only [InL.nil, or_false]; rw [← HSN.out, named_has]; unfold Named; rw [if_neg (by decide)]); have hn62 : n6 ≤ 2 := (by rw [← hn6]; exact without_two hc6 hk6'); have HLN := hide_ (left_next HLI.out HGJ.out hc6 hk6' (without_two hc6 hk6')); clear hn6 hc6 hk6 hk6' ho6 hb6'
            first | refine hK.out _ _ (by assumption) ?_ | refine hK.out _ _ (Later.refl _) ?_ | refine hK.out _ _ (Below.alloc (Below.refl _ _) (Nat.le_refl _) _) ?_
            clear hK K; try simp only [Act.put, List.setIfInBounds_toArray, List.set_cons_zero, List.set_cons_succ]
            refine wpAnyL_loud 12 (by kernel_rfl) (by rfl) rfl (fun K hK => ?_)
            refine step_append_rd (by rfl) (.tmp 47) (.tmp 58) 47 rfl w2.heap.size 34 2 32 spanT _ r (srow O) rfl HO6.out _ n6 _ (srow R6) rfl HR6.out (srow_one _) (by omega) (by unfold maxLen; omega) (Below.size HB6.out) HA6.out ?_; intro v8 w8 hown8 hg8 hat8; have HO8 := hide_ (show w8.ownsRow w2.heap.size 34 2 v8 (r + n6) (srow (O ++ R6)) by rw [show srow (O ++ R6) = srow O ++ srow R6 from rec_append _ _]; exact hown8); have HB8 := hide_ (show Later w2 w8 from own_grown HB6.out HO6.out hg8 (Below.size HB6.out)); clear hown8 hg8 hat8
            refine hK.out _ _ ?_
            clear hK K; try simp only [Act.put, List.setIfInBounds_toArray, List.set_cons_zero, List.set_cons_succ]
            refine wpAnyL_pure 13 (v := ?_) rfl (by kernel_rfl) (by kernel_rfl) (by kernel_rfl) (fun _ _ _ h => h) (by rfl) (by intro W; go_simp; with_reducible rfl) ?_; try simp only [Act.put, List.setIfInBounds_toArray, List.set_cons_zero, List.set_cons_succ]
            refine wpAnyL_done (by kernel_rfl) ?_ _
            clear t0' t1' l0' l1' l2' hwo
            go_wp2_with fail
            go_roundw
            case rel => exact ⟨j + 1, r + n6, O ++ R6, by omega, by go_num, hide_ (by rw [List.length_append, HOL.out, HN6.out]), HLN, HO8, HB8⟩
            case measure => simp [intOf]; omega
          · have hnl : ¬ (j : Int) < (q : Int) := by omega
            obtain rfl : j = q := by omega
            have hGI := hide_ (show GoneInv C (k + 1) O from gone_left (v := vx) HGI.out HX.out (by rw [HQ.out]; exact HLI.out))
            have hq7k : r ≤ (k + 1) * (k + 1) := by have := hGI.out.1; rwa [HOL.out] at this
            have HG7 := hide_ (own_base HO.out (Below.size HB2.out))
            have HP7 := hide_ (own_below HP2.out HBI.out)
            clear hjlt
            go_wp2_with fail
            go_roundw
            case rel => exact ⟨k + 1, r, m2, O, M2, by omega, by go_num, hq7k, HOL, hGI, HG7, by omega, HM2, hide_ HON.out.1, HAP2, HP7, hide_ (Later.trans HB2.out HBI.out)⟩
            case measure => simp [intOf]; omega
      · have hk1' : ¬ (1 : Int) = kd := fun h => hk1 h.symm
        have hk1b : (kd == 1) = false := beq_eq_false_iff_ne.2 hk1
        have hk1c : (kd != 1) = true := by simp [bne, hk1b]
        have HK1 := hide_ hk1
        have hsp := hide_ (fun W => rspan_any kd kx vx (by have := HKX.out; omega) W)
        have hGI := hide_ (gone_wipe HGI.out HX.out HK1.out)
        clear hk1
        go_wp2_with fail
        refine (hsp.out _).mono ?_; rintro e w3 ⟨rfl, hb3⟩
        have HG3 := hide_ (own_below HG2.out hb3)
        have HP3 := hide_ (own_below HP2.out hb3)
        have HB3 := hide_ (Later.trans HB2.out hb3)
        have HR3 := hide_ (HR2.out.below hb3)
        rw [show spanC (kd, kx, vx).1 (kd, kx, vx).2.1 (kd, kx, vx).2.2 = spanC kd kx vx from rfl] at hGI
        generalize spanC kd kx vx = sn at hGI ⊢
        clear hb3 hsp
        go_wp2_with (at_builtin; (refine wpList_append_rd _ rfl (.tmp 31) (.tmp 37) 47 rfl w.heap.size 34 2 32 spanT _ q (srow G) rfl (HG3.out.alloc _) _ 1 1 (encS sn) rfl (Rd.newAt _ #[.string sn.1, .string sn.2] 34 1 2 _ (0, 0) rfl rfl) (encS_one _) (by omega) (by unfold maxLen; omega) (by have := Below.size HB3.out; simp; omega) (fun h => nomatch h) ?_; intro v7 w7 hown8 hg8 hat8; obtain ⟨A7, c7, rfl⟩ := own_form hown8; have HG7 := hide_ (show w7.ownsRow w.heap.size 34 2 (.slice A7 (q + 1) c7) (q + 1) (srow (G ++ [sn])) by rw [srow_snoc]; exact hown8); have HP7 := hide_ (own_kept (HP3.out.alloc _) (HG3.out.alloc _) neP hg8); have HB7 := hide_ (show Later w w7 from own_grown (Below.alloc HB3.out (Below.size HB3.out) _) (HG3.out.alloc _) hg8 (by have := Below.size HB3.out; simp; omega)); have HGR := hide_ hg8; clear hown8 hg8 hat8))
        have hj := hide_ (rjoin_any (c := c7) (Rd.of_own HG7.out) (own_cap2 HG7.out).1 (by rw [List.length_append, HQ.out]; rfl) (by omega))
        refine hj.out.mono ?_; rintro e w8 ⟨⟨v8, R8, q8, rfl, hq8, hc8, hk8, ho8⟩, hb8⟩
        obtain ⟨A8, c8, rfl⟩ := own_form ho8
        have HGI8 := hide_ (gone_join hGI.out hc8 (fun x => by rw [hk8, but_nil]))
        have hq8k : q8 ≤ (k + 1) * (k + 1) := by have := HGI8.out.1; rwa [hq8] at this
        have HQ8 := hide_ hq8
        have HG8 := hide_ (own_base ho8 (Below.size HB7.out))
        have HP8 := hide_ (own_below HP7.out hb8)
        have HB8 := hide_ (Later.trans HB7.out hb8)
        clear hq8 hc8 hk8 ho8 hb8 hj
        go_wp2_with fail
        go_roundw
        case rel => exact ⟨k + 1, q8, m2, R8, M2, by omega, by go_num, hq8k, HQ8, HGI8, HG8, by omega, HM2, hide_ HON.out.1, HAP2, HP8, HB8⟩
        case measure => simp [intOf]; omega
    · have q1 : ¬ (k : Int) < (p : Int) := by omega
      obtain rfl : k = p := by omega
      have hF : C.take k = C := by rw [← HL.out, List.take_length]
      have HGN := hide_ (show ∀ x, InL G x ↔ goneOf C x by have := HGI.out.2.2; rwa [hF] at this)
      have HAPP := hide_ (show AppOf [] C M by have := HAP.out; rwa [hF] at this)
      have hj := hide_ (rjoin_any (c := c4) (Rd.of_own HG.out) (own_cap2 HG.out).1 HQ.out (by omega))
      have hlen := hide_ (fun (R : List Spn) (hc : Canon R) (hk : ∀ x, InL R x ↔ InL G x) => canon_len hc hk)
      clear hF
      go_wp2_with fail
      refine hj.out.mono ?_; rintro e w9 ⟨⟨v9, R, n9, rfl, hn9, hc9, hk9, ho9⟩, hb9⟩
      obtain ⟨A9, c9, rfl⟩ := own_form ho9
      have hk9' : ∀ x, InL R x ↔ InL G x := fun x => by rw [hk9, but_nil]
      have hn9q : n9 ≤ q := by rw [← hn9, ← HQ.out]; exact hlen.out R hc9 hk9'
      have hn9k : n9 ≤ 1000000 := by omega
      have HB9 := hide_ (Later.trans HB.out hb9)
      have HP9 := hide_ ((Rd.of_own HP.out).below hb9)
      have HR9 := hide_ (Rd.of_own ho9); have HC9 := hide_ hc9; have HN9 := hide_ hn9
      have HK9 := hide_ (show ∀ x, InL R x ↔ goneOf C x from fun x => by rw [hk9', HGN.out])
      have HSM := hide_ (gone_small HC0.out hc9 HK9.out)
      have HO9 := hide_ (own_new w9 #[] 32 3 0 w9.heap.size rfl (Nat.zero_le _) (Nat.le_refl _))
      have HL9 := hide_ (later_alloc w9 (.cells #[] 32))
      generalize hW9 : w9.alloc (.cells #[] 32) = w10 at HO9 HL9
      have HW10 := hide_ hW9
      clear hn9 hc9 hk9 hk9' ho9 hb9 hj hlen hW9 hkk
      go_wp2_with fail
      rw [HW10.out]
      go_loopw [8, 9] (fun s8 s9 wi => ∃ (i : Nat), i ≤ n9 ∧ s9 = .int .i64 i ∧ Hid (wi.ownsRow w9.heap.size 32 3 s8 i (crow ((R.take i).map goneC))) ∧ Hid (Later w9 wi)) (fun _ i _ => n9 - (intOf i).toNat)
      case atStart => exact ⟨0, Nat.zero_le _, rfl, HO9, HL9⟩
      case round =>
        obtain ⟨i, hin, rfl, HO, HBI⟩ := hrel
        obtain ⟨A8, c8, rfl⟩ := own_form HO.out
        by_cases hilt : i < n9
        · obtain ⟨g, hg⟩ : ∃ g, R[i]? = some g := ⟨_, List.getElem?_eq_getElem (by rw [HN9.out]; exact hilt)⟩
          obtain ⟨gb, go, rfl, t0, t1⟩ := (HR9.out.below HBI.out).span hg
          have j1 : (i : Int) < (n9 : Int) := by omega
          have j2 : (0 : Int) ≤ (i : Int) := by omega
          have j3 : (i : Int) ≤ 1000000 := by omega
          have HT := hide_ (take_next hg)
          have hsz := HSM.out g (List.mem_of_getElem? hg)
          have hcat : ∀ W, (Op.stringOp .add g.1 ⟨#[0]⟩).run Try.prog W = .ok (.string (g.1 ++ ⟨#[0]⟩)) W := fun W => run_string_add_sum W g.1 ⟨#[0]⟩ (by show g.1.size + 1 ≤ 9223372036854775807; omega)
          have t0' := later_drew_cell t0
          have t1' := later_drew_cell t1
          clear hg
          by_cases he : g.2 = g.1 ++ ⟨#[0]⟩
          · have heb : (g.2.toList == (g.1 ++ ⟨#[0]⟩ : ByteArray).toList) = true := by rw [beq_ba]; simpa using he
            by_cases h16 : g.1.size ≤ 16
            · have h16i : (g.1.size : Int) ≤ 16 := by omega
              have HGC := hide_ (show goneC g = (2, g.1, ByteArray.empty) from if_pos ⟨he, h16⟩)
              clear he hsz h16
              go_wp2_with fail
              refine wp_region_k (by kernel_rfl) ?_
              refine wpAnyK_take 0 (v := ?_) rfl (by kernel_rfl) (by kernel_rfl) (by kernel_rfl) (fun _ _ _ h => h) (by rfl) (by intro W hSw; go_simp; with_reducible rfl) ?_; try simp only [Act.put, List.setIfInBounds_toArray, List.set_cons_zero, List.set_cons_succ]
              refine wpAnyK_take 1 (v := ?_) rfl (by kernel_rfl) (by kernel_rfl) (by kernel_rfl) (fun _ _ _ h => h) (by rfl) (by intro W hSw; go_simp; with_reducible rfl) ?_; try simp only [Act.put, List.setIfInBounds_toArray, List.set_cons_zero, List.set_cons_succ]
              refine wpAnyK_take 2 (v := ?_) rfl (by kernel_rfl) (by kernel_rfl) (by kernel_rfl) (fun _ _ _ h => h) (by rfl) (by intro W hSw; go_simp; with_reducible rfl) ?_; try simp only [Act.put, List.setIfInBounds_toArray, List.set_cons_zero, List.set_cons_succ]
              refine wpAnyK_take 3 (v := ?_) rfl (by kernel_rfl) (by kernel_rfl) (by kernel_rfl) (fun _ _ _ h => h) (by rfl) (by intro W hSw; go_simp; with_reducible rfl) ?_; try simp only [Act.put, List.setIfInBounds_toArray, List.set_cons_zero, List.set_cons_succ]
              refine wpAnyK_take 4 (v := ?_) rfl (by kernel_rfl) (by kernel_rfl) (by kernel_rfl) (fun _ _ _ h => h) (by rfl) (by intro W hSw; go_simp; with_reducible rfl) ?_; try simp only [Act.put, List.setIfInBounds_toArray, List.set_cons_zero, List.set_cons_succ]
              refine wpAnyK_take 5 (v := ?_) rfl (by kernel_rfl) (by kernel_rfl) (by kernel_rfl) (fun _ _ _ h => h) (by rfl) (by intro W hSw; go_simp; with_reducible rfl) ?_; try simp only [Act.put, List.setIfInBounds_toArray, List.set_cons_zero, List.set_cons_succ]
              refine wpAnyK_take 6 (v := ?_) rfl (by kernel_rfl) (by kernel_rfl) (by kernel_rfl) (fun _ _ _ h => h) (by rfl) (by intro W hSw; go_simp; with_reducible rfl) ?_; try simp only [Act.put, List.setIfInBounds_toArray, List.set_cons_zero, List.set_cons_succ]
              refine wpAnyK_take 7 (v := ?_) rfl (by kernel_rfl) (by kernel_rfl) (by kernel_rfl) (fun _ _ _ h => h) (by rfl) (by intro W hSw; go_simp; with_reducible rfl) ?_; try simp only [Act.put, List.setIfInBounds_toArray, List.set_cons_zero, List.set_cons_succ]
              refine wpAnyK_take 8 (v := ?_) rfl (by kernel_rfl) (by kernel_rfl) (by kernel_rfl) (fun _ _ _ h => h) (by rfl) (by intro W hSw; go_simp; with_reducible rfl) ?_; try simp only [Act.put, List.setIfInBounds_toArray, List.set_cons_zero, List.set_cons_succ]
              refine wpAnyK_take 9 (v := ?_) rfl (by kernel_rfl) (by kernel_rfl) (by kernel_rfl) (fun _ _ _ h => h) (by rfl) (by intro W hSw; go_simp; with_reducible rfl) ?_; try simp only [Act.put, List.setIfInBounds_toArray, List.set_cons_zero, List.set_cons_succ]
              refine wpAnyK_take 10 (v := ?_) rfl (by kernel_rfl) (by kernel_rfl) (by kernel_rfl) (fun _ _ _ h => h) (by rfl) (by intro W hSw; go_simp; with_reducible rfl) ?_; try simp only [Act.put, List.setIfInBounds_toArray, List.set_cons_zero, List.set_cons_succ]
              refine wpAnyK_take 11 (v := ?_) rfl (by kernel_rfl) (by kernel_rfl) (by kernel_rfl) (fun _ _ _ h => h) (by rfl) (by intro W hSw; go_simp; with_reducible rfl) ?_; try simp only [Act.put, List.setIfInBounds_toArray, List.set_cons_zero, List.set_cons_succ]
              refine wpAnyK_take 12 (v := ?_) rfl (by kernel_rfl) (by kernel_rfl) (by kernel_rfl) (fun _ _ _ h => h) (by rfl) (by intro W hSw; go_simp; with_reducible rfl) ?_; try simp only [Act.put, List.setIfInBounds_toArray, List.set_cons_zero, List.set_cons_succ]
              refine wpAnyK_take 13 (v := ?_) rfl (by kernel_rfl) (by kernel_rfl) (by kernel_rfl) (fun _ _ _ h => h) (by rfl) (by intro W hSw; go_simp; with_reducible rfl) ?_; try simp only [Act.put, List.setIfInBounds_toArray, List.set_cons_zero, List.set_cons_succ]
              refine wpAnyK_take 14 (v := ?_) rfl (by kernel_rfl) (by kernel_rfl) (by kernel_rfl) (fun _ _ _ h => h) (by rfl) (by intro W hSw; go_simp; with_reducible rfl) ?_; try simp only [Act.put, List.setIfInBounds_toArray, List.set_cons_zero, List.set_cons_succ]
              refine wpAnyK_take 15 (v := ?_) rfl (by kernel_rfl) (by kernel_rfl) (by kernel_rfl) (fun _ _ _ h => h) (by rfl) (by intro W hSw; go_simp; with_reducible rfl) ?_; try simp only [Act.put, List.setIfInBounds_toArray, List.set_cons_zero, List.set_cons_succ]
              refine wpAnyK_take 16 (v := ?_) rfl (by kernel_rfl) (by kernel_rfl) (by kernel_rfl) (fun _ _ _ h => h) (by rfl) (by intro W hSw; go_simp; with_reducible rfl) ?_; try simp only [Act.put, List.setIfInBounds_toArray, List.set_cons_zero, List.set_cons_succ]
              refine wpAnyK_take 17 (v := ?_) rfl (by kernel_rfl) (by kernel_rfl) (by kernel_rfl) (fun _ _ _ h => h) (by rfl) (by intro W hSw; go_simp; with_reducible rfl) ?_; try simp only [Act.put, List.setIfInBounds_toArray, List.set_cons_zero, List.set_cons_succ]
              refine wpAnyK_take 18 (v := ?_) rfl (by kernel_rfl) (by kernel_rfl) (by kernel_rfl) (fun _ _ _ h => h) (by rfl) (by intro W hSw; go_simp; with_reducible rfl) ?_; try simp only [Act.put, List.setIfInBounds_toArray, List.set_cons_zero, List.set_cons_succ]
              refine wpAnyK_take 19 (v := ?_) rfl (by kernel_rfl) (by kernel_rfl) (by kernel_rfl) (fun _ _ _ h => h) (by rfl) (by intro W hSw; go_simp; with_reducible rfl) ?_; try simp only [Act.put, List.setIfInBounds_toArray, List.set_cons_zero, List.set_cons_succ]
              refine wpAnyK_take 20 (v := ?_) rfl (by kernel_rfl) (by kernel_rfl) (by kernel_rfl) (fun _ _ _ h => h) (by rfl) (by intro W hSw; go_simp; with_reducible rfl) ?_; try simp only [Act.put, List.setIfInBounds_toArray, List.set_cons_zero, List.set_cons_succ]
              refine wpAnyK_done (by kernel_rfl) ?_ _
              clear hcat t0' t1'
              have HOd := hide_ (show wr.drew.ownsRow w9.heap.size 32 3 (.slice A8 i c8) i (crow ((R.take i).map goneC)) from HO.out)
              have HLd := hide_ (show Later w9 wr.drew from HBI.out.drew)
              go_wp2_with (at_builtin; (refine wpList_append_rd _ rfl (.tmp 91) (.tmp 98) 23 rfl w9.heap.size 32 3 40 changeT _ i (crow ((R.take i).map goneC)) rfl (HOd.out.alloc _) _ 1 1 (encC (2, g.1, ByteArray.empty)) rfl (Rd.newAt wr.drew #[.int .i64 2, .string g.1, .string ByteArray.empty] 32 1 3 _ (0, 0) rfl rfl) (encC_one _) (by omega) (by unfold maxLen; omega) (by have := Below.size HLd.out; simp at this ⊢; omega) (fun h => nomatch h) ?_; intro v8 w8 hown8 hg8 hat8; have HO8 := hide_ hown8; have HB8 := hide_ (show Later w9 w8 from own_grown (Below.alloc HLd.out (Below.size HLd.out) _) (HOd.out.alloc _) hg8 (by have := Below.size HLd.out; simp at this ⊢; omega)); clear hown8 hg8 hat8))
              go_roundw
              case rel => exact ⟨i + 1, by omega, by go_num, hide_ (by rw [HT.out, List.map_append, crow_append, show [g].map goneC = [(2, g.1, ByteArray.empty)] from by rw [List.map_cons, List.map_nil, HGC.out]]; exact HO8.out), HB8⟩
              case measure => simp [intOf]; omega
            · have h16i : ¬ (g.1.size : Int) ≤ 16 := by omega
              have HGC := hide_ (show goneC g = (3, g.1, g.2) from if_neg fun h => h16 h.2)
              clear he hsz h16
              go_wp2_with fail
              refine wp_region_k (by kernel_rfl) ?_
              refine wpAnyK_take 0 (v := ?_) rfl (by kernel_rfl) (by kernel_rfl) (by kernel_rfl) (fun _ _ _ h => h) (by rfl) (by intro W hSw; go_simp; with_reducible rfl) ?_; try simp only [Act.put, List.setIfInBounds_toArray, List.set_cons_zero, List.set_cons_succ]
              refine wpAnyK_take 1 (v := ?_) rfl (by kernel_rfl) (by kernel_rfl) (by kernel_rfl) (fun _ _ _ h => h) (by rfl) (by intro W hSw; go_simp; with_reducible rfl) ?_; try simp only [Act.put, List.setIfInBounds_toArray, List.set_cons_zero, List.set_cons_succ]
              refine wpAnyK_take 2 (v := ?_) rfl (by kernel_rfl) (by kernel_rfl) (by kernel_rfl) (fun _ _ _ h => h) (by rfl) (by intro W hSw; go_simp; with_reducible rfl) ?_; try simp only [Act.put, List.setIfInBounds_toArray, List.set_cons_zero, List.set_cons_succ]
              refine wpAnyK_take 3 (v := ?_) rfl (by kernel_rfl) (by kernel_rfl) (by kernel_rfl) (fun _ _ _ h => h) (by rfl) (by intro W hSw; go_simp; with_reducible rfl) ?_; try simp only [Act.put, List.setIfInBounds_toArray, List.set_cons_zero, List.set_cons_succ]
              refine wpAnyK_take 4 (v := ?_) rfl (by kernel_rfl) (by kernel_rfl) (by kernel_rfl) (fun _ _ _ h => h) (by rfl) (by intro W hSw; go_simp; with_reducible rfl) ?_; try simp only [Act.put, List.setIfInBounds_toArray, List.set_cons_zero, List.set_cons_succ]
              refine wpAnyK_take 5 (v := ?_) rfl (by kernel_rfl) (by kernel_rfl) (by kernel_rfl) (fun _ _ _ h => h) (by rfl) (by intro W hSw; go_simp; with_reducible rfl) ?_; try simp only [Act.put, List.setIfInBounds_toArray, List.set_cons_zero, List.set_cons_succ]
              refine wpAnyK_take 6 (v := ?_) rfl (by kernel_rfl) (by kernel_rfl) (by kernel_rfl) (fun _ _ _ h => h) (by rfl) (by intro W hSw; go_simp; with_reducible rfl) ?_; try simp only [Act.put, List.setIfInBounds_toArray, List.set_cons_zero, List.set_cons_succ]
              refine wpAnyK_take 7 (v := ?_) rfl (by kernel_rfl) (by kernel_rfl) (by kernel_rfl) (fun _ _ _ h => h) (by rfl) (by intro W hSw; go_simp; with_reducible rfl) ?_; try simp only [Act.put, List.setIfInBounds_toArray, List.set_cons_zero, List.set_cons_succ]
              refine wpAnyK_take 8 (v := ?_) rfl (by kernel_rfl) (by kernel_rfl) (by kernel_rfl) (fun _ _ _ h => h) (by rfl) (by intro W hSw; go_simp; with_reducible rfl) ?_; try simp only [Act.put, List.setIfInBounds_toArray, List.set_cons_zero, List.set_cons_succ]
              refine wpAnyK_take 9 (v := ?_) rfl (by kernel_rfl) (by kernel_rfl) (by kernel_rfl) (fun _ _ _ h => h) (by rfl) (by intro W hSw; go_simp; with_reducible rfl) ?_; try simp only [Act.put, List.setIfInBounds_toArray, List.set_cons_zero, List.set_cons_succ]
              refine wpAnyK_take 10 (v := ?_) rfl (by kernel_rfl) (by kernel_rfl) (by kernel_rfl) (fun _ _ _ h => h) (by rfl) (by intro W hSw; go_simp; with_reducible rfl) ?_; try simp only [Act.put, List.setIfInBounds_toArray, List.set_cons_zero, List.set_cons_succ]
              refine wpAnyK_take 11 (v := ?_) rfl (by kernel_rfl) (by kernel_rfl) (by kernel_rfl) (fun _ _ _ h => h) (by rfl) (by intro W hSw; go_simp; with_reducible rfl) ?_; try simp only [Act.put, List.setIfInBounds_toArray, List.set_cons_zero, List.set_cons_succ]
              refine wpAnyK_take 12 (v := ?_) rfl (by kernel_rfl) (by kernel_rfl) (by kernel_rfl) (fun _ _ _ h => h) (by rfl) (by intro W hSw; go_simp; with_reducible rfl) ?_; try simp only [Act.put, List.setIfInBounds_toArray, List.set_cons_zero, List.set_cons_succ]
              refine wpAnyK_take 13 (v := ?_) rfl (by kernel_rfl) (by kernel_rfl) (by kernel_rfl) (fun _ _ _ h => h) (by rfl) (by intro W hSw; go_simp; with_reducible rfl) ?_; try simp only [Act.put, List.setIfInBounds_toArray, List.set_cons_zero, List.set_cons_succ]
              refine wpAnyK_take 14 (v := ?_) rfl (by kernel_rfl) (by kernel_rfl) (by kernel_rfl) (fun _ _ _ h => h) (by rfl) (by intro W hSw; go_simp; with_reducible rfl) ?_; try simp only [Act.put, List.setIfInBounds_toArray, List.set_cons_zero, List.set_cons_succ]
              refine wpAnyK_take 15 (v := ?_) rfl (by kernel_rfl) (by kernel_rfl) (by kernel_rfl) (fun _ _ _ h => h) (by rfl) (by intro W hSw; go_simp; with_reducible rfl) ?_; try simp only [Act.put, List.setIfInBounds_toArray, List.set_cons_zero, List.set_cons_succ]
              refine wpAnyK_take 16 (v := ?_) rfl (by kernel_rfl) (by kernel_rfl) (by kernel_rfl) (fun _ _ _ h => h) (by rfl) (by intro W hSw; go_simp; with_reducible rfl) ?_; try simp only [Act.put, List.setIfInBounds_toArray, List.set_cons_zero, List.set_cons_succ]
              refine wpAnyK_take 17 (v := ?_) rfl (by kernel_rfl) (by kernel_rfl) (by kernel_rfl) (fun _ _ _ h => h) (by rfl) (by intro W hSw; go_simp; with_reducible rfl) ?_; try simp only [Act.put, List.setIfInBounds_toArray, List.set_cons_zero, List.set_cons_succ]
              refine wpAnyK_take 18 (v := ?_) rfl (by kernel_rfl) (by kernel_rfl) (by kernel_rfl) (fun _ _ _ h => h) (by rfl) (by intro W hSw; go_simp; with_reducible rfl) ?_; try simp only [Act.put, List.setIfInBounds_toArray, List.set_cons_zero, List.set_cons_succ]
              refine wpAnyK_take 19 (v := ?_) rfl (by kernel_rfl) (by kernel_rfl) (by kernel_rfl) (fun _ _ _ h => h) (by rfl) (by intro W hSw; go_simp; with_reducible rfl) ?_; try simp only [Act.put, List.setIfInBounds_toArray, List.set_cons_zero, List.set_cons_succ]
              refine wpAnyK_take 20 (v := ?_) rfl (by kernel_rfl) (by kernel_rfl) (by kernel_rfl) (fun _ _ _ h => h) (by rfl) (by intro W hSw; go_simp; with_reducible rfl) ?_; try simp only [Act.put, List.setIfInBounds_toArray, List.set_cons_zero, List.set_cons_succ]
              refine wpAnyK_done (by kernel_rfl) ?_ _
              clear hcat t0' t1'
              obtain ⟨wq, hwq⟩ : ∃ wq, wq = wr.drew := ⟨_, rfl⟩
              have hc0 : wq.cell? ⟨gb, go + i * 2, none⟩ = some (.string g.1) := by rw [hwq]; exact t0
              have hc1 : wq.cell? ⟨gb, go + i * 2 + 1, none⟩ = some (.string g.2) := by rw [hwq]; exact t1
              have HOd := hide_ (show wq.drew.ownsRow w9.heap.size 32 3 (.slice A8 i c8) i (crow ((R.take i).map goneC)) by rw [hwq]; exact HO.out)
              have HLd := hide_ (show Later w9 wq.drew by rw [hwq]; exact HBI.out.drew.drew)
              have t0' := later_drew_cell hc0
              have t1' := later_drew_cell hc1
              rw [← hwq]
              clear hwq hc0 hc1 t0 t1
              go_wp2_with fail
              refine wp_region_l [13] (by kernel_rfl) ?_
              refine wpAnyL_pure 0 (v := ?_) rfl (by kernel_rfl) (by kernel_rfl) (by kernel_rfl) (fun _ _ _ h => h) (by rfl) (by intro W; go_simp; with_reducible rfl) ?_; try simp only [Act.put, List.setIfInBounds_toArray, List.set_cons_zero, List.set_cons_succ]
              refine wpAnyL_pure 1 (v := ?_) rfl (by kernel_rfl) (by kernel_rfl) (by kernel_rfl) (fun _ _ _ h => h) (by rfl) (by intro W; go_simp; with_reducible rfl) ?_; try simp only [Act.put, List.setIfInBounds_toArray, List.set_cons_zero, List.set_cons_succ]
              refine wpAnyL_pure 2 (v := ?_) rfl (by kernel_rfl) (by kernel_rfl) (by kernel_rfl) (fun _ _ _ h => h) (by rfl) (by intro W; go_simp; with_reducible rfl) ?_; try simp only [Act.put, List.setIfInBounds_toArray, List.set_cons_zero, List.set_cons_succ]
              refine wpAnyL_pure 3 (v := ?_) rfl (by kernel_rfl) (by kernel_rfl) (by kernel_rfl) (fun _ _ _ h => h) (by rfl) (by intro W; go_simp; with_reducible rfl) ?_; try simp only [Act.put, List.setIfInBounds_toArray, List.set_cons_zero, List.set_cons_succ]
              refine wpAnyL_pure 4 (v := ?_) rfl (by kernel_rfl) (by kernel_rfl) (by kernel_rfl) (fun _ _ _ h => h) (by rfl) (by intro W; go_simp; with_reducible rfl) ?_; try simp only [Act.put, List.setIfInBounds_toArray, List.set_cons_zero, List.set_cons_succ]
              refine wpAnyL_take 5 (v := ?_) rfl (by kernel_rfl) (by kernel_rfl) (by kernel_rfl) (by kernel_rfl) (fun _ _ _ h => h) (by rfl) (by intro W hSw; go_simp; with_reducible rfl) ?_; try simp only [Act.put, List.setIfInBounds_toArray, List.set_cons_zero, List.set_cons_succ]
              refine wpAnyL_pure 6 (v := ?_) rfl (by kernel_rfl) (by kernel_rfl) (by kernel_rfl) (fun _ _ _ h => h) (by rfl) (by intro W; go_simp; with_reducible rfl) ?_; try simp only [Act.put, List.setIfInBounds_toArray, List.set_cons_zero, List.set_cons_succ]
              refine wpAnyL_pure 7 (v := ?_) rfl (by kernel_rfl) (by kernel_rfl) (by kernel_rfl) (fun _ _ _ h => h) (by rfl) (by intro W; go_simp; with_reducible rfl) ?_; try simp only [Act.put, List.setIfInBounds_toArray, List.set_cons_zero, List.set_cons_succ]
              refine wpAnyL_pure 8 (v := ?_) rfl (by kernel_rfl) (by kernel_rfl) (by kernel_rfl) (fun _ _ _ h => h) (by rfl) (by intro W; go_simp; with_reducible rfl) ?_; try simp only [Act.put, List.setIfInBounds_toArray, List.set_cons_zero, List.set_cons_succ]
              refine wpAnyL_pure 9 (v := ?_) rfl (by kernel_rfl) (by kernel_rfl) (by kernel_rfl) (fun _ _ _ h => h) (by rfl) (by intro W; go_simp; with_reducible rfl) ?_; try simp only [Act.put, List.setIfInBounds_toArray, List.set_cons_zero, List.set_cons_succ]
              refine wpAnyL_take 10 (v := ?_) rfl (by kernel_rfl) (by kernel_rfl) (by kernel_rfl) (by kernel_rfl) (fun _ _ _ h => h) (by rfl) (by intro W hSw; go_simp; with_reducible rfl) ?_; try simp only [Act.put, List.setIfInBounds_toArray, List.set_cons_zero, List.set_cons_succ]
              refine wpAnyL_pure 11 (v := ?_) rfl (by kernel_rfl) (by kernel_rfl) (by kernel_rfl) (fun _ _ _ h => h) (by rfl) (by intro W; go_simp; with_reducible rfl) ?_; try simp only [Act.put, List.setIfInBounds_toArray, List.set_cons_zero, List.set_cons_succ]
              refine wpAnyL_one 12 (by kernel_rfl) rfl (fun K hK => ?_)
              go_simp
              first | refine hK.out _ _ (by assumption) ?_ | refine hK.out _ _ (Later.refl _) ?_ | refine hK.out _ _ (Below.alloc (Below.refl _ _) (Nat.le_refl _) _) ?_
              clear hK K; try simp only [Act.put, List.setIfInBounds_toArray, List.set_cons_zero, List.set_cons_succ]
              refine wpAnyL_loud 13 (by kernel_rfl) (by rfl) rfl (fun K hK => ?_)
              refine step_append_rd (by rfl) (.tmp 100) (.tmp 112) 23 rfl w9.heap.size 32 3 40 changeT _ i (crow ((R.take i).map goneC)) rfl (HOd.out.alloc _) _ 1 1 (encC (3, g.1, g.2)) rfl (Rd.newAt wq.drew #[.int .i64 3, .string g.1, .string g.2] 32 1 3 _ (0, 0) rfl rfl) (encC_one _) (by omega) (by unfold maxLen; omega) (by have := Below.size HLd.out; simp at this ⊢; omega) (fun h => nomatch h) ?_; intro v8 w8 hown8 hg8 hat8; have HO8 := hide_ hown8; have HB8 := hide_ (show Later w9 w8 from own_grown (Below.alloc HLd.out (Below.size HLd.out) _) (HOd.out.alloc _) hg8 (by have := Below.size HLd.out; simp at this ⊢; omega)); clear hown8 hg8 hat8
              refine hK.out _ _ ?_
              clear hK K; try simp only [Act.put, List.setIfInBounds_toArray, List.set_cons_zero, List.set_cons_succ]
              refine wpAnyL_pure 14 (v := ?_) rfl (by kernel_rfl) (by kernel_rfl) (by kernel_rfl) (fun _ _ _ h => h) (by rfl) (by intro W; go_simp; with_reducible rfl) ?_; try simp only [Act.put, List.setIfInBounds_toArray, List.set_cons_zero, List.set_cons_succ]
              refine wpAnyL_done (by kernel_rfl) ?_ _
              clear t0' t1'
              go_wp2_with fail
              go_roundw
              case rel => exact ⟨i + 1, by omega, by go_num, hide_ (by rw [HT.out, List.map_append, crow_append, show [g].map goneC = [(3, g.1, g.2)] from by rw [List.map_cons, List.map_nil, HGC.out]]; exact HO8.out), HB8⟩
              case measure => simp [intOf]; omega
          · have heb : (g.2.toList == (g.1 ++ ⟨#[0]⟩ : ByteArray).toList) = false := by rw [beq_ba]; simpa using he
            have HGC := hide_ (show goneC g = (3, g.1, g.2) from if_neg fun h => he h.1)
            clear he hsz
            go_wp2_with fail
            refine wp_region_k (by kernel_rfl) ?_
            refine wpAnyK_take 0 (v := ?_) rfl (by kernel_rfl) (by kernel_rfl) (by kernel_rfl) (fun _ _ _ h => h) (by rfl) (by intro W hSw; go_simp; with_reducible rfl) ?_; try simp only [Act.put, List.setIfInBounds_toArray, List.set_cons_zero, List.set_cons_succ]
            refine wpAnyK_take 1 (v := ?_) rfl (by kernel_rfl) (by kernel_rfl) (by kernel_rfl) (fun _ _ _ h => h) (by rfl) (by intro W hSw; go_simp; with_reducible rfl) ?_; try simp only [Act.put, List.setIfInBounds_toArray, List.set_cons_zero, List.set_cons_succ]
            refine wpAnyK_take 2 (v := ?_) rfl (by kernel_rfl) (by kernel_rfl) (by kernel_rfl) (fun _ _ _ h => h) (by rfl) (by intro W hSw; go_simp; with_reducible rfl) ?_; try simp only [Act.put, List.setIfInBounds_toArray, List.set_cons_zero, List.set_cons_succ]
            refine wpAnyK_take 3 (v := ?_) rfl (by kernel_rfl) (by kernel_rfl) (by kernel_rfl) (fun _ _ _ h => h) (by rfl) (by intro W hSw; go_simp; with_reducible rfl) ?_; try simp only [Act.put, List.setIfInBounds_toArray, List.set_cons_zero, List.set_cons_succ]
            refine wpAnyK_take 4 (v := ?_) rfl (by kernel_rfl) (by kernel_rfl) (by kernel_rfl) (fun _ _ _ h => h) (by rfl) (by intro W hSw; go_simp; with_reducible rfl) ?_; try simp only [Act.put, List.setIfInBounds_toArray, List.set_cons_zero, List.set_cons_succ]
            refine wpAnyK_take 5 (v := ?_) rfl (by kernel_rfl) (by kernel_rfl) (by kernel_rfl) (fun _ _ _ h => h) (by rfl) (by intro W hSw; go_simp; with_reducible rfl) ?_; try simp only [Act.put, List.setIfInBounds_toArray, List.set_cons_zero, List.set_cons_succ]
            refine wpAnyK_take 6 (v := ?_) rfl (by kernel_rfl) (by kernel_rfl) (by kernel_rfl) (fun _ _ _ h => h) (by rfl) (by intro W hSw; go_simp; with_reducible rfl) ?_; try simp only [Act.put, List.setIfInBounds_toArray, List.set_cons_zero, List.set_cons_succ]
            refine wpAnyK_take 7 (v := ?_) rfl (by kernel_rfl) (by kernel_rfl) (by kernel_rfl) (fun _ _ _ h => h) (by rfl) (by intro W hSw; go_simp; with_reducible rfl) ?_; try simp only [Act.put, List.setIfInBounds_toArray, List.set_cons_zero, List.set_cons_succ]
            refine wpAnyK_take 8 (v := ?_) rfl (by kernel_rfl) (by kernel_rfl) (by kernel_rfl) (fun _ _ _ h => h) (by rfl) (by intro W hSw; go_simp; with_reducible rfl) ?_; try simp only [Act.put, List.setIfInBounds_toArray, List.set_cons_zero, List.set_cons_succ]
            refine wpAnyK_take 9 (v := ?_) rfl (by kernel_rfl) (by kernel_rfl) (by kernel_rfl) (fun _ _ _ h => h) (by rfl) (by intro W hSw; go_simp; with_reducible rfl) ?_; try simp only [Act.put, List.setIfInBounds_toArray, List.set_cons_zero, List.set_cons_succ]
            refine wpAnyK_take 10 (v := ?_) rfl (by kernel_rfl) (by kernel_rfl) (by kernel_rfl) (fun _ _ _ h => h) (by rfl) (by intro W hSw; go_simp; with_reducible rfl) ?_; try simp only [Act.put, List.setIfInBounds_toArray, List.set_cons_zero, List.set_cons_succ]
            refine wpAnyK_take 11 (v := ?_) rfl (by kernel_rfl) (by kernel_rfl) (by kernel_rfl) (fun _ _ _ h => h) (by rfl) (by intro W hSw; go_simp; with_reducible rfl) ?_; try simp only [Act.put, List.setIfInBounds_toArray, List.set_cons_zero, List.set_cons_succ]
            refine wpAnyK_take 12 (v := ?_) rfl (by kernel_rfl) (by kernel_rfl) (by kernel_rfl) (fun _ _ _ h => h) (by rfl) (by intro W hSw; go_simp; with_reducible rfl) ?_; try simp only [Act.put, List.setIfInBounds_toArray, List.set_cons_zero, List.set_cons_succ]
            refine wpAnyK_skip 13 rfl (by kernel_rfl) (by kernel_rfl) (by kernel_rfl) (fun _ _ _ h => h) (by rfl) ?_; try simp only [Act.put, List.setIfInBounds_toArray, List.set_cons_zero, List.set_cons_succ]
            refine wpAnyK_skip 14 rfl (by kernel_rfl) (by kernel_rfl) (by kernel_rfl) (fun _ _ _ h => h) (by rfl) ?_; try simp only [Act.put, List.setIfInBounds_toArray, List.set_cons_zero, List.set_cons_succ]
            refine wpAnyK_skip 15 rfl (by kernel_rfl) (by kernel_rfl) (by kernel_rfl) (fun _ _ _ h => h) (by rfl) ?_; try simp only [Act.put, List.setIfInBounds_toArray, List.set_cons_zero, List.set_cons_succ]
            refine wpAnyK_skip 16 rfl (by kernel_rfl) (by kernel_rfl) (by kernel_rfl) (fun _ _ _ h => h) (by rfl) ?_; try simp only [Act.put, List.setIfInBounds_toArray, List.set_cons_zero, List.set_cons_succ]
            refine wpAnyK_skip 17 rfl (by kernel_rfl) (by kernel_rfl) (by kernel_rfl) (fun _ _ _ h => h) (by rfl) ?_; try simp only [Act.put, List.setIfInBounds_toArray, List.set_cons_zero, List.set_cons_succ]
            refine wpAnyK_skip 18 rfl (by kernel_rfl) (by kernel_rfl) (by kernel_rfl) (fun _ _ _ h => h) (by rfl) ?_; try simp only [Act.put, List.setIfInBounds_toArray, List.set_cons_zero, List.set_cons_succ]
            refine wpAnyK_skip 19 rfl (by kernel_rfl) (by kernel_rfl) (by kernel_rfl) (fun _ _ _ h => h) (by rfl) ?_; try simp only [Act.put, List.setIfInBounds_toArray, List.set_cons_zero, List.set_cons_succ]
            refine wpAnyK_take 20 (v := ?_) rfl (by kernel_rfl) (by kernel_rfl) (by kernel_rfl) (fun _ _ _ h => h) (by rfl) (by intro W hSw; go_simp; with_reducible rfl) ?_; try simp only [Act.put, List.setIfInBounds_toArray, List.set_cons_zero, List.set_cons_succ]
            refine wpAnyK_done (by kernel_rfl) ?_ _
            clear hcat t0' t1'
            obtain ⟨wq, hwq⟩ : ∃ wq, wq = wr.drew := ⟨_, rfl⟩
            have hc0 : wq.cell? ⟨gb, go + i * 2, none⟩ = some (.string g.1) := by rw [hwq]; exact t0
            have hc1 : wq.cell? ⟨gb, go + i * 2 + 1, none⟩ = some (.string g.2) := by rw [hwq]; exact t1
            have HOd := hide_ (show wq.drew.ownsRow w9.heap.size 32 3 (.slice A8 i c8) i (crow ((R.take i).map goneC)) by rw [hwq]; exact HO.out)
            have HLd := hide_ (show Later w9 wq.drew by rw [hwq]; exact HBI.out.drew.drew)
            have t0' := later_drew_cell hc0
            have t1' := later_drew_cell hc1
            rw [← hwq]
            clear hwq hc0 hc1 t0 t1
            go_wp2_with fail
            refine wp_region_l [13] (by kernel_rfl) ?_
            refine wpAnyL_pure 0 (v := ?_) rfl (by kernel_rfl) (by kernel_rfl) (by kernel_rfl) (fun _ _ _ h => h) (by rfl) (by intro W; go_simp; with_reducible rfl) ?_; try simp only [Act.put, List.setIfInBounds_toArray, List.set_cons_zero, List.set_cons_succ]
            refine wpAnyL_pure 1 (v := ?_) rfl (by kernel_rfl) (by kernel_rfl) (by kernel_rfl) (fun _ _ _ h => h) (by rfl) (by intro W; go_simp; with_reducible rfl) ?_; try simp only [Act.put, List.setIfInBounds_toArray, List.set_cons_zero, List.set_cons_succ]
            refine wpAnyL_pure 2 (v := ?_) rfl (by kernel_rfl) (by kernel_rfl) (by kernel_rfl) (fun _ _ _ h => h) (by rfl) (by intro W; go_simp; with_reducible rfl) ?_; try simp only [Act.put, List.setIfInBounds_toArray, List.set_cons_zero, List.set_cons_succ]
            refine wpAnyL_pure 3 (v := ?_) rfl (by kernel_rfl) (by kernel_rfl) (by kernel_rfl) (fun _ _ _ h => h) (by rfl) (by intro W; go_simp; with_reducible rfl) ?_; try simp only [Act.put, List.setIfInBounds_toArray, List.set_cons_zero, List.set_cons_succ]
            refine wpAnyL_pure 4 (v := ?_) rfl (by kernel_rfl) (by kernel_rfl) (by kernel_rfl) (fun _ _ _ h => h) (by rfl) (by intro W; go_simp; with_reducible rfl) ?_; try simp only [Act.put, List.setIfInBounds_toArray, List.set_cons_zero, List.set_cons_succ]
            refine wpAnyL_take 5 (v := ?_) rfl (by kernel_rfl) (by kernel_rfl) (by kernel_rfl) (by kernel_rfl) (fun _ _ _ h => h) (by rfl) (by intro W hSw; go_simp; with_reducible rfl) ?_; try simp only [Act.put, List.setIfInBounds_toArray, List.set_cons_zero, List.set_cons_succ]
            refine wpAnyL_pure 6 (v := ?_) rfl (by kernel_rfl) (by kernel_rfl) (by kernel_rfl) (fun _ _ _ h => h) (by rfl) (by intro W; go_simp; with_reducible rfl) ?_; try simp only [Act.put, List.setIfInBounds_toArray, List.set_cons_zero, List.set_cons_succ]
            refine wpAnyL_pure 7 (v := ?_) rfl (by kernel_rfl) (by kernel_rfl) (by kernel_rfl) (fun _ _ _ h => h) (by rfl) (by intro W; go_simp; with_reducible rfl) ?_; try simp only [Act.put, List.setIfInBounds_toArray, List.set_cons_zero, List.set_cons_succ]
            refine wpAnyL_pure 8 (v := ?_) rfl (by kernel_rfl) (by kernel_rfl) (by kernel_rfl) (fun _ _ _ h => h) (by rfl) (by intro W; go_simp; with_reducible rfl) ?_; try simp only [Act.put, List.setIfInBounds_toArray, List.set_cons_zero, List.set_cons_succ]
            refine wpAnyL_pure 9 (v := ?_) rfl (by kernel_rfl) (by kernel_rfl) (by kernel_rfl) (fun _ _ _ h => h) (by rfl) (by intro W; go_simp; with_reducible rfl) ?_; try simp only [Act.put, List.setIfInBounds_toArray, List.set_cons_zero, List.set_cons_succ]
            refine wpAnyL_take 10 (v := ?_) rfl (by kernel_rfl) (by kernel_rfl) (by kernel_rfl) (by kernel_rfl) (fun _ _ _ h => h) (by rfl) (by intro W hSw; go_simp; with_reducible rfl) ?_; try simp only [Act.put, List.setIfInBounds_toArray, List.set_cons_zero, List.set_cons_succ]
            refine wpAnyL_pure 11 (v := ?_) rfl (by kernel_rfl) (by kernel_rfl) (by kernel_rfl) (fun _ _ _ h => h) (by rfl) (by intro W; go_simp; with_reducible rfl) ?_; try simp only [Act.put, List.setIfInBounds_toArray, List.set_cons_zero, List.set_cons_succ]
            refine wpAnyL_one 12 (by kernel_rfl) rfl (fun K hK => ?_)
            go_simp
            first | refine hK.out _ _ (by assumption) ?_ | refine hK.out _ _ (Later.refl _) ?_ | refine hK.out _ _ (Below.alloc (Below.refl _ _) (Nat.le_refl _) _) ?_
            clear hK K; try simp only [Act.put, List.setIfInBounds_toArray, List.set_cons_zero, List.set_cons_succ]
            refine wpAnyL_loud 13 (by kernel_rfl) (by rfl) rfl (fun K hK => ?_)
            refine step_append_rd (by rfl) (.tmp 100) (.tmp 112) 23 rfl w9.heap.size 32 3 40 changeT _ i (crow ((R.take i).map goneC)) rfl (HOd.out.alloc _) _ 1 1 (encC (3, g.1, g.2)) rfl (Rd.newAt wq.drew #[.int .i64 3, .string g.1, .string g.2] 32 1 3 _ (0, 0) rfl rfl) (encC_one _) (by omega) (by unfold maxLen; omega) (by have := Below.size HLd.out; simp at this ⊢; omega) (fun h => nomatch h) ?_; intro v8 w8 hown8 hg8 hat8; have HO8 := hide_ hown8; have HB8 := hide_ (show Later w9 w8 from own_grown (Below.alloc HLd.out (Below.size HLd.out) _) (HOd.out.alloc _) hg8 (by have := Below.size HLd.out; simp at this ⊢; omega)); clear hown8 hg8 hat8
            refine hK.out _ _ ?_
            clear hK K; try simp only [Act.put, List.setIfInBounds_toArray, List.set_cons_zero, List.set_cons_succ]
            refine wpAnyL_pure 14 (v := ?_) rfl (by kernel_rfl) (by kernel_rfl) (by kernel_rfl) (fun _ _ _ h => h) (by rfl) (by intro W; go_simp; with_reducible rfl) ?_; try simp only [Act.put, List.setIfInBounds_toArray, List.set_cons_zero, List.set_cons_succ]
            refine wpAnyL_done (by kernel_rfl) ?_ _
            clear t0' t1'
            go_wp2_with fail
            go_roundw
            case rel => exact ⟨i + 1, by omega, by go_num, hide_ (by rw [HT.out, List.map_append, crow_append, show [g].map goneC = [(3, g.1, g.2)] from by rw [List.map_cons, List.map_nil, HGC.out]]; exact HO8.out), HB8⟩
            case measure => simp [intOf]; omega
        · have j1 : ¬ (i : Int) < (n9 : Int) := by omega
          obtain rfl : i = n9 := by omega
          have hF : R.take i = R := by rw [← HN9.out, List.take_length]
          have HOR := hide_ (show wr.ownsRow w9.heap.size 32 3 (.slice A8 i c8) (i + 0) (crow (leastC R (M.take 0))) by have := HO.out; rw [hF] at this; simpa [leastC] using this)
          have HLEN := hide_ (show R.length = i from HN9.out)
          have hm2 : (m : Int) ≤ 1000 := by omega
          obtain ⟨w11, hw11⟩ : ∃ w11, w11 = wr := ⟨_, rfl⟩
          subst hw11
          clear hF
          go_wp2_with fail
          go_loopw [8, 10] (fun s8 s10 wi => ∃ (j : Nat), j ≤ m ∧ s10 = .int .i64 j ∧ Hid (wi.ownsRow w9.heap.size 32 3 s8 (i + j) (crow (leastC R (M.take j)))) ∧ Hid (Later w9 wi)) (fun _ j _ => m - (intOf j).toNat)
          case atStart => exact ⟨0, Nat.zero_le _, rfl, HOR, HBI⟩
          case round =>
            obtain ⟨j, hjm, rfl, HO2, HBJ⟩ := hrel
            obtain ⟨A14, c14, rfl⟩ := own_form HO2.out
            by_cases hjlt : j < m
            · obtain ⟨y, hy⟩ : ∃ y, M[j]? = some y := ⟨_, List.getElem?_eq_getElem (by rw [HM.out]; exact hjlt)⟩
              obtain ⟨yb, yo, rfl, t0, t1⟩ := (HP9.out.below HBJ.out).pair hy
              have j1 : (j : Int) < (m : Int) := by omega
              have j2 : (0 : Int) ≤ (j : Int) := by omega
              have j3 : (j : Int) ≤ 1000 := by omega
              have HT := hide_ (take_snoc hy)
              have t0' := later_drew_cell t0
              have t1' := later_drew_cell t1
              have HOd := hide_ (show wr.drew.ownsRow w9.heap.size 32 3 (.slice A14 (i + j) c14) (i + j) (crow (leastC R (M.take j))) from HO2.out)
              have HLd := hide_ (show Later w9 wr.drew from HBJ.out.drew)
              clear hy t0 t1
              go_wp2_with fail
              refine wp_region_l [13] (by kernel_rfl) ?_
              refine wpAnyL_pure 0 (v := ?_) rfl (by kernel_rfl) (by kernel_rfl) (by kernel_rfl) (fun _ _ _ h => h) (by rfl) (by intro W; go_simp; with_reducible rfl) ?_; try simp only [Act.put, List.setIfInBounds_toArray, List.set_cons_zero, List.set_cons_succ]
              refine wpAnyL_pure 1 (v := ?_) rfl (by kernel_rfl) (by kernel_rfl) (by kernel_rfl) (fun _ _ _ h => h) (by rfl) (by intro W; go_simp; with_reducible rfl) ?_; try simp only [Act.put, List.setIfInBounds_toArray, List.set_cons_zero, List.set_cons_succ]
              refine wpAnyL_pure 2 (v := ?_) rfl (by kernel_rfl) (by kernel_rfl) (by kernel_rfl) (fun _ _ _ h => h) (by rfl) (by intro W; go_simp; with_reducible rfl) ?_; try simp only [Act.put, List.setIfInBounds_toArray, List.set_cons_zero, List.set_cons_succ]
              refine wpAnyL_pure 3 (v := ?_) rfl (by kernel_rfl) (by kernel_rfl) (by kernel_rfl) (fun _ _ _ h => h) (by rfl) (by intro W; go_simp; with_reducible rfl) ?_; try simp only [Act.put, List.setIfInBounds_toArray, List.set_cons_zero, List.set_cons_succ]
              refine wpAnyL_pure 4 (v := ?_) rfl (by kernel_rfl) (by kernel_rfl) (by kernel_rfl) (fun _ _ _ h => h) (by rfl) (by intro W; go_simp; with_reducible rfl) ?_; try simp only [Act.put, List.setIfInBounds_toArray, List.set_cons_zero, List.set_cons_succ]
              refine wpAnyL_take 5 (v := ?_) rfl (by kernel_rfl) (by kernel_rfl) (by kernel_rfl) (by kernel_rfl) (fun _ _ _ h => h) (by rfl) (by intro W hSw; go_simp; with_reducible rfl) ?_; try simp only [Act.put, List.setIfInBounds_toArray, List.set_cons_zero, List.set_cons_succ]
              refine wpAnyL_pure 6 (v := ?_) rfl (by kernel_rfl) (by kernel_rfl) (by kernel_rfl) (fun _ _ _ h => h) (by rfl) (by intro W; go_simp; with_reducible rfl) ?_; try simp only [Act.put, List.setIfInBounds_toArray, List.set_cons_zero, List.set_cons_succ]
              refine wpAnyL_pure 7 (v := ?_) rfl (by kernel_rfl) (by kernel_rfl) (by kernel_rfl) (fun _ _ _ h => h) (by rfl) (by intro W; go_simp; with_reducible rfl) ?_; try simp only [Act.put, List.setIfInBounds_toArray, List.set_cons_zero, List.set_cons_succ]
              refine wpAnyL_pure 8 (v := ?_) rfl (by kernel_rfl) (by kernel_rfl) (by kernel_rfl) (fun _ _ _ h => h) (by rfl) (by intro W; go_simp; with_reducible rfl) ?_; try simp only [Act.put, List.setIfInBounds_toArray, List.set_cons_zero, List.set_cons_succ]
              refine wpAnyL_pure 9 (v := ?_) rfl (by kernel_rfl) (by kernel_rfl) (by kernel_rfl) (fun _ _ _ h => h) (by rfl) (by intro W; go_simp; with_reducible rfl) ?_; try simp only [Act.put, List.setIfInBounds_toArray, List.set_cons_zero, List.set_cons_succ]
              refine wpAnyL_take 10 (v := ?_) rfl (by kernel_rfl) (by kernel_rfl) (by kernel_rfl) (by kernel_rfl) (fun _ _ _ h => h) (by rfl) (by intro W hSw; go_simp; with_reducible rfl) ?_; try simp only [Act.put, List.setIfInBounds_toArray, List.set_cons_zero, List.set_cons_succ]
              refine wpAnyL_pure 11 (v := ?_) rfl (by kernel_rfl) (by kernel_rfl) (by kernel_rfl) (fun _ _ _ h => h) (by rfl) (by intro W; go_simp; with_reducible rfl) ?_; try simp only [Act.put, List.setIfInBounds_toArray, List.set_cons_zero, List.set_cons_succ]
              refine wpAnyL_one 12 (by kernel_rfl) rfl (fun K hK => ?_)
              go_simp
              first | refine hK.out _ _ (by assumption) ?_ | refine hK.out _ _ (Later.refl _) ?_ | refine hK.out _ _ (Below.alloc (Below.refl _ _) (Nat.le_refl _) _) ?_
              clear hK K; try simp only [Act.put, List.setIfInBounds_toArray, List.set_cons_zero, List.set_cons_succ]
              refine wpAnyL_loud 13 (by kernel_rfl) (by rfl) rfl (fun K hK => ?_)
              refine step_append_rd (by rfl) (.tmp 120) (.tmp 132) 23 rfl w9.heap.size 32 3 40 changeT _ (i + j) (crow (leastC R (M.take j))) rfl (HOd.out.alloc _) _ 1 1 (encC (putC y)) rfl (Rd.newAt wr.drew #[.int .i64 1, .string y.1, .string y.2] 32 1 3 _ (0, 0) rfl rfl) (encC_one _) (by omega) (by unfold maxLen; omega) (by have := Below.size HLd.out; simp at this ⊢; omega) (fun h => nomatch h) ?_; intro v8 w8 hown8 hg8 hat8; have HO8 := hide_ hown8; have HB8 := hide_ (show Later w9 w8 from own_grown (Below.alloc HLd.out (Below.size HLd.out) _) (HOd.out.alloc _) hg8 (by have := Below.size HLd.out; simp at this ⊢; omega)); clear hown8 hg8 hat8
              refine hK.out _ _ ?_
              clear hK K; try simp only [Act.put, List.setIfInBounds_toArray, List.set_cons_zero, List.set_cons_succ]
              refine wpAnyL_pure 14 (v := ?_) rfl (by kernel_rfl) (by kernel_rfl) (by kernel_rfl) (fun _ _ _ h => h) (by rfl) (by intro W; go_simp; with_reducible rfl) ?_; try simp only [Act.put, List.setIfInBounds_toArray, List.set_cons_zero, List.set_cons_succ]
              refine wpAnyL_done (by kernel_rfl) ?_ _
              clear t0' t1'
              go_wp2_with fail
              go_roundw
              case rel => exact ⟨j + 1, by omega, by go_num, hide_ (by rw [HT.out, show leastC R (M.take j ++ [y]) = leastC R (M.take j) ++ [putC y] from by simp [leastC], crow_append]; exact HO8.out), HB8⟩
              case measure => simp [intOf]; omega
            · have j1 : ¬ (j : Int) < (m : Int) := by omega
              obtain rfl : j = m := by omega
              have hF : M.take j = M := by rw [← HM.out, List.take_length]
              have HOF := hide_ (show wr.ownsRow w.heap.size 32 3 (.slice A14 (i + j) c14) (i + j) (crow (leastC R M)) by have := own_base HO2.out (Below.size HB9.out); rwa [hF] at this)
              have HLF := hide_ (show (leastC R M).length = i + j by unfold leastC; rw [List.length_append, List.length_map, List.length_map, HLEN.out, HM.out])
              clear hF
              go_wp2_with fail
              go_ret
              exact ⟨⟨_, i + j, R, M, rfl, HC9.out, HK9.out, HAPP.out, HLF.out, HOF.out⟩, Later.trans HB9.out HBJ.out⟩

end Go.Proofs.Ytblljpdlmllceaa
