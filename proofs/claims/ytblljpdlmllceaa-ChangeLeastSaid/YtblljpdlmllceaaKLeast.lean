/-
  The program's Least: the keys that are gone, and the pairs.
-/
import Derived.Test.YtblljpdlmllceaaG7
namespace Go.Proofs.Ytblljpdlmllceaa
open Go.RowKit
set_option linter.unusedVariables false
set_option linter.unusedSimpArgs false
/-- What Least answers. -/
def LeastPost (C : List Chg) (p : Nat) (w : World) (e : Ending) (w' : World) : Prop :=
  ((chkAll C ≠ 0 ∧ e = .returned (.tuple #[.slice none 0 0, .int .i64 (chkAll C)])) ∨
   (chkAll C = 0 ∧ ∃ (u : Value) (n : Nat) (R : List Spn) (M : List Pr), e = .returned (.tuple #[u, .int .i64 0]) ∧ Canon R ∧ (∀ x, InL R x ↔ goneOf C x) ∧ AppOf [] C M ∧ (leastC R M).length = n ∧ n ≤ p * p + p ∧ w'.ownsRow w.heap.size 32 3 u n (crow (leastC R M)))) ∧ Later w w'
theorem neS : (34 : TypeId) ≠ 55 := by decide
theorem neP : (55 : TypeId) ≠ 34 := by decide
set_option maxRecDepth 100000 in
set_option maxHeartbeats 8000000 in
theorem least_any {w : World} {A : Option Addr} {p c : Nat} {C : List Chg} (hr : Rd w 3 A p (crow C)) (hl : C.length = p) (hn : p ≤ 1048576) :
    Calls Try.prog 30 #[.slice A p c] w (LeastPost C p w) := by
  have HR := hide_ hr; have HL := hide_ hl
  have hc := hide_ (all_any (c := c) hr hl (by omega))
  have hn2 : (p : Int) ≤ 1048576 := by omega
  clear hr hl
  go_enter Try.func30, Try.ntmps30
  go_wp2_with fail
  refine hc.out.mono ?_; rintro e w1 ⟨rfl, hb1⟩
  have HB1 := hide_ hb1
  clear hb1 hc
  by_cases h0 : chkAll C = 0
  · rw [h0]
    have HC0 := hide_ h0
    have HMEM := hide_ (fun c (hc : c ∈ C) => chk_size (chkAll_mem h0 c hc))
    have HKIND := hide_ (fun c (hc : c ∈ C) => chk_kind (chkAll_mem h0 c hc))
    clear h0
    have HG1 := hide_ (World.ownsRow_nil w1 w.heap.size 34 2)
    have HP1 := hide_ (World.ownsRow_nil w1 w.heap.size 55 2)
    go_wp2_with fail
    go_loopw [5, 6, 25] (fun s5 s6 s25 wr => ∃ (k q m : Nat) (G : List Spn) (M : List Pr), k ≤ p ∧ s25 = .int .i64 k ∧ q ≤ k * k ∧ Hid (G.length = q) ∧ Hid (GoneInv C k G) ∧ Hid (wr.ownsRow w.heap.size 34 2 s5 q (srow G)) ∧ m ≤ k ∧ Hid (M.length = m) ∧ Hid (Ris M) ∧ Hid (AppOf [] (C.take k) M) ∧ Hid (wr.ownsRow w.heap.size 55 2 s6 m (prow M)) ∧ Hid (Later w wr)) (fun _ _ i _ => p - (intOf i).toNat)
    case atStart => exact ⟨0, 0, 0, [], [], Nat.zero_le _, rfl, Nat.zero_le _, hide_ rfl, hide_ (gone_start C), HG1, Nat.le_refl _, hide_ rfl, hide_ List.Pairwise.nil, hide_ rfl, HP1, HB1⟩
    case round =>
      obtain ⟨k, q, m, G, M, hkp, rfl, hqk, HQ, HGI, HG, hmk, HM, HRI, HAP, HP, HB⟩ := hrel
      obtain ⟨A5, c5, rfl⟩ := own_form HG.out
      obtain ⟨A6, c6, rfl⟩ := own_form HP.out
      by_cases hlt : k < p
      · obtain ⟨x, hx⟩ : ∃ x, C[k]? = some x := ⟨_, List.getElem?_eq_getElem (by rw [HL.out]; exact hlt)⟩
        obtain ⟨b, o, rfl, l0, l1, l2⟩ := (HR.out.below HB.out).chg hx
        obtain ⟨kd, kx, vx⟩ := x
        have q1 : (k : Int) < (p : Int) := by omega
        have q2 : (0 : Int) ≤ (k : Int) := by omega
        have q3 : (k : Int) ≤ 1048576 := by omega
        have hkk : k * k ≤ 1048576 * 1048576 := Nat.mul_le_mul (by omega) (by omega)
        have HT := hide_ (take_snoc hx)
        have HX := hide_ hx
        have HKX := hide_ (HMEM.out _ (List.mem_of_getElem? hx))
        have HKD := hide_ (HKIND.out _ (List.mem_of_getElem? hx))
        have hwa := hide_ (later_alloc wr (.cells #[.int .i64 kd, .string kx, .string vx] 32))
        have HGa := hide_ (HG.out.alloc (.cells #[.int .i64 kd, .string kx, .string vx] 32))
        have HPa := hide_ (HP.out.alloc (.cells #[.int .i64 kd, .string kx, .string vx] 32))
        have hcx : (wr.alloc (.cells #[.int .i64 kd, .string kx, .string vx] 32)).heap[wr.heap.size]? = some (.cells #[.int .i64 kd, .string kx, .string vx] 32 (0, 0)) := heap_alloc_new _ _
        generalize hWa : wr.alloc (.cells #[.int .i64 kd, .string kx, .string vx] 32) = Wa at hwa HGa HPa hcx
        have HWA := hide_ hWa
        have HCX := hide_ hcx
        have hgr := Below.size HB.out
        have hspc := hide_ (fun W => pspan_any kd kx vx (by have := HKX.out; simp only at this; omega) W)
        clear hx hWa hcx
        go_wp2_with fail
        rw [HWA.out]
        refine (hspc.out _).mono ?_; rintro e w2 ⟨rfl, hb2⟩
        have HG2 := hide_ (own_below HGa.out hb2)
        have HP2 := hide_ (own_below HPa.out hb2)
        have HB2 := hide_ (Later.trans (Later.trans HB.out hwa.out) hb2)
        have HC2 := hide_ ((hb2.block wr.heap.size (heap_lt0 HCX.out)).trans HCX.out)
        have HLW := hide_ (Later.trans hwa.out hb2)
        clear hb2 hspc hwa HGa HPa
        generalize hsn : spanC kd kx vx = sn
        have HSN := hide_ hsn
        clear hsn
        have hsr : (w2.alloc (.cells #[.string sn.1, .string sn.2] 34)).heap[w2.heap.size]? = some (.cells #[.string sn.1, .string sn.2] 34 (0, 0)) := heap_alloc_new _ _
        have hlw3 := Later.trans HLW.out (later_alloc w2 (.cells #[.string sn.1, .string sn.2] 34))
        have HG3 := hide_ (HG2.out.alloc (.cells #[.string sn.1, .string sn.2] 34))
        have HP3 := hide_ (HP2.out.alloc (.cells #[.string sn.1, .string sn.2] 34))
        have HC3 := hide_ (row_al HC2.out (.cells #[.string sn.1, .string sn.2] 34))
        generalize hW3 : w2.alloc (.cells #[.string sn.1, .string sn.2] 34) = W3 at hsr hlw3 HG3 HP3 HC3
        have HW3 := hide_ hW3
        have HLW3 := hide_ hlw3
        have HB3 := hide_ (Later.trans HB.out hlw3)
        have HSR := hide_ hsr
        have y0 := cell_of_row _ _ 0 _ _ (0, 0) HC3.out
        have y1 := cell_of_row _ _ 1 _ _ (0, 0) HC3.out
        have y2 := cell_of_row _ _ 2 _ _ (0, 0) HC3.out
        have s0 := cell_of_row _ _ 0 _ _ (0, 0) hsr
        have s1 := cell_of_row _ _ 1 _ _ (0, 0) hsr
        clear hlw3 hsr hW3 HG2 HP2 HC2
        by_cases hk1 : kd = 1
        case' pos =>
          subst hk1
          have HL0 := hide_ (World.ownsRow_nil W3 W3.heap.size 34 2)
          go_wp2_with (first | (rw [HW3.out]) | fail)
          clear y0 y1 y2 s0 s1
          go_loopw [10, 37] (fun s10 s37 wi => ∃ (j r : Nat) (O : List Spn), j ≤ q ∧ s37 = .int .i64 j ∧ Hid (O.length = r) ∧ Hid (LeftInv G kx j O) ∧ Hid (wi.ownsRow W3.heap.size 34 2 s10 r (srow O)) ∧ Hid (Later W3 wi)) (fun _ j _ => q - (intOf j).toNat)
          case atStart => exact ⟨0, 0, [], Nat.zero_le _, rfl, hide_ rfl, hide_ (left_start G kx), HL0, hide_ (Later.refl _)⟩
          case' round =>
            obtain ⟨j, r, O, hjq, rfl, HOL, HLI, HO, HBI⟩ := hrel
            obtain ⟨A10, c10, rfl⟩ := own_form HO.out
            by_cases hjlt : j < q
            case' pos =>
              obtain ⟨g, hg⟩ : ∃ g, G[j]? = some g := ⟨_, List.getElem?_eq_getElem (by rw [HQ.out]; exact hjlt)⟩
              obtain ⟨gb, go, rfl, t0, t1⟩ := ((Rd.of_own HG3.out).below HBI.out).span hg
              have j1 : (j : Int) < (q : Int) := by omega
              have j2 : (0 : Int) ≤ (j : Int) := by omega
              have j3 : (j : Int) ≤ 1099511627776 := by omega
              have HGJ := hide_ hg
              have hs1 := (HBI.out.block w2.heap.size (heap_lt0 HSR.out)).trans HSR.out
              have hs2 := row_al hs1 (.cells #[.string g.1, .string g.2] 34)
              have s0 := cell_of_row _ _ 0 _ _ (0, 0) hs2
              have s1 := cell_of_row _ _ 1 _ _ (0, 0) hs2
              have hwo := hide_ (fun (W : World) (b1 : Nat) (hb : Rd W 2 (some ⟨b1, 0, none⟩) 1 (srow [sn])) => without_any (c := 1) g hb (fun h => nomatch h) rfl (by omega))
              clear hg hs1 hs2
              go_wp2_with fail
              refine (hwo.out _ _ (Rd.newAt _ #[.string sn.1, .string sn.2] 34 1 2 _ (0, 0) rfl (by simp))).mono ?_; rintro e w5 ⟨⟨v5, R5, rfl, ho5, hl5, hc5, hk5⟩, hb5⟩
              obtain ⟨A11, c11, rfl⟩ := own_form ho5
              have hb6 : Later wr w5 := ((later_alloc wr (.cells #[.string g.1, .string g.2] 34)).trans (later_alloc _ (.cells #[.string sn.1, .string sn.2] 34))).trans hb5
              have HO5 := hide_ (own_below HO.out hb6)
              have HB5 := hide_ (Later.trans HBI.out hb6)
              have HR5 := hide_ (Rd.of_own ho5)
              have HA5 := hide_ (own_cap2 ho5).1
              have HLN := hide_ (left_next HLI.out HGJ.out hc5 (fun x => by rw [hk5, InL.cons]; simp only [InL.nil, or_false]; rw [← HSN.out, named_has]; unfold Named; rw [if_neg (by decide)]) (by omega))
              obtain ⟨n5, hn5⟩ : ∃ n5, R5.length = n5 := ⟨_, rfl⟩
              have hrn : r ≤ 2199023255552 := by
                have h1 := HLI.out.1
                have h2 := mult_le (G.take j) kx
                rw [List.length_take] at h2
                rw [HOL.out] at h1
                omega
              have hn5' : n5 ≤ 2 := by omega
              rw [hn5] at HR5 HA5 ⊢
              have HN5 := hide_ hn5
              clear ho5 hl5 hc5 hk5 hb5 hb6 hwo s0 s1 hn5
              go_wp2_with (at_builtin; (refine wpList_append_rd _ rfl (.tmp 41) (.tmp 45) 47 rfl W3.heap.size 34 2 32 spanT _ r (srow O) rfl HO5.out _ n5 _ (srow R5) rfl HR5.out (srow_one _) (by omega) (by unfold maxLen; omega) (Below.size HB5.out) HA5.out ?_; intro v8 w8 hown8 hg8 hat8; have HO8 := hide_ (show w8.ownsRow W3.heap.size 34 2 v8 (r + n5) (srow (O ++ R5)) by rw [show srow (O ++ R5) = srow O ++ srow R5 from rec_append _ _]; exact hown8); have HB8 := hide_ (show Later W3 w8 from own_grown HB5.out HO5.out hg8 (Below.size HB5.out)); clear hown8 hg8 hat8))
              go_roundw
              case rel => exact ⟨j + 1, r + n5, O ++ R5, by omega, by go_num, hide_ (by rw [List.length_append, HOL.out, HN5.out]), HLN, HO8, HB8⟩
              case measure => simp [intOf]; omega
            case' neg =>
              obtain rfl : j = q := by omega
              have hnl : ¬ (j : Int) < (j : Int) := by omega
              have hGI := hide_ (show GoneInv C (k + 1) O from gone_left (v := vx) HGI.out HX.out (by rw [HQ.out]; exact HLI.out))
              have HG7 := hide_ (own_base HO.out (Below.size HB3.out))
              have HP7 := hide_ (own_below HP3.out HBI.out)
              have HC7 := hide_ ((HBI.out.block _ (heap_lt0 HC3.out)).trans HC3.out)
              have HB7 := hide_ (Later.trans HB3.out HBI.out)
              have hq7k : r ≤ (k + 1) * (k + 1) := by have := hGI.out.1; rwa [HOL.out] at this
              have y0 := cell_of_row _ _ 0 _ _ (0, 0) HC7.out
              have y1 := cell_of_row _ _ 1 _ _ (0, 0) HC7.out
              have y2 := cell_of_row _ _ 2 _ _ (0, 0) HC7.out
              have HQ7 := HOL
              clear hjlt
              go_wp2_with fail
              obtain ⟨G7, e1⟩ : ∃ G7, G7 = O := ⟨_, rfl⟩
              obtain ⟨q7, e2⟩ : ∃ q7, q7 = r := ⟨_, rfl⟩
              obtain ⟨w7, e3⟩ : ∃ w7, w7 = wr := ⟨_, rfl⟩
              obtain ⟨A7, e4⟩ : ∃ A7, A7 = A10 := ⟨_, rfl⟩
              obtain ⟨c7, e5⟩ : ∃ c7, c7 = c10 := ⟨_, rfl⟩
              subst e1 e2 e3 e4 e5
        case' neg =>
          have hk1' : ¬ (1 : Int) = kd := fun h => hk1 h.symm
          have hk1b : (kd == 1) = false := beq_eq_false_iff_ne.2 hk1
          have HK1 := hide_ hk1
          have h23 : kd = 2 ∨ kd = 3 := by have := HKD.out; omega
          have hGI := hide_ (show GoneInv C (k + 1) (G ++ [sn]) by have h := gone_wipe HGI.out HX.out HK1.out; rw [show spanC (kd, kx, vx).1 (kd, kx, vx).2.1 (kd, kx, vx).2.2 = sn from HSN.out] at h; exact h)
          clear hk1
          rcases h23 with rfl | rfl
          all_goals
            go_wp2_with (first | (rw [HW3.out]) | (at_builtin; (refine wpList_append_rd _ rfl (.tmp 52) (.tmp 54) 47 rfl w.heap.size 34 2 32 spanT _ q (srow G) rfl (HG3.out.alloc _) _ 1 1 (encS sn) rfl (Rd.newAt _ #[.string sn.1, .string sn.2] 34 1 2 _ (0, 0) rfl rfl) (encS_one _) (by omega) (by unfold maxLen; omega) (by have := Below.size HB3.out; simp; omega) (fun h => nomatch h) ?_; intro v7 w7 hown8 hg8 hat8; obtain ⟨A7, c7, rfl⟩ := own_form hown8; have HG7 := hide_ (show w7.ownsRow w.heap.size 34 2 (.slice A7 (q + 1) c7) (q + 1) (srow (G ++ [sn])) by rw [srow_snoc]; exact hown8); have HP7 := hide_ (own_kept (HP3.out.alloc _) (HG3.out.alloc _) neP hg8); have HC7 := hide_ (grown_block (HG3.out.alloc _) hg8 (row_al HC3.out _) (.inr ⟨_, HG.out, Nat.le_refl _⟩)); have HB7 := hide_ (show Later w w7 from own_grown (Below.alloc HB3.out (Below.size HB3.out) _) (HG3.out.alloc _) hg8 (by have := Below.size HB3.out; simp; omega)); clear hown8 hg8 hat8; have y0 := cell_of_row _ _ 0 _ _ (0, 0) HC7.out; have y1 := cell_of_row _ _ 1 _ _ (0, 0) HC7.out; have y2 := cell_of_row _ _ 2 _ _ (0, 0) HC7.out)))
            obtain ⟨q7, hq7⟩ : ∃ q7, q7 = q + 1 := ⟨_, rfl⟩
            have hq7k : q7 ≤ (k + 1) * (k + 1) := by rw [hq7, Nat.add_mul, Nat.mul_add]; omega
            have HQ7 := hide_ (show (G ++ [sn]).length = q7 by rw [List.length_append, HQ.out, hq7]; rfl)
            rw [← hq7] at HG7 ⊢
            generalize hG7 : G ++ [sn] = G7 at hGI HG7 HQ7
            clear hG7 hq7
        all_goals
          clear y0 y1 y2
          have hone := hide_ (fun (kd' : Int) (hk : kd' = 1 ∨ kd' = 2 ∨ kd' = 3) => one_own (kind := kd') kx vx hk HP7.out HM.out HRI.out (by omega) (Below.size HB7.out))
          refine (hone.out _ (by omega)).mono ?_; rintro e w8 ⟨⟨⟨u8, M8, m8, rfl, hm8, hmm8, hone8, ho8⟩, hb8⟩, hg8⟩
          obtain ⟨A8, c8, rfl⟩ := own_form ho8
          have HM8 := hide_ hm8; have HON := hide_ hone8; have HP8 := hide_ ho8
          have HG8 := hide_ (own_kept HG7.out HP7.out neS hg8)
          have HB8 := hide_ (show Later w w8 from Below.trans HB7.out hb8)
          clear hm8 hone8 ho8 hb8 hg8 hone
          go_wp2_with fail
          go_roundw
          case rel => exact ⟨k + 1, q7, m8, G7, M8, by omega, by go_num, hq7k, HQ7, hGI, HG8, by omega, HM8, hide_ HON.out.1, hide_ (by rw [HT.out]; exact app_snoc HAP.out HON.out), HP8, HB8⟩
          case measure => simp [intOf]; omega
      · have q1 : ¬ (k : Int) < (p : Int) := by omega
        obtain rfl : k = p := by omega
        have hF : C.take k = C := by rw [← HL.out, List.take_length]
        have HGN := hide_ (show ∀ x, InL G x ↔ goneOf C x by have := HGI.out.2.2; rwa [hF] at this)
        have HAPP := hide_ (show AppOf [] C M by have := HAP.out; rwa [hF] at this)
        have hkk : k * k ≤ 1048576 * 1048576 := Nat.mul_le_mul (by omega) (by omega)
        have hj := hide_ (join_any (c := c5) (Rd.of_own HG.out) (own_cap2 HG.out).1 HQ.out (by omega))
        clear hF
        go_wp2_with fail
        refine hj.out.mono ?_; rintro e w9 ⟨⟨A9, R, rfl, hR9, hA9, _, hRn, hc9, hk9⟩, hb9⟩
        obtain ⟨n9, hn9⟩ : ∃ n9, R.length = n9 := ⟨_, rfl⟩
        rw [hn9] at hR9 hRn hA9 ⊢
        have HB9 := hide_ (Later.trans HB.out hb9)
        have HP9 := hide_ ((Rd.of_own HP.out).below hb9)
        have HR9 := hide_ hR9; have HC9 := hide_ hc9; have HN9 := hide_ hn9
        have HK9 := hide_ (show ∀ x, InL R x ↔ goneOf C x from fun x => by rw [hk9, HGN.out])
        have HSM := hide_ (gone_small HC0.out hc9 HK9.out)
        have HO9 := hide_ (World.ownsRow_nil w9 w9.heap.size 32 3)
        have hn9k : n9 ≤ 1099511627776 := by omega
        have hn9q : n9 ≤ k * k := by omega
        clear hR9 hA9 hRn hc9 hk9 hb9 hn9 hj hkk
        go_wp2_with fail
        go_loopw [13, 63] (fun s13 s63 wi => ∃ (i : Nat), i ≤ n9 ∧ s63 = .int .i64 i ∧ Hid (wi.ownsRow w9.heap.size 32 3 s13 i (crow ((R.take i).map goneC))) ∧ Hid (Later w9 wi)) (fun _ i _ => n9 - (intOf i).toNat)
        case atStart => exact ⟨0, Nat.zero_le _, rfl, HO9, hide_ (Later.refl _)⟩
        case round =>
          obtain ⟨i, hin, rfl, HO, HBI⟩ := hrel
          obtain ⟨A13, c13, rfl⟩ := own_form HO.out
          by_cases hilt : i < n9
          · obtain ⟨g, hg⟩ : ∃ g, R[i]? = some g := ⟨_, List.getElem?_eq_getElem (by rw [HN9.out]; exact hilt)⟩
            obtain ⟨gb, go, rfl, t0, t1⟩ := (HR9.out.below HBI.out).span hg
            have j1 : (i : Int) < (n9 : Int) := by omega
            have j2 : (0 : Int) ≤ (i : Int) := by omega
            have j3 : (i : Int) ≤ 1099511627776 := by omega
            have HT := hide_ (take_next hg)
            have hsz := HSM.out g (List.mem_of_getElem? hg)
            have hnx := hide_ (fun W => snext_any g.1 (by omega) W)
            have hgs : (wr.alloc (.cells #[.string g.1, .string g.2] 34)).heap[wr.heap.size]? = some (.cells #[.string g.1, .string g.2] 34 (0, 0)) := heap_alloc_new _ _
            have HOa := hide_ (HO.out.alloc (.cells #[.string g.1, .string g.2] 34))
            have hla := Later.trans HBI.out (later_alloc wr (.cells #[.string g.1, .string g.2] 34))
            generalize hWa : wr.alloc (.cells #[.string g.1, .string g.2] 34) = Wa at hgs HOa hla
            have HWA := hide_ hWa
            have HGS := hide_ hgs
            have HLA := hide_ hla
            have t0' := later_drew_cell (cell_of_row _ _ 0 _ _ (0, 0) hgs)
            have t1' := later_drew_cell (cell_of_row _ _ 1 _ _ (0, 0) hgs)
            clear hg hgs hla hWa
            by_cases he : g.2 = g.1 ++ ⟨#[0]⟩
            · have heb : (g.2.toList == (g.1 ++ ⟨#[0]⟩ : ByteArray).toList) = true := by rw [beq_ba]; simpa using he
              by_cases h16 : g.1.size ≤ 16
              · have h16i : (g.1.size : Int) ≤ 16 := by omega
                have HGC := hide_ (show goneC g = (2, g.1, ByteArray.empty) from if_pos ⟨he, h16⟩)
                clear he hsz h16
                go_wp2_with fail
                rw [HWA.out]
                refine wp_region_k (by kernel_rfl) ?_
                refine wpAnyK_take 0 (v := ?_) rfl (by kernel_rfl) (by kernel_rfl) (by kernel_rfl) (fun _ _ _ h => h) (by rfl) (by intro W hSw; go_simp; with_reducible rfl) ?_; try simp only [Act.put, List.setIfInBounds_toArray, List.set_cons_zero, List.set_cons_succ]
                refine wpAnyK_take 1 (v := ?_) rfl (by kernel_rfl) (by kernel_rfl) (by kernel_rfl) (fun _ _ _ h => h) (by rfl) (by intro W hSw; go_simp; with_reducible rfl) ?_; try simp only [Act.put, List.setIfInBounds_toArray, List.set_cons_zero, List.set_cons_succ]
                refine wpAnyK_take 2 (v := ?_) rfl (by kernel_rfl) (by kernel_rfl) (by kernel_rfl) (fun _ _ _ h => h) (by rfl) (by intro W hSw; go_simp; with_reducible rfl) ?_; try simp only [Act.put, List.setIfInBounds_toArray, List.set_cons_zero, List.set_cons_succ]
                refine wpAnyK_take 3 (v := ?_) rfl (by kernel_rfl) (by kernel_rfl) (by kernel_rfl) (fun _ _ _ h => h) (by rfl) (by intro W hSw; go_simp; with_reducible rfl) ?_; try simp only [Act.put, List.setIfInBounds_toArray, List.set_cons_zero, List.set_cons_succ]
                refine wpAnyK_one 4 (by kernel_rfl) rfl (fun K hK => ?_)
                go_simp
                refine (hnx.out _).mono ?_; rintro e w11 ⟨rfl, rfl⟩; have hlr := Later.refl Wa.drew
                refine hK.out _ _ (by assumption) ?_
                clear hK K; try simp only [Act.put, List.setIfInBounds_toArray, List.set_cons_zero, List.set_cons_succ]
                refine wpAnyK_take 5 (v := ?_) rfl (by kernel_rfl) (by kernel_rfl) (by kernel_rfl) (fun _ _ _ h => h) (by rfl) (by intro W hSw; go_simp; with_reducible rfl) ?_; try simp only [Act.put, List.setIfInBounds_toArray, List.set_cons_zero, List.set_cons_succ]
                refine wpAnyK_take 6 (v := ?_) rfl (by kernel_rfl) (by kernel_rfl) (by kernel_rfl) (fun _ _ _ h => h) (by rfl) (by intro W hSw; go_simp; with_reducible rfl) ?_; try simp only [Act.put, List.setIfInBounds_toArray, List.set_cons_zero, List.set_cons_succ]
                refine wpAnyK_take 7 (v := ?_) rfl (by kernel_rfl) (by kernel_rfl) (by kernel_rfl) (fun _ _ _ h => h) (by rfl) (by intro W hSw; go_simp; with_reducible rfl) ?_; try simp only [Act.put, List.setIfInBounds_toArray, List.set_cons_zero, List.set_cons_succ]
                refine wpAnyK_take 8 (v := ?_) rfl (by kernel_rfl) (by kernel_rfl) (by kernel_rfl) (fun _ _ _ h => h) (by rfl) (by intro W hSw; go_simp; with_reducible rfl) ?_; try simp only [Act.put, List.setIfInBounds_toArray, List.set_cons_zero, List.set_cons_succ]
                refine wpAnyK_take 9 (v := ?_) rfl (by kernel_rfl) (by kernel_rfl) (by kernel_rfl) (fun _ _ _ h => h) (by rfl) (by intro W hSw; go_simp; with_reducible rfl) ?_; try simp only [Act.put, List.setIfInBounds_toArray, List.set_cons_zero, List.set_cons_succ]
                refine wpAnyK_take 10 (v := ?_) rfl (by kernel_rfl) (by kernel_rfl) (by kernel_rfl) (fun _ _ _ h => h) (by rfl) (by intro W hSw; go_simp; with_reducible rfl) ?_; try simp only [Act.put, List.setIfInBounds_toArray, List.set_cons_zero, List.set_cons_succ]
                refine wpAnyK_take 11 (v := ?_) rfl (by kernel_rfl) (by kernel_rfl) (by kernel_rfl) (fun _ _ _ h => h) (by rfl) (by intro W hSw; go_simp; with_reducible rfl) ?_; try simp only [Act.put, List.setIfInBounds_toArray, List.set_cons_zero, List.set_cons_succ]
                refine wpAnyK_done (by kernel_rfl) ?_ _
                clear hnx t0' t1'
                have t0 := cell_of_row _ _ 0 _ _ (0, 0) HGS.out
                have t1 := cell_of_row _ _ 1 _ _ (0, 0) HGS.out
                have HOd := hide_ (show Wa.drew.ownsRow w9.heap.size 32 3 (.slice A13 i c13) i (crow ((R.take i).map goneC)) from HOa.out)
                have HLd := hide_ (show Later w9 Wa.drew from HLA.out.drew)
                go_wp2_with (at_builtin; (refine wpList_append_rd _ rfl (.tmp 79) (.tmp 83) 23 rfl w9.heap.size 32 3 40 changeT _ i (crow ((R.take i).map goneC)) rfl (HOd.out.alloc _) _ 1 1 (encC (2, g.1, ByteArray.empty)) rfl (Rd.newAt Wa.drew #[.int .i64 2, .string g.1, .string ByteArray.empty] 32 1 3 _ (0, 0) rfl rfl) (encC_one _) (by omega) (by unfold maxLen; omega) (by have := Below.size HLd.out; simp at this ⊢; omega) (fun h => nomatch h) ?_; intro v8 w8 hown8 hg8 hat8; have HO8 := hide_ hown8; have HB8 := hide_ (show Later w9 w8 from own_grown (Below.alloc HLd.out (Below.size HLd.out) _) (HOd.out.alloc _) hg8 (by have := Below.size HLd.out; simp at this ⊢; omega)); clear hown8 hg8 hat8))
                go_roundw
                case rel => exact ⟨i + 1, by omega, by go_num, hide_ (by rw [HT.out, List.map_append, crow_append, show [g].map goneC = [(2, g.1, ByteArray.empty)] from by rw [List.map_cons, List.map_nil, HGC.out]]; exact HO8.out), HB8⟩
                case measure => simp [intOf]; omega
              · have h16i : ¬ (g.1.size : Int) ≤ 16 := by omega
                have HGC := hide_ (show goneC g = (3, g.1, g.2) from if_neg fun h => h16 h.2)
                clear he hsz h16
                go_wp2_with fail
                rw [HWA.out]
                refine wp_region_k (by kernel_rfl) ?_
                refine wpAnyK_take 0 (v := ?_) rfl (by kernel_rfl) (by kernel_rfl) (by kernel_rfl) (fun _ _ _ h => h) (by rfl) (by intro W hSw; go_simp; with_reducible rfl) ?_; try simp only [Act.put, List.setIfInBounds_toArray, List.set_cons_zero, List.set_cons_succ]
                refine wpAnyK_take 1 (v := ?_) rfl (by kernel_rfl) (by kernel_rfl) (by kernel_rfl) (fun _ _ _ h => h) (by rfl) (by intro W hSw; go_simp; with_reducible rfl) ?_; try simp only [Act.put, List.setIfInBounds_toArray, List.set_cons_zero, List.set_cons_succ]
                refine wpAnyK_take 2 (v := ?_) rfl (by kernel_rfl) (by kernel_rfl) (by kernel_rfl) (fun _ _ _ h => h) (by rfl) (by intro W hSw; go_simp; with_reducible rfl) ?_; try simp only [Act.put, List.setIfInBounds_toArray, List.set_cons_zero, List.set_cons_succ]
                refine wpAnyK_take 3 (v := ?_) rfl (by kernel_rfl) (by kernel_rfl) (by kernel_rfl) (fun _ _ _ h => h) (by rfl) (by intro W hSw; go_simp; with_reducible rfl) ?_; try simp only [Act.put, List.setIfInBounds_toArray, List.set_cons_zero, List.set_cons_succ]
                refine wpAnyK_one 4 (by kernel_rfl) rfl (fun K hK => ?_)
                go_simp
                refine (hnx.out _).mono ?_; rintro e w11 ⟨rfl, rfl⟩; have hlr := Later.refl Wa.drew
                refine hK.out _ _ (by assumption) ?_
                clear hK K; try simp only [Act.put, List.setIfInBounds_toArray, List.set_cons_zero, List.set_cons_succ]
                refine wpAnyK_take 5 (v := ?_) rfl (by kernel_rfl) (by kernel_rfl) (by kernel_rfl) (fun _ _ _ h => h) (by rfl) (by intro W hSw; go_simp; with_reducible rfl) ?_; try simp only [Act.put, List.setIfInBounds_toArray, List.set_cons_zero, List.set_cons_succ]
                refine wpAnyK_take 6 (v := ?_) rfl (by kernel_rfl) (by kernel_rfl) (by kernel_rfl) (fun _ _ _ h => h) (by rfl) (by intro W hSw; go_simp; with_reducible rfl) ?_; try simp only [Act.put, List.setIfInBounds_toArray, List.set_cons_zero, List.set_cons_succ]
                refine wpAnyK_take 7 (v := ?_) rfl (by kernel_rfl) (by kernel_rfl) (by kernel_rfl) (fun _ _ _ h => h) (by rfl) (by intro W hSw; go_simp; with_reducible rfl) ?_; try simp only [Act.put, List.setIfInBounds_toArray, List.set_cons_zero, List.set_cons_succ]
                refine wpAnyK_take 8 (v := ?_) rfl (by kernel_rfl) (by kernel_rfl) (by kernel_rfl) (fun _ _ _ h => h) (by rfl) (by intro W hSw; go_simp; with_reducible rfl) ?_; try simp only [Act.put, List.setIfInBounds_toArray, List.set_cons_zero, List.set_cons_succ]
                refine wpAnyK_take 9 (v := ?_) rfl (by kernel_rfl) (by kernel_rfl) (by kernel_rfl) (fun _ _ _ h => h) (by rfl) (by intro W hSw; go_simp; with_reducible rfl) ?_; try simp only [Act.put, List.setIfInBounds_toArray, List.set_cons_zero, List.set_cons_succ]
                refine wpAnyK_take 10 (v := ?_) rfl (by kernel_rfl) (by kernel_rfl) (by kernel_rfl) (fun _ _ _ h => h) (by rfl) (by intro W hSw; go_simp; with_reducible rfl) ?_; try simp only [Act.put, List.setIfInBounds_toArray, List.set_cons_zero, List.set_cons_succ]
                refine wpAnyK_take 11 (v := ?_) rfl (by kernel_rfl) (by kernel_rfl) (by kernel_rfl) (fun _ _ _ h => h) (by rfl) (by intro W hSw; go_simp; with_reducible rfl) ?_; try simp only [Act.put, List.setIfInBounds_toArray, List.set_cons_zero, List.set_cons_succ]
                refine wpAnyK_done (by kernel_rfl) ?_ _
                clear hnx t0' t1'
                have t0 := cell_of_row _ _ 0 _ _ (0, 0) HGS.out
                have t1 := cell_of_row _ _ 1 _ _ (0, 0) HGS.out
                have HOd := hide_ (show Wa.drew.ownsRow w9.heap.size 32 3 (.slice A13 i c13) i (crow ((R.take i).map goneC)) from HOa.out)
                have HLd := hide_ (show Later w9 Wa.drew from HLA.out.drew)
                go_wp2_with (at_builtin; (refine wpList_append_rd _ rfl (.tmp 85) (.tmp 91) 23 rfl w9.heap.size 32 3 40 changeT _ i (crow ((R.take i).map goneC)) rfl (HOd.out.alloc _) _ 1 1 (encC (3, g.1, g.2)) rfl (Rd.newAt Wa.drew #[.int .i64 3, .string g.1, .string g.2] 32 1 3 _ (0, 0) rfl rfl) (encC_one _) (by omega) (by unfold maxLen; omega) (by have := Below.size HLd.out; simp at this ⊢; omega) (fun h => nomatch h) ?_; intro v8 w8 hown8 hg8 hat8; have HO8 := hide_ hown8; have HB8 := hide_ (show Later w9 w8 from own_grown (Below.alloc HLd.out (Below.size HLd.out) _) (HOd.out.alloc _) hg8 (by have := Below.size HLd.out; simp at this ⊢; omega)); clear hown8 hg8 hat8))
                go_roundw
                case rel => exact ⟨i + 1, by omega, by go_num, hide_ (by rw [HT.out, List.map_append, crow_append, show [g].map goneC = [(3, g.1, g.2)] from by rw [List.map_cons, List.map_nil, HGC.out]]; exact HO8.out), HB8⟩
                case measure => simp [intOf]; omega
            · have heb : (g.2.toList == (g.1 ++ ⟨#[0]⟩ : ByteArray).toList) = false := by rw [beq_ba]; simpa using he
              have HGC := hide_ (show goneC g = (3, g.1, g.2) from if_neg fun h => he h.1)
              clear he hsz
              go_wp2_with fail
              rw [HWA.out]
              refine wp_region_k (by kernel_rfl) ?_
              refine wpAnyK_take 0 (v := ?_) rfl (by kernel_rfl) (by kernel_rfl) (by kernel_rfl) (fun _ _ _ h => h) (by rfl) (by intro W hSw; go_simp; with_reducible rfl) ?_; try simp only [Act.put, List.setIfInBounds_toArray, List.set_cons_zero, List.set_cons_succ]
              refine wpAnyK_take 1 (v := ?_) rfl (by kernel_rfl) (by kernel_rfl) (by kernel_rfl) (fun _ _ _ h => h) (by rfl) (by intro W hSw; go_simp; with_reducible rfl) ?_; try simp only [Act.put, List.setIfInBounds_toArray, List.set_cons_zero, List.set_cons_succ]
              refine wpAnyK_take 2 (v := ?_) rfl (by kernel_rfl) (by kernel_rfl) (by kernel_rfl) (fun _ _ _ h => h) (by rfl) (by intro W hSw; go_simp; with_reducible rfl) ?_; try simp only [Act.put, List.setIfInBounds_toArray, List.set_cons_zero, List.set_cons_succ]
              refine wpAnyK_take 3 (v := ?_) rfl (by kernel_rfl) (by kernel_rfl) (by kernel_rfl) (fun _ _ _ h => h) (by rfl) (by intro W hSw; go_simp; with_reducible rfl) ?_; try simp only [Act.put, List.setIfInBounds_toArray, List.set_cons_zero, List.set_cons_succ]
              refine wpAnyK_one 4 (by kernel_rfl) rfl (fun K hK => ?_)
              go_simp
              refine (hnx.out _).mono ?_; rintro e w11 ⟨rfl, rfl⟩; have hlr := Later.refl Wa.drew
              refine hK.out _ _ (by assumption) ?_
              clear hK K; try simp only [Act.put, List.setIfInBounds_toArray, List.set_cons_zero, List.set_cons_succ]
              refine wpAnyK_take 5 (v := ?_) rfl (by kernel_rfl) (by kernel_rfl) (by kernel_rfl) (fun _ _ _ h => h) (by rfl) (by intro W hSw; go_simp; with_reducible rfl) ?_; try simp only [Act.put, List.setIfInBounds_toArray, List.set_cons_zero, List.set_cons_succ]
              refine wpAnyK_take 6 (v := ?_) rfl (by kernel_rfl) (by kernel_rfl) (by kernel_rfl) (fun _ _ _ h => h) (by rfl) (by intro W hSw; go_simp; with_reducible rfl) ?_; try simp only [Act.put, List.setIfInBounds_toArray, List.set_cons_zero, List.set_cons_succ]
              refine wpAnyK_skip 7 rfl (by kernel_rfl) (by kernel_rfl) (by kernel_rfl) (fun _ _ _ h => h) (by rfl) ?_; try simp only [Act.put, List.setIfInBounds_toArray, List.set_cons_zero, List.set_cons_succ]
              refine wpAnyK_skip 8 rfl (by kernel_rfl) (by kernel_rfl) (by kernel_rfl) (fun _ _ _ h => h) (by rfl) ?_; try simp only [Act.put, List.setIfInBounds_toArray, List.set_cons_zero, List.set_cons_succ]
              refine wpAnyK_skip 9 rfl (by kernel_rfl) (by kernel_rfl) (by kernel_rfl) (fun _ _ _ h => h) (by rfl) ?_; try simp only [Act.put, List.setIfInBounds_toArray, List.set_cons_zero, List.set_cons_succ]
              refine wpAnyK_skip 10 rfl (by kernel_rfl) (by kernel_rfl) (by kernel_rfl) (fun _ _ _ h => h) (by rfl) ?_; try simp only [Act.put, List.setIfInBounds_toArray, List.set_cons_zero, List.set_cons_succ]
              refine wpAnyK_take 11 (v := ?_) rfl (by kernel_rfl) (by kernel_rfl) (by kernel_rfl) (fun _ _ _ h => h) (by rfl) (by intro W hSw; go_simp; with_reducible rfl) ?_; try simp only [Act.put, List.setIfInBounds_toArray, List.set_cons_zero, List.set_cons_succ]
              refine wpAnyK_done (by kernel_rfl) ?_ _
              clear hnx t0' t1'
              have t0 := cell_of_row _ _ 0 _ _ (0, 0) HGS.out
              have t1 := cell_of_row _ _ 1 _ _ (0, 0) HGS.out
              have HOd := hide_ (show Wa.drew.ownsRow w9.heap.size 32 3 (.slice A13 i c13) i (crow ((R.take i).map goneC)) from HOa.out)
              have HLd := hide_ (show Later w9 Wa.drew from HLA.out.drew)
              go_wp2_with (at_builtin; (refine wpList_append_rd _ rfl (.tmp 85) (.tmp 91) 23 rfl w9.heap.size 32 3 40 changeT _ i (crow ((R.take i).map goneC)) rfl (HOd.out.alloc _) _ 1 1 (encC (3, g.1, g.2)) rfl (Rd.newAt Wa.drew #[.int .i64 3, .string g.1, .string g.2] 32 1 3 _ (0, 0) rfl rfl) (encC_one _) (by omega) (by unfold maxLen; omega) (by have := Below.size HLd.out; simp at this ⊢; omega) (fun h => nomatch h) ?_; intro v8 w8 hown8 hg8 hat8; have HO8 := hide_ hown8; have HB8 := hide_ (show Later w9 w8 from own_grown (Below.alloc HLd.out (Below.size HLd.out) _) (HOd.out.alloc _) hg8 (by have := Below.size HLd.out; simp at this ⊢; omega)); clear hown8 hg8 hat8))
              go_roundw
              case rel => exact ⟨i + 1, by omega, by go_num, hide_ (by rw [HT.out, List.map_append, crow_append, show [g].map goneC = [(3, g.1, g.2)] from by rw [List.map_cons, List.map_nil, HGC.out]]; exact HO8.out), HB8⟩
              case measure => simp [intOf]; omega
          · have j1 : ¬ (i : Int) < (n9 : Int) := by omega
            obtain rfl : i = n9 := by omega
            have hF : R.take i = R := by rw [← HN9.out, List.take_length]
            have HOR := hide_ (show wr.ownsRow w9.heap.size 32 3 (.slice A13 i c13) (i + 0) (crow (leastC R (M.take 0))) by have := HO.out; rw [hF] at this; simpa [leastC] using this)
            have HPR := hide_ (HP9.out.below HBI.out)
            have HLEN := hide_ (show R.length = i from HN9.out)
            have HBW := hide_ (Later.trans HB9.out HBI.out)
            obtain ⟨w10, hw10⟩ : ∃ w10, w10 = wr := ⟨_, rfl⟩
            subst hw10
            clear hF
            go_wp2_with fail
            go_loopw [13, 96] (fun s13 s96 wi => ∃ (j : Nat), j ≤ m ∧ s96 = .int .i64 j ∧ Hid (wi.ownsRow w9.heap.size 32 3 s13 (i + j) (crow (leastC R (M.take j)))) ∧ Hid (Later w9 wi)) (fun _ j _ => m - (intOf j).toNat)
            case atStart => exact ⟨0, Nat.zero_le _, rfl, HOR, HBI⟩
            case round =>
              obtain ⟨j, hjm, rfl, HO2, HBJ⟩ := hrel
              obtain ⟨A14, c14, rfl⟩ := own_form HO2.out
              by_cases hjlt : j < m
              · obtain ⟨y, hy⟩ : ∃ y, M[j]? = some y := ⟨_, List.getElem?_eq_getElem (by rw [HM.out]; exact hjlt)⟩
                obtain ⟨yb, yo, rfl, t0, t1⟩ := (HP9.out.below HBJ.out).pair hy
                have j1 : (j : Int) < (m : Int) := by omega
                have j2 : (0 : Int) ≤ (j : Int) := by omega
                have j3 : (j : Int) ≤ 1048576 := by omega
                have HT := hide_ (take_snoc hy)
                have hys : (wr.alloc (.cells #[.string y.1, .string y.2] 55)).heap[wr.heap.size]? = some (.cells #[.string y.1, .string y.2] 55 (0, 0)) := heap_alloc_new _ _
                have HOa := hide_ (HO2.out.alloc (.cells #[.string y.1, .string y.2] 55))
                have HLA := hide_ (Later.trans HBJ.out (later_alloc wr (.cells #[.string y.1, .string y.2] 55)))
                have u0 := cell_of_row _ _ 0 _ _ (0, 0) hys
                have u1 := cell_of_row _ _ 1 _ _ (0, 0) hys
                clear hy hys
                go_wp2_with (at_builtin; (refine wpList_append_rd _ rfl (.tmp 100) (.tmp 106) 23 rfl w9.heap.size 32 3 40 changeT _ (i + j) (crow (leastC R (M.take j))) rfl (HOa.out.alloc _) _ 1 1 (encC (putC y)) rfl (Rd.newAt _ #[.int .i64 1, .string y.1, .string y.2] 32 1 3 _ (0, 0) rfl (by simp)) (encC_one _) (by omega) (by unfold maxLen; omega) (by have := Below.size HLA.out; simp at this ⊢; omega) (fun h => nomatch h) ?_; intro v8 w8 hown8 hg8 hat8; have HO8 := hide_ hown8; have HB8 := hide_ (show Later w9 w8 from own_grown (Below.alloc HLA.out (Below.size HLA.out) _) (HOa.out.alloc _) hg8 (by have := Below.size HLA.out; simp at this ⊢; omega)); clear hown8 hg8 hat8))
                go_roundw
                case rel => exact ⟨j + 1, by omega, by go_num, hide_ (by rw [HT.out, show leastC R (M.take j ++ [y]) = leastC R (M.take j) ++ [putC y] from by simp [leastC], crow_append]; exact HO8.out), HB8⟩
                case measure => simp [intOf]; omega
              · have j1 : ¬ (j : Int) < (m : Int) := by omega
                obtain rfl : j = m := by omega
                have hF : M.take j = M := by rw [← HM.out, List.take_length]
                have HOF := hide_ (show wr.ownsRow w.heap.size 32 3 (.slice A14 (i + j) c14) (i + j) (crow (leastC R M)) by have := own_base HO2.out (Below.size HB9.out); rwa [hF] at this)
                have hfin : i + j ≤ k * k + k := by omega
                have HFIN := hide_ hfin
                have HLF := hide_ (show (leastC R M).length = i + j by unfold leastC; rw [List.length_append, List.length_map, List.length_map, HLEN.out, HM.out])
                clear hF hfin hn9q
                go_wp2_with fail
                go_ret2
                exact ⟨.inr ⟨HC0.out, _, i + j, R, M, rfl, HC9.out, HK9.out, HAPP.out, HLF.out, HFIN.out, HOF.out⟩, Later.trans HB9.out HBJ.out⟩
  · have h0' : ¬ (0 : Int) = chkAll C := fun h => h0 h.symm
    go_wp2_with fail
    go_ret2
    exact ⟨.inl ⟨h0, rfl⟩, HB1.out⟩

end Go.Proofs.Ytblljpdlmllceaa
