/-
  The document's Judge.
-/
import Derived.Test.YtidlkomgondkiaaKDVerdict
import Derived.Test.YtidlkomgondkiaaKDForget
import Derived.Test.YtidlkomgondkiaaKMRTxn
import Derived.Test.YtidlkomgondkiaaKMJudges
namespace Go.Proofs.Ytidlkomgondkiaa
open Go.RowKit
set_option linter.unusedVariables false
set_option linter.unusedSimpArgs false
theorem neWI : (89 : TypeId) ≠ 3 := by decide
theorem dsort_int : ¬ DSort 3 := by unfold DSort; decide
theorem dsort_span : ¬ DSort 24 := by unfold DSort; decide
/-- The document's Marks stay while a row of other things grows. -/
theorem dm_kept {w w' : World} {B base n size : Nat} {v : Value} {xs : List Value} {W : List Mk} {f l : Int} (h : DM w B W f l) (ho : w.ownsRow base 3 size v n xs) (hg : w.grownBy w' v.ownBlock) (hB : B < base) : DM w' B W f l := by
  obtain ⟨A, n, c, h1, h2, h3⟩ := h
  refine ⟨A, n, c, (hg.block B (heap_lt0 h1) fun e => ?_).trans h1, own_kept h2 ho neWI hg, h3⟩
  have := (ho.lt B e.symm).1; omega
theorem djudge_order {w : World} {B nt ct : Nat} {At : Option Addr} {W : List Mk} {f m : Int} (v : Int) (h : DM w B W f m) (hv : v ≤ max f m) :
    Calls Try.prog 19 #[.pointer (some ⟨B, 0, none⟩), .int .i64 v, .slice At nt ct] w fun e w' => e = .returned (.tuple #[.slice none 0 0, .int .i64 9]) ∧ Later w w' := by
  obtain ⟨A, n, c, hma, _, _⟩ := h
  have m1 := cell_of_row _ _ 1 _ _ (0, 0) hma
  have m2 := cell_of_row _ _ 2 _ _ (0, 0) hma
  clear hma
  by_cases e1 : v ≤ f
  · clear hv
    go_enter Try.func19, Try.ntmps19
    go_wp2_with fail
    go_ret2
    exact ⟨rfl, Later.refl _⟩
  · have e2 : v ≤ m := by omega
    clear hv
    go_enter Try.func19, Try.ntmps19
    go_wp2_with fail
    go_ret2
    exact ⟨rfl, Later.refl _⟩
set_option maxHeartbeats 4000000 in
theorem djudge_form {w : World} {B nt ct : Nat} {At : Option Addr} {W : List Mk} {T : List Tx} {f m : Int} (v : Int) (h : DM w B W f m) (hv : max f m < v) (hT : ∀ Wx, Below B w Wx → TxRow Wx At nt T) (hnt : nt ≤ 4398046511104)
    (hbad : ¬ (T.length ≤ 4 ∧ T.all soundT = true)) :
    Calls Try.prog 19 #[.pointer (some ⟨B, 0, none⟩), .int .i64 v, .slice At nt ct] w fun e w' => e = .returned (.tuple #[.slice none 0 0, .int .i64 2]) ∧ Later w w' := by
  have HTL := hide_ (hT w (Below.refl _ _)).1
  have hBw := h.lt
  have HT := hide_ (fun (Wx : World) (hx : Later w Wx) => hT Wx (Below.mono hx (Nat.le_of_lt hBw)))
  have HBAD := hide_ hbad
  obtain ⟨A, n, c, hma, _, _⟩ := h
  have m1 := cell_of_row _ _ 1 _ _ (0, 0) hma
  have m2 := cell_of_row _ _ 2 _ _ (0, 0) hma
  have p1 : ¬ v ≤ f := by omega
  have p2 : ¬ v ≤ m := by omega
  have hnt2 : (nt : Int) ≤ 4398046511104 := by omega
  clear hT hbad hma hv
  by_cases e4 : nt ≤ 4
  · have p4 : ¬ (4 : Int) < (nt : Int) := by omega
    go_enter Try.func19, Try.ntmps19
    go_wp2_with fail
    clear m1 m2
    go_loopw [8] (fun s8 wr => ∃ (k : Nat), k ≤ nt ∧ s8 = .int .i64 k ∧ Hid ((T.take k).all soundT = true) ∧ Hid (Later w wr)) (fun i _ => nt - (intOf i).toNat)
    case atStart => exact ⟨0, Nat.zero_le _, rfl, hide_ (by simp), hide_ (Later.refl _)⟩
    case round =>
      obtain ⟨k, hk, rfl, HN, HB⟩ := hrel
      by_cases hlt : k < nt
      · have q1 : (k : Int) < (nt : Int) := by omega
        obtain ⟨t, ht⟩ : ∃ t, T[k]? = some t := ⟨_, List.getElem?_eq_getElem (by rw [HTL.out]; exact hlt)⟩
        obtain ⟨b, o, A1, A2, m1, c1, m2, c2, rfl, l0, l1, l2, l3, l4, l5, l6, l7, l8⟩ := (HT.out wr HB.out).2 k t ht
        have htx := hide_ (rtxn_any (c := c1) (c' := c2) (r := t.1) l7 l3 l8 l4 l5 l6)
        have HTK := hide_ (take_snoc ht)
        clear ht l3 l4 l7 l8
        go_wp2_with fail
        refine htx.out.mono ?_; rintro e w5 ⟨rfl, hb5⟩
        have HB5 := hide_ (Later.trans HB.out hb5)
        clear htx hb5 l0 l1 l2
        by_cases hs : soundT t = true
        · rw [show soundT (t.1, t.2.1, t.2.2) = true from hs]
          have HS := hide_ hs
          clear hs
          go_wp2_with fail
          go_roundw
          case rel => exact ⟨k + 1, by omega, by go_num, hide_ (by rw [HTK.out, List.all_append, HN.out]; simp [HS.out]), HB5⟩
          case measure => simp [intOf]; omega
        · rw [show soundT (t.1, t.2.1, t.2.2) = false by simpa using hs]
          clear hs
          go_wp2_with fail
          go_ret2
          exact ⟨rfl, HB5.out⟩
      · exfalso
        obtain rfl : k = nt := by omega
        exact HBAD.out ⟨by rw [HTL.out]; exact e4, by have := HN.out; rwa [← HTL.out, List.take_length] at this⟩
  · have p4 : (4 : Int) < (nt : Int) := by omega
    go_enter Try.func19, Try.ntmps19
    go_wp2_with fail
    go_ret2
    exact ⟨rfl, Later.refl _⟩
set_option maxRecDepth 100000 in
set_option maxHeartbeats 8000000 in
theorem djudge_good {w : World} {B nt ct : Nat} {At : Option Addr} {W L M : List Mk} {T : List Tx} {V : List Int} {f l m : Int} (v : Int) (h : DM w B W f l) (hA : Agree L W f) (hF : Fit L l) (hf : 0 ≤ f) (hv : max f l < v) (hT : ∀ Wx, Below B w Wx → TxRow Wx At nt T)
    (h4 : nt ≤ 4) (hs : T.all soundT = true) (hn : W.length ≤ 3900) (hJ : JudgeAll v f L l T V M m) :
    Calls Try.prog 19 #[.pointer (some ⟨B, 0, none⟩), .int .i64 v, .slice At nt ct] w fun e w' =>
      ∃ (Av : Option Addr) (cv : Nat) (W' : List Mk), e = .returned (.tuple #[.slice Av nt cv, .int .i64 0]) ∧ V.length = nt ∧ w'.ownsRow w.heap.size 3 1 (.slice Av nt cv) nt (ints V) ∧ DM w' B W' f m ∧ Agree M W' f ∧ W'.length ≤ W.length + 24 * nt ∧ Turns B DSort w w' := by
  have HTL := hide_ (hT w (Below.refl _ _)).1
  have hBw := h.lt
  have HT := hide_ hT
  have HS := hide_ hs
  have HVL := hide_ (show V.length = nt by rw [judgeAll_length hJ, HTL.out])
  have HDM := hide_ h; have HAG := hide_ hA; have HFI := hide_ hF; have HF := hide_ hf; have HJ0 := hide_ hJ; have HN := hide_ hn
  obtain ⟨A, n, c, hma, _, _⟩ := h
  have m1 := cell_of_row _ _ 1 _ _ (0, 0) hma
  have m2 := cell_of_row _ _ 2 _ _ (0, 0) hma
  have p1 : ¬ v ≤ f := by omega
  have p2 : ¬ v ≤ l := by omega
  have p4 : ¬ (4 : Int) < (nt : Int) := by omega
  have hnt2 : (nt : Int) ≤ 4 := by omega
  have HLV := hide_ (show l ≤ v by omega)
  have HFV := hide_ (show f < v by omega)
  clear hT hma hv hs hA hF hf hJ hn
  go_enter Try.func19, Try.ntmps19
  go_wp2_with fail
  clear m1 m2
  go_loopw [8] (fun s8 wr => ∃ (k : Nat), k ≤ nt ∧ s8 = .int .i64 k ∧ Hid (Later w wr)) (fun i _ => nt - (intOf i).toNat)
  case atStart => exact ⟨0, Nat.zero_le _, rfl, hide_ (Later.refl _)⟩
  case round =>
    obtain ⟨k, hk, rfl, HB⟩ := hrel
    by_cases hlt : k < nt
    · have q1 : (k : Int) < (nt : Int) := by omega
      obtain ⟨t, ht⟩ : ∃ t, T[k]? = some t := ⟨_, List.getElem?_eq_getElem (by rw [HTL.out]; exact hlt)⟩
      obtain ⟨b, o, A1, A2, m1, c1, m2, c2, rfl, l0, l1, l2, l3, l4, l5, l6, l7, l8⟩ := (HT.out wr (Below.mono HB.out (Nat.le_of_lt hBw))).2 k t ht
      have htx := hide_ (rtxn_any (c := c1) (c' := c2) (r := t.1) l7 l3 l8 l4 l5 l6)
      rw [show soundT (t.1, t.2.1, t.2.2) = true from List.all_eq_true.1 HS.out t (List.mem_of_getElem? ht)] at htx
      clear ht l3 l4 l7 l8
      go_wp2_with fail
      refine htx.out.mono ?_; rintro e w5 ⟨rfl, hb5⟩
      have HB5 := hide_ (Later.trans HB.out hb5)
      clear htx hb5 l0 l1 l2
      go_wp2_with fail
      go_roundw
      case rel => exact ⟨k + 1, by omega, by go_num, HB5⟩
      case measure => simp [intOf]; omega
    · have q1 : ¬ (k : Int) < (nt : Int) := by omega
      have HO1 := hide_ (own_base (own_new wr #[] 3 1 0 wr.heap.size rfl (Nat.zero_le _) (Nat.le_refl _)) (Below.size HB.out))
      have HB1 := hide_ (Later.trans HB.out (later_alloc wr (.cells #[] 3)))
      have HD1 := hide_ (HDM.out.below HB1.out)
      have HT1 := hide_ (show Turns B DSort w (wr.alloc (.cells #[] 3)) from Turns.later HB1.out (Nat.le_of_lt hBw))
      have HJ1 := hide_ (show JudgeAll v f L l (T.drop 0) (V.drop 0) M m from HJ0.out)
      clear hlt
      go_wp2_with fail
      go_loopw [9, 10] (fun s9 s10 wr => ∃ (k : Nat) (N : List Mk) (n2 : Int) (W2 : List Mk), k ≤ nt ∧ s10 = .int .i64 k ∧ n2 ≤ v ∧ W2.length ≤ W.length + 24 * k ∧ Hid (JudgeAll v f N n2 (T.drop k) (V.drop k) M m) ∧ Hid (wr.ownsRow w.heap.size 3 1 s9 k (ints (V.take k))) ∧ Hid (DM wr B W2 f n2) ∧ Hid (Agree N W2 f) ∧ Hid (Fit N n2) ∧ Hid (Turns B DSort w wr)) (fun _ i _ => nt - (intOf i).toNat)
      case atStart => exact ⟨0, L, l, W, Nat.zero_le _, rfl, HLV.out, by omega, HJ1, HO1, HD1, HAG, HFI, HT1⟩
      case round =>
        obtain ⟨k2, N, n2, W2, hk2, rfl, hn2v, hW2, HJ, HO, HD, HAg, HFi, HTu⟩ := hrel
        obtain ⟨A9, c9, rfl⟩ := own_form HO.out
        by_cases hlt : k2 < nt
        · have r1 : (k2 : Int) < (nt : Int) := by omega
          have r3 : (0 : Int) ≤ (k2 : Int) := by omega
          obtain ⟨t, ht⟩ : ∃ t, T[k2]? = some t := ⟨_, List.getElem?_eq_getElem (by rw [HTL.out]; exact hlt)⟩
          obtain ⟨b, o, A1, A2, m1, c1, m2, c2, rfl, l0, l1, l2, l3, l4, l5, l6, l7, l8⟩ := (HT.out wr HTu.out.below).2 k2 t ht
          obtain ⟨j, N3, n3, hVj, hJO, hJN⟩ := judgeAll_next HJ.out ht
          have hso := soundT_iff.1 (List.all_eq_true.1 HS.out t (List.mem_of_getElem? ht))
          have HSO := hide_ hso
          have HFO := hide_ (fit_one hJO HFi.out hn2v)
          have HJO := hide_ hJO; have HJN := hide_ hJN
          have HVT := hide_ (take_snoc hVj)
          have hver := hide_ (dverdict_any (c2 := c1) (A3 := A2) (p := m2) (c3 := c2) (r := t.1) HD.out HAg.out HFi.out.1 HF.out (by have := HN.out; omega) l7 l3 l5 hso.1)
          rw [← hJO.1] at hver
          have HTK := hide_ ht
          clear ht hVj hJO hJN hso l3 l4 l7 l8
          go_wp2_with fail
          refine hver.out.mono ?_; rintro e w5 ⟨rfl, hb5⟩
          have HO5 := hide_ (own_below HO.out hb5)
          have HD5 := hide_ (HD.out.below hb5)
          have HTu5 := hide_ (HTu.out.trans (Turns.later hb5 (by have := HTu.out.size; omega)))
          clear hver hb5 l0 l1 l2
          go_wp2_with (at_builtin; go_loud (refine wpList_append_rd _ rfl (.tmp 56) (.tmp 58) 35 rfl w.heap.size 3 1 8 intT _ k2 (ints (V.take k2)) rfl (HO5.out.alloc _) _ 1 1 [.int .i64 j] rfl (Rd.newAt _ #[.int .i64 j] 3 1 1 _ (0, 0) rfl (by simp)) (ints_one [j]) (by omega) (by unfold maxLen; omega) (by have := HTu5.out.size; simp; omega) (fun h => nomatch h) ?_; intro v8 w8 hown8 hg8 hat8; have HO8 := hide_ (show w8.ownsRow w.heap.size 3 1 v8 (k2 + 1) (ints (V.take (k2 + 1))) by rw [HVT.out, ints_snoc]; exact hown8); have HT8 := hide_ (Turns.grew (HTu5.out.alloc (Nat.le_of_lt hBw) _) (HO5.out.alloc _) hg8 (Nat.le_of_lt hBw) (Nat.le_of_lt hBw) (.inr (Nat.le_refl _))); have HD8 := hide_ (dm_kept (HD5.out.below (later_alloc _ _)) (HO5.out.alloc _) hg8 hBw); clear hown8 hg8 hat8; obtain ⟨A89, c89, rfl⟩ := own_form HO8.out; obtain ⟨b', o', A1', A2', m1', c1', m2', c2', hAt', _, _, s2, _, s4, _, s6, _, s8⟩ := (HT.out w8 HT8.out.below).2 k2 t HTK.out; injection hAt' with hAt'; injection hAt' with hbb hoo; subst hbb; subst hoo; have hsp := hide_ (rspans_any (c := c2') s8 s4 s6 HSO.out.2.2.2.1); have hm24 : m2' ≤ 24 := (by rw [← s4]; exact HSO.out.2.2.1); clear s4 s8))
          refine hsp.out.mono ?_; rintro e w9 ⟨⟨v9, R, q, rfl, hq, hc9, hk9, ho9⟩, hb9⟩
          obtain ⟨A12, c12, rfl⟩ := own_form ho9
          have HQ := hide_ hq; have HO9 := hide_ ho9
          have HR9 := hide_ (own_below HO8.out hb9)
          have HD9 := hide_ (HD8.out.below hb9)
          have HT9 := hide_ (HT8.out.trans (Turns.later hb9 (by have := HT8.out.size; omega)))
          have HC9 := hide_ hc9
          have HK9 := hide_ (show ∀ x, InL R x ↔ InL (spansC t.2.2) x from fun x => by rw [hk9, but_nil])
          clear hsp hb9 hq hc9 hk9 ho9 s2
          by_cases j1 : j = 1
          · subst j1
            have hwr : WroteT N n2 t.2.2 v N3 n3 := by have := HJO.out.2; rwa [if_pos rfl] at this
            have hag := agree_wrote HAg.out HFV.out hwr HC9.out HK9.out
            have HAG2 := hide_ hag.1
            have HN3 := hide_ hag.2.1
            have hq24 : q ≤ 24 := by have := hag.2.2; have := HSO.out.2.2.1; rw [HQ.out] at *; omega
            have hq24' : (q : Int) ≤ 24 := by omega
            have HD9' := hide_ (show DM w9 B (W2 ++ (R.take 0).map fun r => (r, v)) f (if (0 : Nat) = 0 then n2 else v) by simpa using HD9.out)
            clear hwr hag
            go_wp2_with fail
            go_loopw [13] (fun s13 wi => ∃ (p : Nat), p ≤ q ∧ s13 = .int .i64 p ∧ Hid (DM wi B (W2 ++ (R.take p).map fun r => (r, v)) f (if p = 0 then n2 else v)) ∧ Hid (Turns B DSort w9 wi)) (fun i _ => q - (intOf i).toNat)
            case atStart => exact ⟨0, Nat.zero_le _, rfl, HD9', hide_ (Turns.refl _ _ _)⟩
            case round =>
              obtain ⟨p, hp, rfl, HDi, HTi⟩ := hrel
              by_cases hpl : p < q
              · have s1 : (p : Int) < (q : Int) := by omega
                have s3 : (0 : Int) ≤ (p : Int) := by omega
                obtain ⟨r, hr⟩ : ∃ r, R[p]? = some r := ⟨_, List.getElem?_eq_getElem (by rw [HQ.out]; exact hpl)⟩
                have hspn := Rd.of_own (HTi.out.own HO9.out dsort_span)
                obtain ⟨b5, o5, rfl, y0, y1⟩ := hspn.span hr
                obtain ⟨Aw, nw, cw, hma, how, hlw⟩ := HDi.out
                have m0 := cell_of_row _ _ 0 _ _ (0, 0) hma
                have k0 := later_drew_cell m0
                have z0 := later_drew_cell y0
                have z1 := later_drew_cell y1
                have HTP := hide_ (take_snoc hr)
                have hnw : nw ≤ 4096 := by rw [← hlw]; have h1 : (W2 ++ (R.take p).map fun r => (r, v)).length = W2.length + min p R.length := by simp
                                           rw [h1]; have := HN.out; omega
                have HMA := hide_ (show DMAt wr.drew B (.slice Aw nw cw) f (if p = 0 then n2 else v) from hma)
                have HOW := hide_ (show wr.drew.ownsRow (B + 1) 89 3 (.slice Aw nw cw) nw (mrow (W2 ++ (R.take p).map fun r => (r, v))) from how)
                have HLW := hide_ hlw
                have HTd := hide_ (show Turns B DSort w9 wr.drew from HTi.out.trans (Turns.later (below_drewN (Later.refl _) 1) (by have := HTi.out.size; have := HT9.out.size; omega)))
                have hBr : B + 1 ≤ wr.drew.heap.size := by have := HTi.out.size; have := HT9.out.size; have h : wr.drew.heap.size = wr.heap.size := rfl; omega
                have hBr2 : B + 1 ≤ wr.heap.size := hBr
                have hB9 : B ≤ w9.heap.size := by have := HT9.out.size; omega
                clear hr hspn hma how hlw y0 y1 m0
                go_wp2_with fail
                refine wp_region_l [12, 15] (by kernel_rfl) ?_
                refine wpAnyL_pure 0 (v := ?_) rfl (by kernel_rfl) (by kernel_rfl) (by kernel_rfl) (fun _ _ _ h => h) (by rfl) (by intro W; go_simp; with_reducible rfl) ?_; try simp only [Act.put, List.setIfInBounds_toArray, List.set_cons_zero, List.set_cons_succ]
                refine wpAnyL_pure 1 (v := ?_) rfl (by kernel_rfl) (by kernel_rfl) (by kernel_rfl) (fun _ _ _ h => h) (by rfl) (by intro W; go_simp; with_reducible rfl) ?_; try simp only [Act.put, List.setIfInBounds_toArray, List.set_cons_zero, List.set_cons_succ]
                refine wpAnyL_pure 2 (v := ?_) rfl (by kernel_rfl) (by kernel_rfl) (by kernel_rfl) (fun _ _ _ h => h) (by rfl) (by intro W; go_simp; with_reducible rfl) ?_; try simp only [Act.put, List.setIfInBounds_toArray, List.set_cons_zero, List.set_cons_succ]
                refine wpAnyL_pure 3 (v := ?_) rfl (by kernel_rfl) (by kernel_rfl) (by kernel_rfl) (fun _ _ _ h => h) (by rfl) (by intro W; go_simp; with_reducible rfl) ?_; try simp only [Act.put, List.setIfInBounds_toArray, List.set_cons_zero, List.set_cons_succ]
                refine wpAnyL_take 4 (v := ?_) rfl (by kernel_rfl) (by kernel_rfl) (by kernel_rfl) (by kernel_rfl) (fun _ _ _ h => h) (by rfl) (by intro W hSw; go_simp; with_reducible rfl) ?_; try simp only [Act.put, List.setIfInBounds_toArray, List.set_cons_zero, List.set_cons_succ]
                refine wpAnyL_pure 5 (v := ?_) rfl (by kernel_rfl) (by kernel_rfl) (by kernel_rfl) (fun _ _ _ h => h) (by rfl) (by intro W; go_simp; with_reducible rfl) ?_; try simp only [Act.put, List.setIfInBounds_toArray, List.set_cons_zero, List.set_cons_succ]
                refine wpAnyL_pure 6 (v := ?_) rfl (by kernel_rfl) (by kernel_rfl) (by kernel_rfl) (fun _ _ _ h => h) (by rfl) (by intro W; go_simp; with_reducible rfl) ?_; try simp only [Act.put, List.setIfInBounds_toArray, List.set_cons_zero, List.set_cons_succ]
                refine wpAnyL_pure 7 (v := ?_) rfl (by kernel_rfl) (by kernel_rfl) (by kernel_rfl) (fun _ _ _ h => h) (by rfl) (by intro W; go_simp; with_reducible rfl) ?_; try simp only [Act.put, List.setIfInBounds_toArray, List.set_cons_zero, List.set_cons_succ]
                refine wpAnyL_take 8 (v := ?_) rfl (by kernel_rfl) (by kernel_rfl) (by kernel_rfl) (by kernel_rfl) (fun _ _ _ h => h) (by rfl) (by intro W hSw; go_simp; with_reducible rfl) ?_; try simp only [Act.put, List.setIfInBounds_toArray, List.set_cons_zero, List.set_cons_succ]
                refine wpAnyL_pure 9 (v := ?_) rfl (by kernel_rfl) (by kernel_rfl) (by kernel_rfl) (fun _ _ _ h => h) (by rfl) (by intro W; go_simp; with_reducible rfl) ?_; try simp only [Act.put, List.setIfInBounds_toArray, List.set_cons_zero, List.set_cons_succ]
                refine wpAnyL_pure 10 (v := ?_) rfl (by kernel_rfl) (by kernel_rfl) (by kernel_rfl) (fun _ _ _ h => h) (by rfl) (by intro W; go_simp; with_reducible rfl) ?_; try simp only [Act.put, List.setIfInBounds_toArray, List.set_cons_zero, List.set_cons_succ]
                refine wpAnyL_one 11 (by kernel_rfl) rfl (fun K hK => ?_)
                go_simp
                first | refine hK.out _ _ (by assumption) ?_ | refine hK.out _ _ (Later.refl _) ?_ | refine hK.out _ _ (Below.alloc (Below.refl _ _) (Nat.le_refl _) _) ?_
                clear hK K; try simp only [Act.put, List.setIfInBounds_toArray, List.set_cons_zero, List.set_cons_succ]
                refine wpAnyL_loud 12 (by kernel_rfl) (by rfl) rfl (fun K hK => ?_)
                refine step_append_rd (by rfl) (.tmp 80) (.tmp 87) 84 rfl (B + 1) 89 3 40 writT _ nw (mrow (W2 ++ (R.take p).map fun r => (r, v))) rfl (HOW.out.alloc _) _ 1 _ (encM (r, v)) rfl (Rd.newAt _ #[.string r.1, .string r.2, .int .i64 v] 89 1 3 _ (0, 0) rfl (by simp)) (encM_one _) (by omega) (by unfold maxLen; omega) (by simp; omega) (fun h => nomatch h) ?_; intro v8 w8' hown8 hg8 hat8; have hx8 := (hg8.block B (by simp; omega) (fun e => by have := (HOW.out.lt B e.symm).1; omega)).trans (row_al HMA.out _); have x0 := cell_of_row _ _ 0 _ _ (0, 0) hx8; have x2 := frozen_of_row _ _ 0 _ _ hx8; have HX8 := hide_ hx8; have HOW8 := hide_ (show w8'.ownsRow (B + 1) 89 3 v8 (nw + 1) (mrow (W2 ++ (R.take (p + 1)).map fun r => (r, v))) by rw [HTP.out, List.map_append, ← List.append_assoc, mrow_append]; exact hown8); have HT8' := hide_ (Turns.grew (HTd.out.alloc hB9 _) (HOW.out.alloc _) hg8 (Nat.le_succ _) hB9 (.inl (.inr rfl))); clear hown8 hg8 hat8 hx8; obtain ⟨A80, c80, rfl⟩ := own_form HOW8.out
                refine hK.out _ _ ?_
                clear hK K; try simp only [Act.put, List.setIfInBounds_toArray, List.set_cons_zero, List.set_cons_succ]
                refine wpAnyL_pure 13 (v := ?_) rfl (by kernel_rfl) (by kernel_rfl) (by kernel_rfl) (fun _ _ _ h => h) (by rfl) (by intro W; go_simp; with_reducible rfl) ?_; try simp only [Act.put, List.setIfInBounds_toArray, List.set_cons_zero, List.set_cons_succ]
                refine wpAnyL_pure 14 (v := ?_) rfl (by kernel_rfl) (by kernel_rfl) (by kernel_rfl) (fun _ _ _ h => h) (by rfl) (by intro W; go_simp; with_reducible rfl) ?_; try simp only [Act.put, List.setIfInBounds_toArray, List.set_cons_zero, List.set_cons_succ]
                refine wpAnyL_loud 15 (by kernel_rfl) (by rfl) rfl (fun K hK => ?_)
                go_simp
                refine hK.out _ _ ?_
                clear hK K; try simp only [Act.put, List.setIfInBounds_toArray, List.set_cons_zero, List.set_cons_succ]
                refine wpAnyL_done (by kernel_rfl) ?_ _
                have hx9 : (w8'.setCell ⟨B, 0, none⟩ (.slice A80 (nw + 1) c80)).heap[B]? = some (.cells #[.slice A80 (nw + 1) c80, .int .i64 f, .int .i64 (if p = 0 then n2 else v)] 86 (0, 0)) := by
                  have h := heap_setCell_same w8' B 0 _ _ (.slice A80 (nw + 1) c80) HX8.out
                  simpa using h
                have u1 := cell_of_row _ _ 2 _ _ (0, 0) hx9
                have u2 := frozen_of_row _ _ 2 _ _ hx9
                have HX9 := hide_ (heap_setCell_same _ B 2 _ _ (.int .i64 v) hx9)
                have HT10 := hide_ ((HT8'.out.setCell (Nat.le_refl _) (HD9.out.sort) 0 (.slice A80 (nw + 1) c80)).setCell (Nat.le_refl _) (HD9.out.sort) 2 (.int .i64 v))
                clear k0 z0 z1 x0 x2 hx9
                go_wp2_with fail
                go_roundw
                case rel => exact ⟨p + 1, by omega, by go_num, hide_ ⟨A80, nw + 1, c80, by have := HX9.out; unfold DMAt; simpa using this, own_put (own_put HOW8.out (Nat.lt_succ_self _)) (Nat.lt_succ_self _), by have := HLW.out; rw [HTP.out]; simp at this ⊢; omega⟩, HT10⟩
                case measure => simp [intOf]; omega
              · have s1 : ¬ (p : Int) < (q : Int) := by omega
                obtain rfl : p = q := by omega
                have hRt : R.take p = R := by rw [← HQ.out, List.take_length]
                have HD3 := hide_ (show DM wr B (W2 ++ R.map fun r => (r, v)) f n3 by
                  have := HDi.out
                  rw [hRt] at this
                  rw [HN3.out]
                  by_cases hR : R = []
                  · rw [if_pos hR]; rw [if_pos (by rw [← HQ.out, hR]; rfl)] at this; exact this
                  · rw [if_neg hR]; rw [if_neg (by rw [← HQ.out]; exact fun h => hR (List.eq_nil_of_length_eq_zero h))] at this; exact this)
                have HR3 := hide_ (HTi.out.own HR9.out dsort_int)
                have HT3 := hide_ (HT9.out.trans HTi.out)
                have hl3 : (W2 ++ R.map fun r => (r, v)).length ≤ W.length + 24 * (k2 + 1) := by simp [HQ.out]; omega
                clear hRt hpl
                go_wp2_with fail
                go_roundw
                case rel => exact ⟨k2 + 1, N3, n3, _, by omega, by go_num, HFO.out.2.1, hl3, HJN, HR3, HD3, HAG2, hide_ HFO.out.1, HT3⟩
                case measure => simp [intOf]; omega
          · have HJE := hide_ (show N3 = N ∧ n3 = n2 by have := HJO.out.2; rwa [if_neg j1] at this)
            have hbq : (decide (j = 1)) = false := decide_eq_false j1
            have hbe : (j == 1) = false := beq_eq_false_iff_ne.2 j1
            go_wp2_with fail
            go_loopw [13] (fun s13 wi => s13 = .int .i64 0 ∧ wi = w9) (fun i _ => 0)
            case atStart => exact ⟨rfl, rfl⟩
            case round =>
              obtain ⟨rfl, rfl⟩ := hrel
              obtain ⟨rfl, rfl⟩ := HJE.out
              by_cases hq0 : q = 0
              · have s1 : ¬ (0 : Int) < (q : Int) := by omega
                go_wp2_with fail
                go_roundw
                case rel => exact ⟨k2 + 1, N3, n3, W2, by omega, by go_num, hn2v, by omega, HJN, HR9, HD9, HAg, HFi, HT9⟩
                case measure => simp [intOf]; omega
              · have s1 : (0 : Int) < (q : Int) := by omega
                go_wp2_with fail
                go_roundw
                case rel => exact ⟨k2 + 1, N3, n3, W2, by omega, by go_num, hn2v, by omega, HJN, HR9, HD9, HAg, HFi, HT9⟩
                case measure => simp [intOf]; omega
        · have r1 : ¬ (k2 : Int) < (nt : Int) := by omega
          obtain rfl : k2 = nt := by omega
          have hd := judgeAll_done (by have := HJ.out; rwa [← HTL.out] at this)
          obtain ⟨rfl, rfl⟩ := hd
          have HRF := hide_ (show wr.ownsRow w.heap.size 3 1 (.slice A9 k2 c9) k2 (ints V) by have := HO.out; rwa [show V.take k2 = V by rw [← HVL.out, List.take_length]] at this)
          go_wp2_with fail
          go_ret2
          exact ⟨_, _, rfl, HVL.out, HRF.out, W2, HD.out, HAg.out, by omega, HTu.out⟩

end Go.Proofs.Ytidlkomgondkiaa
