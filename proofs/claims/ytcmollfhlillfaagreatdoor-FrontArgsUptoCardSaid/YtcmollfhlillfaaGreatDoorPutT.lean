/-
  frame: PutTxn: a transaction as bytes.
-/
import Derived.Test.YtcmollfhlillfaaGreatDoorCarve
import Derived.Test.YtcmollfhlillfaaGreatDoorFPutB
namespace Go.Proofs.YtcmollfhlillfaaGreatDoor
open Go.RowKit
set_option linter.unusedVariables false
set_option linter.unusedSimpArgs false
def encSp (s : Spn) : List UInt8 := putT s.1.data.toList ++ putT s.2.data.toList
def encTx (t : Tx) : List UInt8 := putN t.1.toNat ++ putN t.2.1.length ++ t.2.1.flatMap encSp ++ putN t.2.2.length ++ t.2.2.flatMap encCh
theorem encSp_len {s : Spn} (h : soundS s = true) : (encSp s).length ≤ 40 := by
  unfold soundS at h
  have h := of_decide_eq_true h
  have h1 := putT_len (s := s.1.data.toList) (by have := h.1; rw [Array.length_toList]; exact Nat.le_trans this (by omega))
  have h2 := putT_len (s := s.2.data.toList) (by have := h.2.1; rw [Array.length_toList]; exact Nat.le_trans this (by omega))
  unfold encSp
  rw [List.length_append]
  have h3 : s.1.data.toList.length = s.1.size := Array.length_toList
  have h4 : s.2.data.toList.length = s.2.size := Array.length_toList
  omega
theorem flatSp_len : ∀ {R : List Spn}, R.all soundS = true → (R.flatMap encSp).length ≤ R.length * 40
  | [], _ => by simp
  | s :: R, h => by
    rw [List.all_cons, Bool.and_eq_true] at h
    have h1 := encSp_len h.1
    have h2 := flatSp_len h.2
    rw [List.flatMap_cons, List.length_append, List.length_cons]; omega
theorem soundT_parts {r : Int} {R : List Spn} {C : List Chg} (h : soundT (r, R, C) = true) : 0 ≤ r ∧ R.length ≤ 24 ∧ C.length ≤ 24 ∧ chkAll C = 0 ∧ R.all soundS = true := by
  unfold soundT at h
  simp only [Bool.and_eq_true, decide_eq_true_eq] at h
  exact ⟨h.1.1.1.1, h.1.1.1.2, h.1.1.2, h.1.2, h.2⟩
theorem encTx_len {t : Tx} (h : soundT t = true) (hr : t.1 < 9223372036854775808) : (encTx t).length ≤ 27 + 24 * 40 + 24 * 84 := by
  obtain ⟨r, R, C⟩ := t
  obtain ⟨h1, h2, h3, h4, h5⟩ := soundT_parts h
  have a1 := flatSp_len h5
  have a2 := flat_len (chkAll_all h4)
  have a4 := putN_len3 (n := R.length) (by omega)
  have a5 := putN_len3 (n := C.length) (by omega)
  have a6 := putN_len9 (n := r.toNat) (by have : r < 9223372036854775808 := hr; omega)
  unfold encTx
  simp only [List.length_append]
  omega
theorem wr_later {w wr w' : World} {B p : Nat} {v : Value} {s : WS} (hl : Later w wr) (hB : w.heap.size ≤ B) (h : WrAt wr B p v s) (hh : Hits (wFp p v) wr w') : Later w w' :=
  Below.trans hl (hh.below (B := w.heap.size) hl.size fun k hk => by
    rcases hk with rfl | hk
    · exact Nat.le_trans hB h.1
    · exact Nat.le_trans hB (own_block h.2.2 hk).1)
theorem wFp_new {w : World} {B p : Nat} {v : Value} {s : WS} (h : WrAt w B p v s) {k : Nat} (hk : w.heap.size ≤ k) : ¬ wFp p v k := by
  rintro (rfl | hv)
  · have := h.lt; omega
  · have := (own_block h.2.2 hv).2.1; omega
theorem wFp_old {w : World} {B p : Nat} {v : Value} {s : WS} (h : WrAt w B p v s) {k : Nat} (hk : k < B) : ¬ wFp p v k := by
  rintro (rfl | hv)
  · have := h.1; omega
  · have := (own_block h.2.2 hv).1; omega
set_option maxHeartbeats 8000000 in
set_option maxRecDepth 100000 in
theorem putTxn_any {w : World} {A1 A2 : Option Addr} {n1 c1 n2 c2 : Nat} {r : Int} {R : List Spn} {C : List Chg} (hR : Rd w 2 A1 n1 (srow R)) (hRl : R.length = n1) (hC : Rd w 3 A2 n2 (crow C)) (hCl : C.length = n2) (hT : soundT (r, R, C) = true) (hr63 : r < 9223372036854775808) (hab : ∀ a, A2 = some a → a.block < w.heap.size) :
    Calls Tryz.prog 67 #[.agg #[.int .i64 r, .slice A1 n1 c1, .slice A2 n2 c2]] w fun e w' => ∃ v, e = .returned (.tuple #[v, .int .i64 0]) ∧ w'.ownsRow w.heap.size 5 1 v (encTx (r, R, C)).length (bvs (encTx (r, R, C))) ∧ Later w w' := by
  obtain ⟨h1, h2, h3, h4, h5⟩ := soundT_parts hT
  obtain ⟨W0, hW0⟩ : ∃ W, W = w.alloc (.cells #[.int .i64 r, .slice A1 n1 c1, .slice A2 n2 c2] 30) := ⟨_, rfl⟩
  have hl0 : Later w W0 := by rw [hW0]; exact later_alloc _ _
  have ht0 : W0.heap[w.heap.size]? = some (.cells #[.int .i64 r, .slice A1 n1 c1, .slice A2 n2 c2] 30 (0, 0)) := by rw [hW0]; exact heap_alloc_new _ _
  have HTX := hide_ (txn_any (c := c1) (c' := c2) (r := r) (hR.below hl0) hRl (hC.below hl0) hCl (by omega) (by omega))
  rw [hT] at HTX
  have HR := hide_ hR; have HC := hide_ hC; have HRL := hide_ hRl; have HCL := hide_ hCl; have HCK := hide_ h4; have HRS := hide_ h5; have HAB := hide_ hab
  have HT0 := hide_ ht0; have HL0 := hide_ hl0; have HW0 := hide_ hW0
  have q1 : (n1 : Int) ≤ 24 := by omega
  have q2 : n1 ≤ 24 := by omega
  have q3 : n2 ≤ 24 := by omega
  obtain ⟨rn, hrn⟩ : ∃ rn : Nat, r = rn := ⟨r.toNat, by omega⟩
  subst hrn
  have HSI := hide_ (fun (k : Nat) (s : Spn) (hs : R[k]? = some s) => (show soundS s = true from List.all_eq_true.1 h5 s (List.mem_of_getElem? hs)))
  clear hR hC hRl hCl hT h1 h2 h3 h4 h5 hl0 ht0 hab
  go_enter Tryz.func67, Tryz.ntmps67
  go_wp2_with fail
  rw [← HW0.out]
  refine HTX.out.mono ?_; rintro e w1 ⟨rfl, hl1⟩
  have HL1 := hide_ (HL0.out.trans hl1)
  have hx1 := later_row hl1 HT0.out
  have x0 : w1.cell? ⟨w.heap.size, 0, none⟩ = some (.int .i64 rn) := cell_of_row _ _ 0 _ _ (0, 0) hx1
  have x1 : w1.cell? ⟨w.heap.size, 1, none⟩ = some (.slice A1 n1 c1) := cell_of_row _ _ 1 _ _ (0, 0) hx1
  have xlt := theap_lt hx1
  have HX1 := hide_ hx1
  clear hl1 hx1 HTX
  go_wp2_with fail
  have HWR := hide_ (WrAt.fresh w1 (B := w1.heap.size) (Nat.le_refl _))
  obtain ⟨W2, hW2⟩ : ∃ W, W = w1.alloc (Obj.cells #[Value.slice none 0 0, Value.int IntKind.i64 0] 132) := ⟨_, rfl⟩
  rw [← hW2] at HWR ⊢
  have HL2 := hide_ (show Later w1 W2 by rw [hW2]; exact later_alloc _ _)
  have hz2 : W2.heap.size = w1.heap.size + 1 := by rw [hW2]; simp
  rw [← hz2]
  have HZ2 := hide_ hz2
  have HNM := hide_ (nums_any (HWR.out.later (later_alloc W2 (.cells #[.int .i64 rn, .int .i64 n1] 3))) (A := some ⟨W2.heap.size, 0, none⟩) (n := 2) (c := 2) (L := [(rn : Int), (n1 : Int)]) (Rd.fresh2 rfl) rfl (by omega) (by intro y hy; simp only [List.mem_cons, List.not_mem_nil, or_false] at hy; rcases hy with rfl | rfl <;> omega) (by intro a ha; injection ha with ha; subst ha; exact wFp_new HWR.out (Nat.le_refl _)) (by simp) (by have := HZ2.out; simp; omega))
  clear x0 x1 xlt hW2 hz2
  refine HNM.out.mono ?_; rintro e w3 ⟨rfl, v3, ht3, hh3, hd3⟩
  have HL3 := hide_ (wr_later ((HL1.out.trans HL2.out).al _) HL1.out.size (HWR.out.later (later_alloc _ _)) hh3)
  have HX3 := hide_ (hh3.row (later_row (HL2.out.al _) HX1.out) (wFp_old (HWR.out.later (later_alloc W2 (.cells #[.int .i64 rn, .int .i64 n1] 3))) (theap_lt HX1.out)))
  have HT3 := hide_ (show WrAt w3 w1.heap.size w1.heap.size v3 (putN rn ++ putN n1, 0) by
    have h := ht3
    unfold wNums at h; rw [if_neg (by omega)] at h; unfold wNums at h; rw [if_neg (by omega)] at h; unfold wNums at h
    simpa using h)
  clear HNM ht3 hh3 hd3
  have x1 : w3.cell? ⟨w.heap.size, 1, none⟩ = some (.slice A1 n1 c1) := cell_of_row _ _ 1 _ _ (0, 0) HX3.out
  go_wp2_with fail
  clear x1
  go_loopw [23] (fun s23 wr => ∃ (k : Nat) (v : Value), k ≤ n1 ∧ s23 = .int .i64 k ∧ Hid (WrAt wr w1.heap.size w1.heap.size v (putN rn ++ putN n1 ++ (R.take k).flatMap encSp, 0)) ∧ Hid (wr.heap[w.heap.size]? = some (.cells #[.int .i64 rn, .slice A1 n1 c1, .slice A2 n2 c2] 30 (0, 0))) ∧ Hid (Later w wr) ∧ Hid (w1.heap.size ≤ wr.heap.size)) (fun i _ => n1 - (intOf i).toNat)
  case atStart => exact ⟨0, v3, Nat.zero_le _, rfl, hide_ (by simpa using HT3.out), HX3, HL3, hide_ (Nat.le_of_lt HT3.out.lt)⟩
  case round =>
    obtain ⟨k, v, hk, rfl, HT, HX, HL, HS⟩ := hrel
    by_cases hlt : k < n1
    · obtain ⟨s, hs⟩ : ∃ s, R[k]? = some s := ⟨_, List.getElem?_eq_getElem (by rw [HRL.out]; exact hlt)⟩
      obtain ⟨b, o, rfl, l0, l1⟩ := (HR.out.below HL.out).span hs
      have q5 : (k : Int) < (n1 : Int) := by omega
      have q6 : (k : Int) ≤ 1048576 := by omega
      have HTK := hide_ (take_snoc hs)
      have HSS := hide_ (HSI.out k s hs)
      have blt := cell_lt l0
      have HLN := hide_ (show (putN rn ++ putN n1 ++ (R.take k).flatMap encSp).length ≤ 2000 by
        have h1 := putN_len9 (n := rn) (by omega)
        have h2 := putN_len3 (n := n1) (by omega)
        have h3 := flatSp_len (R := R.take k) (by rw [List.all_eq_true]; intro x hx; exact List.all_eq_true.1 HRS.out x (List.mem_of_mem_take hx))
        rw [List.length_take] at h3
        simp only [List.length_append]; omega)
      clear hs
      go_wp2_with fail
      obtain ⟨W4, hW4⟩ : ∃ W, W = wr.alloc (.cells #[.string s.1, .string s.2] 81) := ⟨_, rfl⟩
      rw [← hW4]
      have HL4 := hide_ (show Later wr W4 by rw [hW4]; exact later_alloc _ _)
      have hz4 : W4.heap.size = wr.heap.size + 1 := by rw [hW4]; simp
      rw [← hz4]
      have HZ4 := hide_ hz4
      have HSZ := hide_ (show s.1.size ≤ 17 ∧ s.2.size ≤ 17 by have := HSS.out; unfold soundS at this; have := of_decide_eq_true this; exact ⟨this.1, this.2.1⟩)
      have HTW := hide_ ((HT.out.later HL4.out).later (later_alloc W4 (.cells #[.string s.1, .string s.2] 9)))
      have HTT := hide_ (texts_any HTW.out (A := some ⟨W4.heap.size, 0, none⟩) (n := 2) (c := 2) (L := [s.1, s.2]) (Rd.fresh2 rfl) rfl (by omega) (by intro y hy; have h1 := HSZ.out; simp only [List.mem_cons, List.not_mem_nil, or_false] at hy; rcases hy with rfl | rfl <;> omega) (by intro a ha; injection ha with ha; subst ha; exact wFp_new (HT.out.later HL4.out) (Nat.le_refl _)) (by have h1 := HLN.out; simp only; omega) (by have h1 := HS.out; have h2 := HZ4.out; simp; omega))
      clear hW4 hz4 l0 l1 blt
      refine HTT.out.mono ?_; rintro e w5 ⟨rfl, v5, ht5, hh5, hd5⟩
      have HL5 := hide_ (wr_later ((HL.out.trans HL4.out).al _) HL1.out.size HTW.out hh5)
      have HX5 := hide_ (hh5.row (later_row (HL4.out.al _) HX.out) (wFp_old HTW.out (theap_lt HX1.out)))
      have HT5 := hide_ (show WrAt w5 w1.heap.size w1.heap.size v5 (putN rn ++ putN n1 ++ (R.take (k + 1)).flatMap encSp, 0) by
        have h := ht5
        unfold wTexts at h; rw [if_neg (by have := HSZ.out; omega)] at h; unfold wTexts at h; rw [if_neg (by have := HSZ.out; omega)] at h; unfold wTexts at h
        rw [HTK.out, List.flatMap_append]
        simpa [encSp, List.append_assoc] using h)
      have HS5 := hide_ (Nat.le_of_lt HT5.out.lt)
      clear HTT ht5 hh5 hd5
      go_wp2_with fail
      go_roundw
      case rel => exact ⟨k + 1, v5, by omega, by go_num, HT5, HX5, HL5, HS5⟩
      case measure => simp [intOf]; omega
    · obtain rfl : k = n1 := by omega
      have q5 : ¬ (k : Int) < (k : Int) := by omega
      have x2 : wr.cell? ⟨w.heap.size, 2, none⟩ = some (.slice A2 n2 c2) := cell_of_row _ _ 2 _ _ (0, 0) HX.out
      have HMF := hide_ (show R.take k = R from List.take_of_length_le (by rw [HRL.out]; exact Nat.le_refl _))
      rw [HMF.out] at HT
      have HLN := hide_ (show (putN rn ++ putN k ++ R.flatMap encSp).length ≤ 2000 by
        have h1 := putN_len9 (n := rn) (by omega)
        have h2 := putN_len3 (n := k) (by omega)
        have h3 := flatSp_len HRS.out
        rw [HRL.out] at h3
        simp only [List.length_append]; omega)
      have HCH := hide_ (changes_any HT.out (A := A2) (n := n2) (c := c2) (L := C) (HC.out.below HL.out) HCL.out (by omega) (chkAll_all HCK.out) (by intro a ha; exact wFp_old HT.out (Nat.lt_of_lt_of_le (HAB.out a ha) HL1.out.size)) (by have := HLN.out; simp only; omega) HS.out)
      go_wp2_with fail
      refine HCH.out.mono ?_; rintro e w6 ⟨rfl, v6, ht6, hh6, hd6⟩
      have HL6 := hide_ (wr_later HL.out HL1.out.size HT.out hh6)
      have HT6 := hide_ (show WrAt w6 w1.heap.size w1.heap.size v6 (encTx (rn, R, C), 0) by
        have h := ht6
        have e : (encTx (rn, R, C), 0) = ((putN rn ++ putN k ++ R.flatMap encSp) ++ putN n2 ++ C.flatMap encCh, 0) := by unfold encTx; rw [← HRL.out, ← HCL.out]; rfl
        rw [e]; exact h)
      clear HCH ht6 hh6 hd6 x2
      go_wp2_with fail
      refine (wbytes_any HT6.out).mono ?_; rintro e w7 ⟨rfl, rfl⟩
      go_wp2_with fail
      go_ret2
      exact ⟨v6, rfl, own_base HT6.out.2.2 HL1.out.size, HL6.out⟩

end Go.Proofs.YtcmollfhlillfaaGreatDoor
