/-
  Texts of this seat in one: PutT, FrRes, FrRes2.
-/
import Derived.Test.YtcmollfhlillfaaGreatDoorM27
import Derived.Test.YtcmollfhlillfaaGreatDoorM23
import Derived.Test.YtcmollfhlillfaaGreatDoorM26
/-
  frame: PutTxn: a transaction as bytes.
-/
namespace Go.Proofs.YtcmollfhlillfaaGreatDoor
open Go.RowKit
set_option linter.unusedVariables false
set_option linter.unusedSimpArgs false
def encSp (s : Spn) : List UInt8 := putT s.1.data.toList ++ putT s.2.data.toList
def encTx (t : Tx) : List UInt8 := putN t.1.toNat ++ putN t.2.1.length ++ t.2.1.flatMap encSp ++ putN t.2.2.length ++ t.2.2.flatMap encCh
theorem encSp_len {s : Spn} (h : soundS s = true) : (encSp s).length ≤ 40 := by
  unfold soundS at h
  have h := of_decide_eq_true h
  have h1 := putT_len (s := s.1.data.toList) (by have := h.1; rw [Array.length_toList]; exact Nat.le_trans this (by omega))
  have h2 := putT_len (s := s.2.data.toList) (by have := h.2.1; rw [Array.length_toList]; exact Nat.le_trans this (by omega))
  unfold encSp
  rw [List.length_append]
  have h3 : s.1.data.toList.length = s.1.size := Array.length_toList
  have h4 : s.2.data.toList.length = s.2.size := Array.length_toList
  omega
theorem flatSp_len : ∀ {R : List Spn}, R.all soundS = true → (R.flatMap encSp).length ≤ R.length * 40
  | [], _ => by simp
  | s :: R, h => by
    rw [List.all_cons, Bool.and_eq_true] at h
    have h1 := encSp_len h.1
    have h2 := flatSp_len h.2
    rw [List.flatMap_cons, List.length_append, List.length_cons]; omega
theorem soundT_parts {r : Int} {R : List Spn} {C : List Chg} (h : soundT (r, R, C) = true) : 0 ≤ r ∧ R.length ≤ 24 ∧ C.length ≤ 24 ∧ chkAll C = 0 ∧ R.all soundS = true := by
  unfold soundT at h
  simp only [Bool.and_eq_true, decide_eq_true_eq] at h
  exact ⟨h.1.1.1.1, h.1.1.1.2, h.1.1.2, h.1.2, h.2⟩
theorem encTx_len {t : Tx} (h : soundT t = true) (hr : t.1 < 9223372036854775808) : (encTx t).length ≤ 27 + 24 * 40 + 24 * 84 := by
  obtain ⟨r, R, C⟩ := t
  obtain ⟨h1, h2, h3, h4, h5⟩ := soundT_parts h
  have a1 := flatSp_len h5
  have a2 := flat_len (chkAll_all h4)
  have a4 := putN_len3 (n := R.length) (by omega)
  have a5 := putN_len3 (n := C.length) (by omega)
  have a6 := putN_len9 (n := r.toNat) (by have : r < 9223372036854775808 := hr; omega)
  unfold encTx
  simp only [List.length_append]
  omega
theorem wr_later {w wr w' : World} {B p : Nat} {v : Value} {s : WS} (hl : Later w wr) (hB : w.heap.size ≤ B) (h : WrAt wr B p v s) (hh : Hits (wFp p v) wr w') : Later w w' :=
  Below.trans hl (hh.below (B := w.heap.size) hl.size fun k hk => by
    rcases hk with rfl | hk
    · exact Nat.le_trans hB h.1
    · exact Nat.le_trans hB (own_block h.2.2 hk).1)
theorem wFp_new {w : World} {B p : Nat} {v : Value} {s : WS} (h : WrAt w B p v s) {k : Nat} (hk : w.heap.size ≤ k) : ¬ wFp p v k := by
  rintro (rfl | hv)
  · have := h.lt; omega
  · have := (own_block h.2.2 hv).2.1; omega
theorem wFp_old {w : World} {B p : Nat} {v : Value} {s : WS} (h : WrAt w B p v s) {k : Nat} (hk : k < B) : ¬ wFp p v k := by
  rintro (rfl | hv)
  · have := h.1; omega
  · have := (own_block h.2.2 hv).1; omega
set_option maxHeartbeats 8000000 in
set_option maxRecDepth 100000 in
theorem putTxn_any {w : World} {A1 A2 : Option Addr} {n1 c1 n2 c2 : Nat} {r : Int} {R : List Spn} {C : List Chg} (hR : Rd w 2 A1 n1 (srow R)) (hRl : R.length = n1) (hC : Rd w 3 A2 n2 (crow C)) (hCl : C.length = n2) (hT : soundT (r, R, C) = true) (hr63 : r < 9223372036854775808) (hab : ∀ a, A2 = some a → a.block < w.heap.size) :
    Calls Tryz.prog 67 #[.agg #[.int .i64 r, .slice A1 n1 c1, .slice A2 n2 c2]] w fun e w' => ∃ v, e = .returned (.tuple #[v, .int .i64 0]) ∧ w'.ownsRow w.heap.size 5 1 v (encTx (r, R, C)).length (bvs (encTx (r, R, C))) ∧ Later w w' := by
  obtain ⟨h1, h2, h3, h4, h5⟩ := soundT_parts hT
  obtain ⟨W0, hW0⟩ : ∃ W, W = w.alloc (.cells #[.int .i64 r, .slice A1 n1 c1, .slice A2 n2 c2] 30) := ⟨_, rfl⟩
  have hl0 : Later w W0 := by rw [hW0]; exact later_alloc _ _
  have ht0 : W0.heap[w.heap.size]? = some (.cells #[.int .i64 r, .slice A1 n1 c1, .slice A2 n2 c2] 30 (0, 0)) := by rw [hW0]; exact heap_alloc_new _ _
  have HTX := hide_ (txn_any (c := c1) (c' := c2) (r := r) (hR.below hl0) hRl (hC.below hl0) hCl (by omega) (by omega))
  rw [hT] at HTX
  have HR := hide_ hR; have HC := hide_ hC; have HRL := hide_ hRl; have HCL := hide_ hCl; have HCK := hide_ h4; have HRS := hide_ h5; have HAB := hide_ hab
  have HT0 := hide_ ht0; have HL0 := hide_ hl0; have HW0 := hide_ hW0
  have q1 : (n1 : Int) ≤ 24 := by omega
  have q2 : n1 ≤ 24 := by omega
  have q3 : n2 ≤ 24 := by omega
  obtain ⟨rn, hrn⟩ : ∃ rn : Nat, r = rn := ⟨r.toNat, by omega⟩
  subst hrn
  have HSI := hide_ (fun (k : Nat) (s : Spn) (hs : R[k]? = some s) => (show soundS s = true from List.all_eq_true.1 h5 s (List.mem_of_getElem? hs)))
  clear hR hC hRl hCl hT h1 h2 h3 h4 h5 hl0 ht0 hab
  go_enter Tryz.func67, Tryz.ntmps67
  go_wp2_with fail
  rw [← HW0.out]
  refine HTX.out.mono ?_; rintro e w1 ⟨rfl, hl1⟩
  have HL1 := hide_ (HL0.out.trans hl1)
  have hx1 := later_row hl1 HT0.out
  have x0 : w1.cell? ⟨w.heap.size, 0, none⟩ = some (.int .i64 rn) := cell_of_row _ _ 0 _ _ (0, 0) hx1
  have x1 : w1.cell? ⟨w.heap.size, 1, none⟩ = some (.slice A1 n1 c1) := cell_of_row _ _ 1 _ _ (0, 0) hx1
  have xlt := theap_lt hx1
  have HX1 := hide_ hx1
  clear hl1 hx1 HTX
  go_wp2_with fail
  have HWR := hide_ (WrAt.fresh w1 (B := w1.heap.size) (Nat.le_refl _))
  obtain ⟨W2, hW2⟩ : ∃ W, W = w1.alloc (Obj.cells #[Value.slice none 0 0, Value.int IntKind.i64 0] 132) := ⟨_, rfl⟩
  rw [← hW2] at HWR ⊢
  have HL2 := hide_ (show Later w1 W2 by rw [hW2]; exact later_alloc _ _)
  have hz2 : W2.heap.size = w1.heap.size + 1 := by rw [hW2]; simp
  rw [← hz2]
  have HZ2 := hide_ hz2
  have HNM := hide_ (nums_any (HWR.out.later (later_alloc W2 (.cells #[.int .i64 rn, .int .i64 n1] 3))) (A := some ⟨W2.heap.size, 0, none⟩) (n := 2) (c := 2) (L := [(rn : Int), (n1 : Int)]) (Rd.fresh2 rfl) rfl (by omega) (by intro y hy; simp only [List.mem_cons, List.not_mem_nil, or_false] at hy; rcases hy with rfl | rfl <;> omega) (by intro a ha; injection ha with ha; subst ha; exact wFp_new HWR.out (Nat.le_refl _)) (by simp) (by have := HZ2.out; simp; omega))
  clear x0 x1 xlt hW2 hz2
  refine HNM.out.mono ?_; rintro e w3 ⟨rfl, v3, ht3, hh3, hd3⟩
  have HL3 := hide_ (wr_later ((HL1.out.trans HL2.out).al _) HL1.out.size (HWR.out.later (later_alloc _ _)) hh3)
  have HX3 := hide_ (hh3.row (later_row (HL2.out.al _) HX1.out) (wFp_old (HWR.out.later (later_alloc W2 (.cells #[.int .i64 rn, .int .i64 n1] 3))) (theap_lt HX1.out)))
  have HT3 := hide_ (show WrAt w3 w1.heap.size w1.heap.size v3 (putN rn ++ putN n1, 0) by
    have h := ht3
    unfold wNums at h; rw [if_neg (by omega)] at h; unfold wNums at h; rw [if_neg (by omega)] at h; unfold wNums at h
    simpa using h)
  clear HNM ht3 hh3 hd3
  have x1 : w3.cell? ⟨w.heap.size, 1, none⟩ = some (.slice A1 n1 c1) := cell_of_row _ _ 1 _ _ (0, 0) HX3.out
  go_wp2_with fail
  clear x1
  go_loopw [23] (fun s23 wr => ∃ (k : Nat) (v : Value), k ≤ n1 ∧ s23 = .int .i64 k ∧ Hid (WrAt wr w1.heap.size w1.heap.size v (putN rn ++ putN n1 ++ (R.take k).flatMap encSp, 0)) ∧ Hid (wr.heap[w.heap.size]? = some (.cells #[.int .i64 rn, .slice A1 n1 c1, .slice A2 n2 c2] 30 (0, 0))) ∧ Hid (Later w wr) ∧ Hid (w1.heap.size ≤ wr.heap.size)) (fun i _ => n1 - (intOf i).toNat)
  case atStart => exact ⟨0, v3, Nat.zero_le _, rfl, hide_ (by simpa using HT3.out), HX3, HL3, hide_ (Nat.le_of_lt HT3.out.lt)⟩
  case round =>
    obtain ⟨k, v, hk, rfl, HT, HX, HL, HS⟩ := hrel
    by_cases hlt : k < n1
    · obtain ⟨s, hs⟩ : ∃ s, R[k]? = some s := ⟨_, List.getElem?_eq_getElem (by rw [HRL.out]; exact hlt)⟩
      obtain ⟨b, o, rfl, l0, l1⟩ := (HR.out.below HL.out).span hs
      have q5 : (k : Int) < (n1 : Int) := by omega
      have q6 : (k : Int) ≤ 1048576 := by omega
      have HTK := hide_ (take_snoc hs)
      have HSS := hide_ (HSI.out k s hs)
      have blt := cell_lt l0
      have HLN := hide_ (show (putN rn ++ putN n1 ++ (R.take k).flatMap encSp).length ≤ 2000 by
        have h1 := putN_len9 (n := rn) (by omega)
        have h2 := putN_len3 (n := n1) (by omega)
        have h3 := flatSp_len (R := R.take k) (by rw [List.all_eq_true]; intro x hx; exact List.all_eq_true.1 HRS.out x (List.mem_of_mem_take hx))
        rw [List.length_take] at h3
        simp only [List.length_append]; omega)
      clear hs
      go_wp2_with fail
      obtain ⟨W4, hW4⟩ : ∃ W, W = wr.alloc (.cells #[.string s.1, .string s.2] 81) := ⟨_, rfl⟩
      rw [← hW4]
      have HL4 := hide_ (show Later wr W4 by rw [hW4]; exact later_alloc _ _)
      have hz4 : W4.heap.size = wr.heap.size + 1 := by rw [hW4]; simp
      rw [← hz4]
      have HZ4 := hide_ hz4
      have HSZ := hide_ (show s.1.size ≤ 17 ∧ s.2.size ≤ 17 by have := HSS.out; unfold soundS at this; have := of_decide_eq_true this; exact ⟨this.1, this.2.1⟩)
      have HTW := hide_ ((HT.out.later HL4.out).later (later_alloc W4 (.cells #[.string s.1, .string s.2] 9)))
      have HTT := hide_ (texts_any HTW.out (A := some ⟨W4.heap.size, 0, none⟩) (n := 2) (c := 2) (L := [s.1, s.2]) (Rd.fresh2 rfl) rfl (by omega) (by intro y hy; have h1 := HSZ.out; simp only [List.mem_cons, List.not_mem_nil, or_false] at hy; rcases hy with rfl | rfl <;> omega) (by intro a ha; injection ha with ha; subst ha; exact wFp_new (HT.out.later HL4.out) (Nat.le_refl _)) (by have h1 := HLN.out; simp only; omega) (by have h1 := HS.out; have h2 := HZ4.out; simp; omega))
      clear hW4 hz4 l0 l1 blt
      refine HTT.out.mono ?_; rintro e w5 ⟨rfl, v5, ht5, hh5, hd5⟩
      have HL5 := hide_ (wr_later ((HL.out.trans HL4.out).al _) HL1.out.size HTW.out hh5)
      have HX5 := hide_ (hh5.row (later_row (HL4.out.al _) HX.out) (wFp_old HTW.out (theap_lt HX1.out)))
      have HT5 := hide_ (show WrAt w5 w1.heap.size w1.heap.size v5 (putN rn ++ putN n1 ++ (R.take (k + 1)).flatMap encSp, 0) by
        have h := ht5
        unfold wTexts at h; rw [if_neg (by have := HSZ.out; omega)] at h; unfold wTexts at h; rw [if_neg (by have := HSZ.out; omega)] at h; unfold wTexts at h
        rw [HTK.out, List.flatMap_append]
        simpa [encSp, List.append_assoc] using h)
      have HS5 := hide_ (Nat.le_of_lt HT5.out.lt)
      clear HTT ht5 hh5 hd5
      go_wp2_with fail
      go_roundw
      case rel => exact ⟨k + 1, v5, by omega, by go_num, HT5, HX5, HL5, HS5⟩
      case measure => simp [intOf]; omega
    · obtain rfl : k = n1 := by omega
      have q5 : ¬ (k : Int) < (k : Int) := by omega
      have x2 : wr.cell? ⟨w.heap.size, 2, none⟩ = some (.slice A2 n2 c2) := cell_of_row _ _ 2 _ _ (0, 0) HX.out
      have HMF := hide_ (show R.take k = R from List.take_of_length_le (by rw [HRL.out]; exact Nat.le_refl _))
      rw [HMF.out] at HT
      have HLN := hide_ (show (putN rn ++ putN k ++ R.flatMap encSp).length ≤ 2000 by
        have h1 := putN_len9 (n := rn) (by omega)
        have h2 := putN_len3 (n := k) (by omega)
        have h3 := flatSp_len HRS.out
        rw [HRL.out] at h3
        simp only [List.length_append]; omega)
      have HCH := hide_ (changes_any HT.out (A := A2) (n := n2) (c := c2) (L := C) (HC.out.below HL.out) HCL.out (by omega) (chkAll_all HCK.out) (by intro a ha; exact wFp_old HT.out (Nat.lt_of_lt_of_le (HAB.out a ha) HL1.out.size)) (by have := HLN.out; simp only; omega) HS.out)
      go_wp2_with fail
      refine HCH.out.mono ?_; rintro e w6 ⟨rfl, v6, ht6, hh6, hd6⟩
      have HL6 := hide_ (wr_later HL.out HL1.out.size HT.out hh6)
      have HT6 := hide_ (show WrAt w6 w1.heap.size w1.heap.size v6 (encTx (rn, R, C), 0) by
        have h := ht6
        have e : (encTx (rn, R, C), 0) = ((putN rn ++ putN k ++ R.flatMap encSp) ++ putN n2 ++ C.flatMap encCh, 0) := by unfold encTx; rw [← HRL.out, ← HCL.out]; rfl
        rw [e]; exact h)
      clear HCH ht6 hh6 hd6 x2
      go_wp2_with fail
      refine (wbytes_any HT6.out).mono ?_; rintro e w7 ⟨rfl, rfl⟩
      go_wp2_with fail
      go_ret2
      exact ⟨v6, rfl, own_base HT6.out.2.2 HL1.out.size, HL6.out⟩

end Go.Proofs.YtcmollfhlillfaaGreatDoor
/-
  front: messages in memory; resolve.
-/
namespace Go.Proofs.YtcmollfhlillfaaGreatDoor
open Go.RowKit
set_option linter.unusedVariables false
set_option linter.unusedSimpArgs false
/-- A message. -/
structure Msg where
  kind : Int
  frm : Int
  to_ : Int
  epoch : Int
  a : Int
  b : Int
  c : Int
  body : List UInt8
/-- Bytes that are only read. -/
def bodyR : Rep (List UInt8) where
  size := 1
  holds w cs l X := ∃ A c, cs = [.slice A l.length c] ∧ Rd w 1 A l.length (bvs l) ∧ l.length ≤ c ∧ c ≤ 9223372036854775807 ∧ (A = none → l.length = 0) ∧ (∀ a, A = some a → ∃ cs fz, w.heap[a.block]? = some (.cells cs 5 fz)) ∧ X = (match A with | none => [] | some a => [a.block])
  frame := by
    rintro w w' cs a X F ⟨A, c, rfl, h1, h2, h3, h4, h5, rfl⟩ hh hF
    refine ⟨A, c, rfl, hh.rd h1 fun a ha => hF _ (by subst ha; simp), h2, h3, h4, fun a ha => ?_, rfl⟩
    obtain ⟨cs, fz, h6⟩ := h5 a ha
    exact ⟨cs, fz, hh.row h6 (hF _ (by subst ha; simp))⟩
  lt := by
    rintro w cs a X ⟨A, c, rfl, h1, h2, h3, h4, h5, rfl⟩ k hk
    cases A with
    | none => cases hk
    | some a =>
      rw [List.mem_singleton.1 hk]
      obtain ⟨cs, fz, h6⟩ := h5 a rfl
      exact theap_lt h6
  len := by rintro w cs a X ⟨A, c, rfl, _⟩; rfl
  one := by rintro w cs a X ⟨A, c, rfl, _⟩ u hu; rw [List.mem_singleton.1 hu]; rfl
theorem own_max {w : World} {base n size c : Nat} {e : TypeId} {A : Option Addr} {xs : List Value} (h : w.ownsRow base e size (.slice A n c) n xs) : c ≤ 9223372036854775807 := by
  rcases h.2 with ⟨hv, h0⟩ | ⟨g, cap, cur, hv, hb, hh, hn, hm, _⟩
  · injection hv with _ _ hv; omega
  · injection hv with _ _ hv; subst hv; unfold maxLen at hm; omega
theorem body_own {w : World} {B : Nat} {v : Value} {l : List UInt8} (h : w.ownsRow B 5 1 v l.length (bvs l)) : ∃ X, bodyR.holds w [v] l X ∧ ∀ k ∈ X, B ≤ k := by
  obtain ⟨A, c, rfl⟩ := own_form h
  have hc := own_cap2 h
  cases A with
  | none => exact ⟨[], ⟨none, c, rfl, Rd.of_own h, hc.2, own_max h, fun _ => hc.1 rfl, fun a ha => (by cases ha), rfl⟩, fun k hk => (by cases hk)⟩
  | some a =>
    have hb : ∀ g, (Value.slice (some a) l.length c).ownBlock = some g → g = a.block := fun g hg => by injection hg with hg; exact hg.symm
    obtain ⟨h1, h2, cs, h3⟩ := own_block (g := a.block) h rfl
    exact ⟨[a.block], ⟨some a, c, rfl, Rd.of_own h, hc.2, own_max h, fun e => (by cases e), fun a' ha => (by injection ha with ha; subst ha; exact ⟨cs, _, h3⟩), rfl⟩, fun k hk => (by rw [List.mem_singleton.1 hk]; exact h1)⟩
def msgR : Rep Msg where
  size := 8
  holds w cs m X := ∃ u, cs = [.int .i64 m.kind, .int .i64 m.frm, .int .i64 m.to_, .int .i64 m.epoch, .int .i64 m.a, .int .i64 m.b, .int .i64 m.c, u] ∧ bodyR.holds w [u] m.body X
  frame := by
    rintro w w' cs a X F ⟨u, rfl, h1⟩ hh hF
    exact ⟨u, rfl, bodyR.frame h1 hh hF⟩
  lt := by rintro w cs a X ⟨u, rfl, h1⟩; exact bodyR.lt h1
  len := by rintro w cs a X ⟨u, rfl, _⟩; rfl
  one := by
    rintro w cs a X ⟨u1, rfl, h1⟩ u hu
    simp only [List.mem_cons, List.not_mem_nil, or_false] at hu
    rcases hu with rfl | rfl | rfl | rfl | rfl | rfl | rfl | rfl
    · rfl
    · rfl
    · rfl
    · rfl
    · rfl
    · rfl
    · rfl
    · exact bodyR.one h1 u (by simp)
theorem msgT : ElemT Tryz.prog 39 53 8 80 := elem_mk (z := .agg #[.int .i64 0, .int .i64 0, .int .i64 0, .int .i64 0, .int .i64 0, .int .i64 0, .int .i64 0, .slice none 0 0]) Tryz.underlying39 (by kernel_rfl) rfl (by decide)
def toldHas (T : List (Int × List Int)) (r : Int) : Bool := T.any fun x => x.1 == r
def resBody (B : List ByteArray) (J : List Jb) (i : Nat) : List UInt8 := J.flatMap fun j => putT (encTx (carve1 B j.tx i))
def resMsg (s : Fr) (b : Bt) (i : Nat) (r : Int) : List Msg := if toldHas b.told r = true then [] else [⟨3, s.node, r, s.epoch, b.prev, b.ver, b.jobs.length, resBody s.bounds b.jobs i⟩]
def resTo (s : Fr) (b : Bt) : Nat → List Msg
  | 0 => []
  | i + 1 => resTo s b i ++ (match s.refs[i]? with
    | some r => resMsg s b i r
    | none => [])
def resolveL (s : Fr) (b : Bt) : List Msg := resTo s b s.refs.length
theorem resTo_len (s : Fr) (b : Bt) : ∀ i, (resTo s b i).length ≤ i
  | 0 => Nat.le_refl _
  | i + 1 => by
    have h := resTo_len s b i
    unfold resTo
    rw [List.length_append]
    cases s.refs[i]? with
    | none => simp; omega
    | some r =>
      simp only
      unfold resMsg
      split <;> simp <;> omega
theorem ToldH.has {w : World} {m : Nat} {T : List (Int × List Int)} {X : List Nat} (h : ToldH w m T X) : ∃ M, MapM w m M ∧ M.length = T.length ∧ ∀ r, (getM M r).isSome = toldHas T r := by
  obtain ⟨M, xs, h1, h2, h3, _⟩ := h
  refine ⟨M, h1, by have := congrArg List.length h2; simpa using this, fun r => ?_⟩
  have e1 : (getM M r).isSome = (M.map (·.1)).any (· == r) := by
    unfold getM
    rw [Option.isSome_map, List.any_map, List.isSome_find?]
    rfl
  rw [e1, h2, List.any_map]; rfl
theorem smeet_ne {a b : Spn} (h : ¬ (smeetS a b).2 ≤ (smeetS a b).1) : (smeetS a b).1 = (if a.1 < b.1 then b.1 else a.1) ∧ (smeetS a b).2 = (if b.2 < a.2 then b.2 else a.2) := by
  unfold smeetS at h ⊢
  by_cases hc : (if b.2 < a.2 then b.2 else a.2) ≤ (if a.1 < b.1 then b.1 else a.1)
  · simp only [if_pos hc] at h
    exact absurd (show ByteArray.empty ≤ ByteArray.empty by grind) h
  · simp only [if_neg hc]
    exact ⟨trivial, trivial⟩
theorem smeet_sound {a b : Spn} (ha : soundS a = true) (hb : b.1.size ≤ 17 ∧ b.2.size ≤ 17) (h : ¬ (smeetS a b).2 ≤ (smeetS a b).1) : soundS (smeetS a b) = true := by
  unfold soundS at ha ⊢
  have ha := of_decide_eq_true ha
  obtain ⟨e1, e2⟩ := smeet_ne h
  refine decide_eq_true ⟨?_, ?_, by grind⟩
  · rw [e1]; split
    · exact hb.1
    · exact ha.1
  · rw [e2]; split
    · exact hb.2
    · exact ha.2.1
theorem meetL_sound {q : Spn} (hq : q.1.size ≤ 17 ∧ q.2.size ≤ 17) : ∀ {R : List Spn}, R.all soundS = true → (meetL q R).all soundS = true
  | [], _ => rfl
  | s :: R, h => by
    rw [List.all_cons, Bool.and_eq_true] at h
    have h2 := meetL_sound hq h.2
    unfold meetL at h2 ⊢
    rw [List.filterMap_cons]
    by_cases hc : (smeetS s q).2 ≤ (smeetS s q).1
    · rw [if_pos hc]; exact h2
    · rw [if_neg hc]
      simp only [List.all_cons, Bool.and_eq_true]
      exact ⟨smeet_sound h.1 hq hc, h2⟩
theorem chkAll_of : ∀ {C : List Chg}, (∀ c ∈ C, chk c.1 c.2.1 c.2.2 = 0) → chkAll C = 0
  | [], _ => rfl
  | c :: C, h => by
    unfold chkAll
    rw [if_pos (h c (List.mem_cons_self ..))]
    exact chkAll_of fun d hd => h d (List.mem_cons_of_mem _ hd)
theorem cut1_chk {q : Spn} (hq : q.1.size ≤ 17 ∧ q.2.size ≤ 17) {c : Chg} (h : chk c.1 c.2.1 c.2.2 = 0) : ∀ d ∈ cut1 q c, chk d.1 d.2.1 d.2.2 = 0 := by
  intro d hd
  unfold cut1 at hd
  split at hd
  · rename_i h3
    split at hd
    · rename_i hlt
      rw [List.mem_singleton.1 hd]
      have hne : ¬ (smeetS q (c.2.1, c.2.2)).2 ≤ (smeetS q (c.2.1, c.2.2)).1 := by grind
      obtain ⟨e1, e2⟩ := smeet_ne hne
      unfold chk at h ⊢
      rw [if_pos h3] at h
      split at h
      · cases h
      · split at h
        · cases h
        · split at h
          · cases h
          · rename_i h4 h5 h6
            have s1 : (smeetS q (c.2.1, c.2.2)).1.size ≤ 17 := by
              rw [e1]; split
              · show c.2.1.size ≤ 17; omega
              · exact hq.1
            have s2 : (smeetS q (c.2.1, c.2.2)).2.size ≤ 17 := by
              rw [e2]; split
              · show c.2.2.size ≤ 17; omega
              · exact hq.2
            simp only [if_true]
            rw [if_neg (by omega), if_neg (by omega), if_neg (by grind)]
    · cases hd
  · split at hd
    · rw [List.mem_singleton.1 hd]; exact h
    · cases hd
theorem cutC_chk {q : Spn} (hq : q.1.size ≤ 17 ∧ q.2.size ≤ 17) {C : List Chg} (h : chkAll C = 0) : chkAll (cutC q C) = 0 := by
  refine chkAll_of fun d hd => ?_
  unfold cutC at hd
  obtain ⟨c, hc, hd⟩ := List.mem_flatMap.1 hd
  exact cut1_chk hq (chkAll_all h c hc) d hd
theorem cutC_len (q : Spn) : ∀ C : List Chg, (cutC q C).length ≤ C.length
  | [] => Nat.le_refl _
  | c :: C => by
    have h1 := cut1_len q c
    have h2 := cutC_len q C
    unfold cutC at h2 ⊢
    rw [List.flatMap_cons, List.length_append, List.length_cons]; omega
theorem carve_sound {B : List ByteArray} {t : Tx} {n : Nat} (hB : bndB B = true) (hn : n ≤ B.length) (h : soundT t = true) : soundT (carve1 B t n) = true := by
  obtain ⟨r, R, C⟩ := t
  obtain ⟨h1, h2, h3, h4, h5⟩ := soundT_parts h
  have hq := pieceF_size hB hn
  have a1 : (meetL (pieceF B n) R).length ≤ R.length := List.length_filterMap_le _ _
  have a2 := cutC_len (pieceF B n) C
  have a3 := cutC_chk hq h4
  have a4 := meetL_sound hq h5
  unfold carve1 soundT
  simp only [Bool.and_eq_true, decide_eq_true_eq]
  exact ⟨⟨⟨⟨h1, by omega⟩, by omega⟩, a3⟩, a4⟩

end Go.Proofs.YtcmollfhlillfaaGreatDoor
/-
  front: resolve.
-/
namespace Go.Proofs.YtcmollfhlillfaaGreatDoor
open Go.RowKit
set_option linter.unusedVariables false
set_option linter.unusedSimpArgs false
/-- What must hold of a front and its batch, that it may be asked about. -/
structure ResOk (s : Fr) (b : Bt) : Prop where
  bnd : bndB s.bounds = true
  len : s.refs.length = s.bounds.length + 1
  jobs : b.jobs.length ≤ 4
  sound : ∀ j ∈ b.jobs, soundT j.tx = true ∧ j.tx.1 < 9223372036854775808
  refs : ∀ r ∈ s.refs, I64 r
/-- Messages that were made. -/
def MsgsPost (w : World) (L : List Msg) (e : Ending) (w' : World) : Prop := ∃ A n c X, e = .returned (.slice A n c) ∧ L.length = n ∧ SliceP w.heap.size 53 msgR w' (.slice A n c) L X ∧ (∀ k ∈ X, w.heap.size ≤ k) ∧ Later w w'
theorem zeroSl (w : World) : (zeroValue 35).run Tryz.prog w = .ok (.slice none 0 0) w := by kernel_rfl
theorem job_cells {w : World} {A : Option Addr} {n c : Nat} {J : List Jb} {X : List Nat} (h : jobsR.holds w [.slice A n c] J X) {i : Nat} {j : Jb} (hi : J[i]? = some j) :
    J.length = n ∧ ∃ g A1 c1 A2 c2, A = some ⟨g, 0, none⟩ ∧ w.cell? ⟨g, i * 5, none⟩ = some (.int .i64 j.guest) ∧ w.cell? ⟨g, i * 5 + 1, none⟩ = some (.int .i64 j.seq) ∧ w.cell? ⟨g, i * 5 + 2, none⟩ = some (.int .i64 j.tx.1) ∧ w.cell? ⟨g, i * 5 + 3, none⟩ = some (.slice A1 j.tx.2.1.length c1) ∧ w.cell? ⟨g, i * 5 + 4, none⟩ = some (.slice A2 j.tx.2.2.length c2) ∧
      Rd w 2 A1 j.tx.2.1.length (srow j.tx.2.1) ∧ Rd w 3 A2 j.tx.2.2.length (crow j.tx.2.2) := by
  obtain ⟨hn, g, cells, x, hA, hc, u1, u2, X1, X2, rfl, h1, h2, _⟩ := slice_cells h hi (by decide)
  obtain ⟨v1, e1, o1, _⟩ := spans_holds.1 h1
  obtain ⟨v2, e2, o2, _⟩ := chgs_holds.1 h2
  injection e1 with e1; injection e2 with e2
  subst e1 e2
  obtain ⟨A1, c1, rfl⟩ := own_form o1
  obtain ⟨A2, c2, rfl⟩ := own_form o2
  have z := hc 0 _ rfl
  rw [Nat.add_zero] at z
  exact ⟨hn, g, A1, c1, A2, c2, hA, z, hc 1 _ rfl, hc 2 _ rfl, hc 3 _ rfl, hc 4 _ rfl, Rd.of_own o1, Rd.of_own o2⟩
theorem tx_cells {base : Nat} {w : World} {A : Option Addr} {n c : Nat} {T : List Tx} {X : List Nat} (h : SliceP base 30 txR w (.slice A n c) T X) {i : Nat} {t : Tx} (hi : T[i]? = some t) :
    ∃ g A1 c1 A2 c2, A = some ⟨g, 0, none⟩ ∧ w.cell? ⟨g, i * 3, none⟩ = some (.int .i64 t.1) ∧ w.cell? ⟨g, i * 3 + 1, none⟩ = some (.slice A1 t.2.1.length c1) ∧ w.cell? ⟨g, i * 3 + 2, none⟩ = some (.slice A2 t.2.2.length c2) ∧
      Rd w 2 A1 t.2.1.length (srow t.2.1) ∧ Rd w 3 A2 t.2.2.length (crow t.2.2) ∧ ∀ a, A2 = some a → a.block < w.heap.size := by
  obtain ⟨hn, g, cells, x, hA, hc, u1, u2, X1, X2, rfl, h1, h2, _⟩ := slice_cells h.holds hi (by decide)
  obtain ⟨v1, e1, o1, _⟩ := spans_holds.1 h1
  obtain ⟨v2, e2, o2, _⟩ := chgs_holds.1 h2
  injection e1 with e1; injection e2 with e2
  subst e1 e2
  obtain ⟨A1, c1, rfl⟩ := own_form o1
  obtain ⟨A2, c2, rfl⟩ := own_form o2
  have z := hc 0 _ rfl
  rw [Nat.add_zero] at z
  exact ⟨g, A1, c1, A2, c2, hA, z, hc 1 _ rfl, hc 2 _ rfl, Rd.of_own o1, Rd.of_own o2, fun a ha => (own_block (g := a.block) o2 (by subst ha; rfl)).2.1⟩
theorem resBody_next (B : List ByteArray) {J : List Jb} {k i : Nat} {j : Jb} (h : J[k]? = some j) : resBody B (J.take (k + 1)) i = resBody B (J.take k) i ++ putT (encTx (carve1 B j.tx i)) := by
  unfold resBody
  rw [List.take_add_one, h, List.flatMap_append]; simp
theorem carve_at {B : List ByteArray} {t : Tx} {i : Nat} (h : i ≤ B.length) : (carveF B t)[i]? = some (carve1 B t i) := by
  unfold carveF
  rw [List.getElem?_map, List.getElem?_range (by omega)]; rfl
set_option maxRecDepth 100000 in
theorem resBody_len {s : Fr} {b : Bt} (h : ResOk s b) {i : Nat} (hi : i ≤ s.bounds.length) : ∀ k, (resBody s.bounds (b.jobs.take k) i).length ≤ k * 4000 := by
  intro k
  induction k with
  | zero => simp [resBody]
  | succ k ih =>
    cases hj : b.jobs[k]? with
    | none =>
      have e : b.jobs.take (k + 1) = b.jobs.take k := by rw [List.take_add_one, hj]; simp
      rw [e]; omega
    | some j =>
      rw [resBody_next _ hj, List.length_append]
      have h1 := h.sound j (List.mem_of_getElem? hj)
      have h2 := encTx_len (carve_sound h.bnd hi h1.1) (by have e : (carve1 s.bounds j.tx i).1 = j.tx.1 := rfl; rw [e]; exact h1.2)
      have h3 := putT_len (s := encTx (carve1 s.bounds j.tx i)) (by omega)
      omega
set_option maxHeartbeats 16000000 in
set_option maxRecDepth 100000 in
theorem resolve_any {w : World} {f : Nat} {s : Fr} {X : List Nat} {b : Bt} (h : FrH w f s X) (hcur : s.cur = some b) (hok : ResOk s b) :
    Calls Tryz.prog 35 #[.pointer (some ⟨f, 0, none⟩)] w (MsgsPost w (resolveL s b)) := by
  obtain ⟨cc, hp, hX, hnd⟩ := id h
  have hcu := hp.cur
  rw [hcur] at hcu
  obtain ⟨b0, bc, hup, hbt, _⟩ := hcu
  obtain ⟨vr, er, orf, _⟩ := ints_holds.1 hp.refs
  injection er with er
  obtain ⟨Ar, cr, rfl⟩ := own_form orf
  obtain ⟨vb, eb, ob, _⟩ := strs_holds.1 hp.bounds
  injection eb with eb
  obtain ⟨Ab, cb, rfl⟩ := own_form ob
  obtain ⟨Aj, cj, ej⟩ := slice_len hbt.jobs
  injection ej with ej
  obtain ⟨M, hM, hMl, hMh⟩ := hbt.told.has
  have hrow : w.heap[f]? = some (.cells #[.int .i64 s.node, .int .i64 s.gen, .int .i64 s.epoch, .int .i64 s.rec_, cc.uc, .slice Ar s.refs.length cr, .slice Ab s.bounds.length cb, .int .i64 s.version, .int .i64 s.known, .bool s.owed, .map (some cc.m), cc.uq, cc.uw, .int .i64 s.number, .pointer (some ⟨b0, 0, none⟩), .int .i64 s.stuck, .bool s.begun] 75 (0, 0)) := by
    have := hp.row; unfold frCells at this; rw [er, eb, hup] at this; exact this
  have hbrow := hbt.row
  rw [ej] at hbrow
  have HJ := hbt.jobs
  rw [ej] at HJ
  have HFR := hide_ h; have HRW := hide_ hrow; have HBW := hide_ hbrow; have HJB := hide_ HJ; have HRF := hide_ (Rd.of_own orf); have HBD := hide_ (Rd.of_own ob); have HMM := hide_ hM; have HMH := hide_ hMh; have HOK := hide_ hok; have HML := hide_ hMl
  obtain ⟨nr, hnr⟩ : ∃ n, n = s.refs.length := ⟨_, rfl⟩
  obtain ⟨nj, hnj⟩ : ∃ n, n = b.jobs.length := ⟨_, rfl⟩
  obtain ⟨nb, hnb⟩ : ∃ n, n = s.bounds.length := ⟨_, rfl⟩
  rw [← hnr] at HRW HRF; rw [← hnb] at HRW HBD; rw [← hnj] at HBW HJB
  have HNR := hide_ hnr; have HNJ := hide_ hnj; have HNB := hide_ hnb
  have b1 : nj ≤ 4 := by rw [hnj]; exact hok.jobs
  have b2 : nb < 8 := by have := hok.bnd; unfold bndB at this; simp at this; omega
  have HB3 := hide_ (show nr = nb + 1 by rw [hnr, hnb]; exact hok.len)
  have c5 : w.cell? ⟨f, 5, none⟩ = some (.slice Ar nr cr) := cell_of_row _ _ 5 _ _ (0, 0) HRW.out
  clear h hcur hok hp hX hnd hup hbt er orf eb ob ej hM hMl hMh hrow hbrow HJ hnr hnj hnb
  go_enter Tryz.func35, Tryz.ntmps35
  go_wp2_with fail
  go_loopw [3, 22] (fun s3 s22 wr => ∃ (i m : Nat) (X : List Nat) (A3 : Option Addr) (c3 : Nat), i ≤ nr ∧ s22 = .int .i64 i ∧ m ≤ i ∧ s3 = .slice A3 m c3 ∧ Hid ((resTo s b i).length = m) ∧ Hid (SliceP w.heap.size 53 msgR wr (.slice A3 m c3) (resTo s b i) X) ∧ Hid (∀ k ∈ X, w.heap.size ≤ k) ∧ Hid (Later w wr)) (fun _ i _ => nr - (intOf i).toNat)
  case atStart => exact ⟨0, 0, [], none, 0, Nat.zero_le _, rfl, Nat.le_refl _, rfl, hide_ rfl, hide_ (SliceP.nil _ _ _ _), hide_ (fun k hk => by cases hk), hide_ (Later.refl _)⟩
  case round =>
    obtain ⟨i, m, X, A3, c3, hi, rfl, hmi, rfl, HM, HP, HX, HL⟩ := hrel
    by_cases hlt : i < nr
    · obtain ⟨r, hr⟩ : ∃ r, s.refs[i]? = some r := ⟨_, List.getElem?_eq_getElem (by rw [← HNR.out]; exact hlt)⟩
      obtain ⟨br, orr, rfl, l0⟩ := (HRF.out.below HL.out).int hr
      have q1 : (i : Int) < (nr : Int) := by omega
      have q2 : (i : Int) ≤ 100 := by have := HB3.out; omega
      have blt := cell_lt l0
      have hf := later_row HL.out HRW.out
      have hb := later_row HL.out HBW.out
      have c14 : wr.cell? ⟨f, 14, none⟩ = some (.pointer (some ⟨b0, 0, none⟩)) := cell_of_row _ _ 14 _ _ (0, 0) hf
      have d5 : wr.cell? ⟨b0, 5, none⟩ = some (.map (some bc.m)) := cell_of_row _ _ 5 _ _ (0, 0) hb
      have hlook := (HMM.out.later HL.out).look_ok (t := 92) (e := 35) Tryz.underlying92 (zeroSl wr) (HOK.out.refs r (List.mem_of_getElem? hr))
      rw [HMH.out] at hlook
      obtain ⟨tv, htv⟩ : ∃ v, v = (getM M r).getD (.slice none 0 0) := ⟨_, rfl⟩
      rw [← htv] at hlook
      have HRR := hide_ hr
      clear htv hr hf hb
      by_cases htold : toldHas b.told r = true
      · rw [htold] at hlook
        have HE := hide_ (show resTo s b (i + 1) = resTo s b i by show resTo s b i ++ _ = _; rw [HRR.out]; simp only; unfold resMsg; rw [if_pos htold, List.append_nil])
        clear htold
        go_wp2_with fail
        go_roundw
        case rel => exact ⟨i + 1, m, X, A3, c3, by omega, by go_num, by omega, rfl, hide_ (by rw [HE.out]; exact HM.out), hide_ (by rw [HE.out]; exact HP.out), HX, HL⟩
        case measure => simp [intOf]; omega
      · have htold : toldHas b.told r = false := by simpa using htold
        rw [htold] at hlook
        have HE := hide_ (show resTo s b (i + 1) = resTo s b i ++ [⟨3, s.node, r, s.epoch, b.prev, b.ver, b.jobs.length, resBody s.bounds b.jobs i⟩] by show resTo s b i ++ _ = _; rw [HRR.out]; simp only; unfold resMsg; rw [if_neg (by rw [htold]; decide)])
        have d4 : wr.cell? ⟨b0, 4, none⟩ = some (.slice Aj nj cj) := cell_of_row _ _ 4 _ _ (0, 0) (later_row HL.out HBW.out)
        have flt := cell_lt c14
        have blt0 := cell_lt d4
        clear htold
        go_wp2_with fail
        obtain ⟨wo, rfl⟩ : ∃ wo, wo = wr := ⟨_, rfl⟩
        have HW0 := hide_ (WrAt.fresh wo (B := wo.heap.size) (Nat.le_refl _))
        obtain ⟨Wa, hWa⟩ : ∃ W, W = wo.alloc (Obj.cells #[Value.slice none 0 0, Value.int IntKind.i64 0] 132) := ⟨_, rfl⟩
        rw [← hWa] at HW0 ⊢
        have HLA := hide_ (show Later wo Wa by rw [hWa]; exact later_alloc _ _)
        have hi8 : i ≤ nb := by have := HB3.out; omega
        clear hWa c14 d5 d4 flt blt0 hlook l0 blt
        go_loopw [50] (fun s50 wr => ∃ (k : Nat) (v : Value), k ≤ nj ∧ s50 = .int .i64 k ∧ Hid (WrAt wr wo.heap.size wo.heap.size v (resBody s.bounds (b.jobs.take k) i, 0)) ∧ Hid (Later wo wr) ∧ Hid (wo.heap.size ≤ wr.heap.size)) (fun i _ => nj - (intOf i).toNat)
        case atStart => exact ⟨0, .slice none 0 0, Nat.zero_le _, rfl, HW0, HLA, hide_ HLA.out.size⟩
        case round =>
          obtain ⟨k, v, hk, rfl, HT, HLI, HSI⟩ := hrel
          by_cases hlt2 : k < nj
          · obtain ⟨j, hj⟩ : ∃ j, b.jobs[k]? = some j := ⟨_, List.getElem?_eq_getElem (by rw [← HNJ.out]; exact hlt2)⟩
            have HLW := hide_ (HL.out.trans HLI.out)
            obtain ⟨_, gj, A1, c1, A2, c2, e, j0, j1, j2, j3, j4, jr1, jr2⟩ := job_cells (jobsR.later HJB.out HLW.out) hj
            subst e
            have HJN := hide_ (resBody_next s.bounds (i := i) hj)
            have HJS := hide_ (HOK.out.sound j (List.mem_of_getElem? hj))
            have q5 : (k : Int) < (nj : Int) := by omega
            have q6 : (k : Int) ≤ 4 := by omega
            have jlt := cell_lt j0
            clear hj
            obtain ⟨Wc, hWc⟩ : ∃ W, W = wr.alloc (.cells #[.int .i64 j.guest, .int .i64 j.seq, .int .i64 j.tx.1, .slice A1 j.tx.2.1.length c1, .slice A2 j.tx.2.2.length c2] 120) := ⟨_, rfl⟩
            have HWC := hide_ hWc
            have hlc : Later wr Wc := by rw [hWc]; exact later_alloc _ _
            have hrc : Wc.heap[wr.heap.size]? = some (.cells #[.int .i64 j.guest, .int .i64 j.seq, .int .i64 j.tx.1, .slice A1 j.tx.2.1.length c1, .slice A2 j.tx.2.2.length c2] 120 (0, 0)) := by rw [hWc]; exact heap_alloc_new _ _
            have x6 := later_drew_cell (show Wc.cell? ⟨f, 6, none⟩ = some (.slice Ab nb cb) from cell_of_row _ _ 6 _ _ (0, 0) (later_row (HLW.out.trans hlc) HRW.out))
            have x2 := later_drew_cell (show Wc.cell? ⟨wr.heap.size, 2, none⟩ = some (.int .i64 j.tx.1) from cell_of_row _ _ 2 _ _ (0, 0) hrc)
            have x3 := later_drew_cell (show Wc.cell? ⟨wr.heap.size, 3, none⟩ = some (.slice A1 j.tx.2.1.length c1) from cell_of_row _ _ 3 _ _ (0, 0) hrc)
            have x4 := later_drew_cell (show Wc.cell? ⟨wr.heap.size, 4, none⟩ = some (.slice A2 j.tx.2.2.length c2) from cell_of_row _ _ 4 _ _ (0, 0) hrc)
            have hcv := hide_ (carve_any (w := Wc.drew) (c := cb) (c1 := c1) (c2 := c2) (r := j.tx.1) (HBD.out.below (HLW.out.trans hlc.dr)) HNB.out.symm HOK.out.bnd (jr1.below hlc.dr) rfl (jr2.below hlc.dr) rfl HJS.out.1)
            have HLC := hide_ hlc
            have hti := hide_ (carve_at (B := s.bounds) (t := j.tx) (i := i) (by rw [← HNB.out]; exact hi8))
            obtain ⟨t1, ht1⟩ : ∃ t, t = carve1 s.bounds j.tx i := ⟨_, rfl⟩
            have HTS := hide_ (show soundT t1 = true ∧ t1.1 < 9223372036854775808 by rw [ht1]; exact ⟨carve_sound HOK.out.bnd (by rw [← HNB.out]; exact hi8) HJS.out.1, HJS.out.2⟩)
            have HCL := hide_ (show (carveF s.bounds j.tx).length = nb + 1 by unfold carveF; rw [List.length_map, List.length_range, HNB.out])
            rw [← ht1] at hti HJN
            clear hlc hrc jr1 jr2 hWc ht1
            go_wp2_with fail
            rw [← HWC.out]
            refine wp_region_k (by kernel_rfl) ?_
            refine wKt 0 (v := ?_) rfl (by intro W hSw; go_simp; with_reducible rfl) ?_; try simp only [Act.put, qA, qZ, qS]
            refine wKt 1 (v := ?_) rfl (by intro W hSw; go_simp; with_reducible rfl) ?_; try simp only [Act.put, qA, qZ, qS]
            refine wKt 2 (v := ?_) rfl (by intro W hSw; go_simp; with_reducible rfl) ?_; try simp only [Act.put, qA, qZ, qS]
            refine wKt 3 (v := ?_) rfl (by intro W hSw; go_simp; with_reducible rfl) ?_; try simp only [Act.put, qA, qZ, qS]
            refine wKt 4 (v := ?_) rfl (by intro W hSw; go_simp; with_reducible rfl) ?_; try simp only [Act.put, qA, qZ, qS]
            refine wKt 5 (v := ?_) rfl (by intro W hSw; go_simp; with_reducible rfl) ?_; try simp only [Act.put, qA, qZ, qS]
            refine wpAnyK_one 6 (by kernel_rfl) rfl (fun K hK => ?_)
            go_simp
            refine hcv.out.mono ?_; rintro e w5 ⟨A6, n6, c6, X6, rfl, hn6, hp6, hx6, hl6⟩
            refine hK.out _ _ (by assumption) ?_
            clear hK K; try simp only [Act.put, qA, qZ, qS]
            refine wKt 7 (v := ?_) rfl (by intro W hSw; go_simp; with_reducible rfl) ?_; try simp only [Act.put, qA, qZ, qS]
            refine wKt 8 (v := ?_) rfl (by intro W hSw; go_simp; with_reducible rfl) ?_; try simp only [Act.put, qA, qZ, qS]
            refine wKt 9 (v := ?_) rfl (by intro W hSw; go_simp; with_reducible rfl) ?_; try simp only [Act.put, qA, qZ, qS]
            refine wKt 10 (v := ?_) rfl (by intro W hSw; go_simp; with_reducible rfl) ?_; try simp only [Act.put, qA, qZ, qS]
            refine wKt 11 (v := ?_) rfl (by intro W hSw; go_simp; with_reducible rfl) ?_; try simp only [Act.put, qA, qZ, qS]
            refine wpAnyK_done (by kernel_rfl) ?_ _
            have HP6 := hide_ hp6
            have HL6 := hide_ (HLC.out.trans ((Later.refl Wc).dr.trans hl6))
            obtain rfl : n6 = nb + 1 := by rw [← hn6]; exact HCL.out
            obtain ⟨g6, B1, e1, B2, e2, e6, y0, y1, y2, yr1, yr2, yab⟩ := tx_cells hp6 hti.out
            subst e6
            have q7 : (i : Int) < ((nb + 1 : Nat) : Int) := by omega
            have HPT := hide_ (putTxn_any (w := w5) (c1 := e1) (c2 := e2) yr1 rfl yr2 rfl HTS.out.1 HTS.out.2 yab)
            have ylt := cell_lt y0
            clear x2 x3 x4 x6 hcv hti hn6 hp6 hx6 hl6 yr1 yr2 yab j0 j1 j2 j3 j4 jlt
            go_wp2_with fail
            refine HPT.out.mono ?_; rintro e w7 ⟨v7, rfl, ho7, hl7⟩
            obtain ⟨A7, c7, hv7⟩ := own_form ho7
            subst hv7
            have HO7 := hide_ ho7
            have HL7 := hide_ (HL6.out.trans hl7)
            have hcv7 := run_str_n (P := Tryz.prog) (w := w7) 51 9 5 c7 rfl Tryz.underlying51 Tryz.underlying5 Tryz.underlying9 (fun h => (own_cap2 ho7).1 h) (Rd.of_own ho7)
            clear HPT y0 y1 y2 ylt ho7 hl7
            obtain ⟨bs, hbs⟩ : ∃ bs, bs = encTx t1 := ⟨_, rfl⟩
            have HBS := hide_ (show bs.length ≤ 4000 by rw [hbs]; have := encTx_len HTS.out.1 HTS.out.2; omega)
            have hbs2 : encTx (t1.1, t1.2.1, t1.2.2) = bs := hbs.symm
            rw [hbs2] at hcv7
            rw [← hbs] at HJN
            have HEB := hide_ hbs2
            clear hbs
            go_wp2_with fail
            have HTW := hide_ ((HT.out.later HL7.out).later (later_alloc w7 (.cells #[.string ⟨bs.toArray⟩] 9)))
            have HRL := hide_ (show (resBody s.bounds (b.jobs.take k) i).length ≤ k * 4000 from resBody_len HOK.out (by rw [← HNB.out]; exact hi8) k)
            have HTT := hide_ (texts_any HTW.out (A := some ⟨w7.heap.size, 0, none⟩) (n := 1) (c := 1) (L := [⟨bs.toArray⟩]) (Rd.fresh1 rfl) rfl (by omega) (by intro y hy; have h1 := HBS.out; rw [List.mem_singleton.1 hy]; show bs.toArray.size ≤ 65536; rw [List.size_toArray]; omega) (by intro a ha; injection ha with ha; subst ha; exact wFp_new (HT.out.later HL7.out) (Nat.le_refl _)) (by have h1 := HRL.out; simp only; omega) (by have h1 := HSI.out; have h2 := HL7.out.size; simp; omega))
            clear hcv7 hbs2
            refine HTT.out.mono ?_; rintro e w9 ⟨rfl, v9, ht9, hh9, hd9⟩
            have HL9 := hide_ (wr_later ((HLI.out.trans HL7.out).al _) (Nat.le_refl _) HTW.out hh9)
            have HT9 := hide_ (show WrAt w9 wo.heap.size wo.heap.size v9 (resBody s.bounds (b.jobs.take (k + 1)) i, 0) by
              have h := ht9
              unfold wTexts at h; rw [if_neg (by have h1 := HBS.out; show ¬ 65536 < bs.toArray.size; rw [List.size_toArray]; omega)] at h; unfold wTexts at h
              rw [HJN.out]
              simpa using h)
            have HS9 := hide_ (Nat.le_of_lt HT9.out.lt)
            clear HTT ht9 hh9 hd9
            go_wp2_with fail
            go_roundw
            case rel => exact ⟨k + 1, v9, by omega, by go_num, HT9, HL9, HS9⟩
            case measure => simp [intOf]; omega
          · obtain rfl : k = nj := by omega
            have q5 : ¬ (k : Int) < (k : Int) := by omega
            have HMF := hide_ (show b.jobs.take k = b.jobs from List.take_of_length_le (by rw [← HNJ.out]; exact Nat.le_refl _))
            rw [HMF.out] at HT
            obtain ⟨Av, cv, hv⟩ := own_form HT.out.2.2
            subst hv
            have HWB := hide_ (wbytes_any HT.out)
            go_wp2_with fail
            refine HWB.out.mono ?_; rintro e w4 ⟨rfl, rfl⟩
            clear HWB
            have hlw := HL.out.trans HLI.out
            have k14 := Stands.cell (X := fun g => g = f ∨ g = b0) (show w4.cell? ⟨f, 14, none⟩ = some (.pointer (some ⟨b0, 0, none⟩)) from cell_of_row _ _ 14 _ _ (0, 0) (later_row hlw HRW.out)) (.inl rfl)
            have k0 := Stands.cell (X := fun g => g = f ∨ g = b0) (show w4.cell? ⟨b0, 0, none⟩ = some (.int .i64 b.prev) from cell_of_row _ _ 0 _ _ (0, 0) (later_row hlw HBW.out)) (.inr rfl)
            have k1 := Stands.cell (X := fun g => g = f ∨ g = b0) (show w4.cell? ⟨b0, 1, none⟩ = some (.int .i64 b.ver) from cell_of_row _ _ 1 _ _ (0, 0) (later_row hlw HBW.out)) (.inr rfl)
            have k4 := Stands.cell (X := fun g => g = f ∨ g = b0) (show w4.cell? ⟨b0, 4, none⟩ = some (.slice Aj k cj) from cell_of_row _ _ 4 _ _ (0, 0) (later_row hlw HBW.out)) (.inr rfl)
            have HMG := hide_ (fun W' (hl' : Later w4.drew W') => message_any (w := W') (HFR.out.later (hlw.trans ((Later.refl w4).dr.trans hl'))) 3 r 0 0 0 0 b.prev b.ver (k : Int) Av (resBody s.bounds b.jobs i).length cv)
            have HLW := hide_ hlw
            obtain ⟨Xb, hbd, hxb⟩ := body_own HT.out.2.2
            have HBDY := hide_ hbd; have HXB := hide_ hxb
            have HPW := hide_ (HP.out.later HLI.out)
            have HMB := hide_ (resTo_len s b i)
            have HFB := hide_ (And.intro (theap_lt HRW.out) (theap_lt HBW.out))
            clear hlw hbd hxb
            go_wp2_with fail
            refine wp_region_z (R := Stands (fun g => g = f ∨ g = b0)) [] (by kernel_rfl) ?_
            refine wpAnyZ_take0 (Stands.steady (fun g => g = f ∨ g = b0)) 0 (v := ?_) rfl (by kernel_rfl) (by kernel_rfl) (by kernel_rfl) (fun _ _ _ h => h) (by rfl) (by intro W hSw; go_simp; with_reducible rfl) ?_; try simp only [Act.put, qA, qZ, qS]
            refine wpAnyZ_take0 (Stands.steady (fun g => g = f ∨ g = b0)) 1 (v := ?_) rfl (by kernel_rfl) (by kernel_rfl) (by kernel_rfl) (fun _ _ _ h => h) (by rfl) (by intro W hSw; go_simp; with_reducible rfl) ?_; try simp only [Act.put, qA, qZ, qS]
            refine wpAnyZ_take0 (Stands.steady (fun g => g = f ∨ g = b0)) 2 (v := ?_) rfl (by kernel_rfl) (by kernel_rfl) (by kernel_rfl) (fun _ _ _ h => h) (by rfl) (by intro W hSw; go_simp; with_reducible rfl) ?_; try simp only [Act.put, qA, qZ, qS]
            refine wpAnyZ_take0 (Stands.steady (fun g => g = f ∨ g = b0)) 3 (v := ?_) rfl (by kernel_rfl) (by kernel_rfl) (by kernel_rfl) (fun _ _ _ h => h) (by rfl) (by intro W hSw; go_simp; with_reducible rfl) ?_; try simp only [Act.put, qA, qZ, qS]
            refine wpAnyZ_take0 (Stands.steady (fun g => g = f ∨ g = b0)) 4 (v := ?_) rfl (by kernel_rfl) (by kernel_rfl) (by kernel_rfl) (fun _ _ _ h => h) (by rfl) (by intro W hSw; go_simp; with_reducible rfl) ?_; try simp only [Act.put, qA, qZ, qS]
            refine wpAnyZ_take0 (Stands.steady (fun g => g = f ∨ g = b0)) 5 (v := ?_) rfl (by kernel_rfl) (by kernel_rfl) (by kernel_rfl) (fun _ _ _ h => h) (by rfl) (by intro W hSw; go_simp; with_reducible rfl) ?_; try simp only [Act.put, qA, qZ, qS]
            refine wpAnyZ_take0 (Stands.steady (fun g => g = f ∨ g = b0)) 6 (v := ?_) rfl (by kernel_rfl) (by kernel_rfl) (by kernel_rfl) (fun _ _ _ h => h) (by rfl) (by intro W hSw; have hS0 := Stands.trans (show Stands (fun g => g = f ∨ g = b0) w4 _ from by repeat first | with_reducible assumption | with_reducible exact Stands.refl _ _ | with_reducible refine Stands.alloc ?_ _ | with_reducible refine Stands.drew ?_ | with_reducible refine Stands.drewL ?_ | with_reducible refine Stands.setCell ?_ (by assumption) _ _ | assumption | refine Stands.trans ?_ (by assumption)) hSw; go_simp; with_reducible rfl) ?_; try simp only [Act.put, qA, qZ, qS]
            refine wpAnyZ_take0 (Stands.steady (fun g => g = f ∨ g = b0)) 7 (v := ?_) rfl (by kernel_rfl) (by kernel_rfl) (by kernel_rfl) (fun _ _ _ h => h) (by rfl) (by intro W hSw; go_simp; with_reducible rfl) ?_; try simp only [Act.put, qA, qZ, qS]
            refine wpAnyZ_take0 (Stands.steady (fun g => g = f ∨ g = b0)) 8 (v := ?_) rfl (by kernel_rfl) (by kernel_rfl) (by kernel_rfl) (fun _ _ _ h => h) (by rfl) (by intro W hSw; go_simp; with_reducible rfl) ?_; try simp only [Act.put, qA, qZ, qS]
            refine wpAnyZ_take0 (Stands.steady (fun g => g = f ∨ g = b0)) 9 (v := ?_) rfl (by kernel_rfl) (by kernel_rfl) (by kernel_rfl) (fun _ _ _ h => h) (by rfl) (by intro W hSw; go_simp; with_reducible rfl) ?_; try simp only [Act.put, qA, qZ, qS]
            refine wpAnyZ_take0 (Stands.steady (fun g => g = f ∨ g = b0)) 10 (v := ?_) rfl (by kernel_rfl) (by kernel_rfl) (by kernel_rfl) (fun _ _ _ h => h) (by rfl) (by intro W hSw; have hS0 := Stands.trans (show Stands (fun g => g = f ∨ g = b0) w4 _ from by repeat first | with_reducible assumption | with_reducible exact Stands.refl _ _ | with_reducible refine Stands.alloc ?_ _ | with_reducible refine Stands.drew ?_ | with_reducible refine Stands.drewL ?_ | with_reducible refine Stands.setCell ?_ (by assumption) _ _ | assumption | refine Stands.trans ?_ (by assumption)) hSw; go_simp; with_reducible rfl) ?_; try simp only [Act.put, qA, qZ, qS]
            refine wpAnyZ_take0 (Stands.steady (fun g => g = f ∨ g = b0)) 11 (v := ?_) rfl (by kernel_rfl) (by kernel_rfl) (by kernel_rfl) (fun _ _ _ h => h) (by rfl) (by intro W hSw; go_simp; with_reducible rfl) ?_; try simp only [Act.put, qA, qZ, qS]
            refine wpAnyZ_take0 (Stands.steady (fun g => g = f ∨ g = b0)) 12 (v := ?_) rfl (by kernel_rfl) (by kernel_rfl) (by kernel_rfl) (fun _ _ _ h => h) (by rfl) (by intro W hSw; go_simp; with_reducible rfl) ?_; try simp only [Act.put, qA, qZ, qS]
            refine wpAnyZ_take0 (Stands.steady (fun g => g = f ∨ g = b0)) 13 (v := ?_) rfl (by kernel_rfl) (by kernel_rfl) (by kernel_rfl) (fun _ _ _ h => h) (by rfl) (by intro W hSw; go_simp; with_reducible rfl) ?_; try simp only [Act.put, qA, qZ, qS]
            refine wpAnyZ_take0 (Stands.steady (fun g => g = f ∨ g = b0)) 14 (v := ?_) rfl (by kernel_rfl) (by kernel_rfl) (by kernel_rfl) (fun _ _ _ h => h) (by rfl) (by intro W hSw; have hS0 := Stands.trans (show Stands (fun g => g = f ∨ g = b0) w4 _ from by repeat first | with_reducible assumption | with_reducible exact Stands.refl _ _ | with_reducible refine Stands.alloc ?_ _ | with_reducible refine Stands.drew ?_ | with_reducible refine Stands.drewL ?_ | with_reducible refine Stands.setCell ?_ (by assumption) _ _ | assumption | refine Stands.trans ?_ (by assumption)) hSw; go_simp; with_reducible rfl) ?_; try simp only [Act.put, qA, qZ, qS]
            refine wpAnyZ_take0 (Stands.steady (fun g => g = f ∨ g = b0)) 15 (v := ?_) rfl (by kernel_rfl) (by kernel_rfl) (by kernel_rfl) (fun _ _ _ h => h) (by rfl) (by intro W hSw; go_simp; with_reducible rfl) ?_; try simp only [Act.put, qA, qZ, qS]
            refine wpAnyZ_take0 (Stands.steady (fun g => g = f ∨ g = b0)) 16 (v := ?_) rfl (by kernel_rfl) (by kernel_rfl) (by kernel_rfl) (fun _ _ _ h => h) (by rfl) (by intro W hSw; go_simp; with_reducible rfl) ?_; try simp only [Act.put, qA, qZ, qS]
            refine wpAnyZ_take0 (Stands.steady (fun g => g = f ∨ g = b0)) 17 (v := ?_) rfl (by kernel_rfl) (by kernel_rfl) (by kernel_rfl) (fun _ _ _ h => h) (by rfl) (by intro W hSw; go_simp; with_reducible rfl) ?_; try simp only [Act.put, qA, qZ, qS]
            refine wpAnyZ_take0 (Stands.steady (fun g => g = f ∨ g = b0)) 18 (v := ?_) rfl (by kernel_rfl) (by kernel_rfl) (by kernel_rfl) (fun _ _ _ h => h) (by rfl) (by intro W hSw; have hS0 := Stands.trans (show Stands (fun g => g = f ∨ g = b0) w4 _ from by repeat first | with_reducible assumption | with_reducible exact Stands.refl _ _ | with_reducible refine Stands.alloc ?_ _ | with_reducible refine Stands.drew ?_ | with_reducible refine Stands.drewL ?_ | with_reducible refine Stands.setCell ?_ (by assumption) _ _ | assumption | refine Stands.trans ?_ (by assumption)) hSw; go_simp; with_reducible rfl) ?_; try simp only [Act.put, qA, qZ, qS]
            refine wpAnyZ_take0 (Stands.steady (fun g => g = f ∨ g = b0)) 19 (v := ?_) rfl (by kernel_rfl) (by kernel_rfl) (by kernel_rfl) (fun _ _ _ h => h) (by rfl) (by intro W hSw; go_simp; with_reducible rfl) ?_; try simp only [Act.put, qA, qZ, qS]
            refine wpAnyZ_take0 (Stands.steady (fun g => g = f ∨ g = b0)) 20 (v := ?_) rfl (by kernel_rfl) (by kernel_rfl) (by kernel_rfl) (fun _ _ _ h => h) (by rfl) (by intro W hSw; go_simp; with_reducible rfl) ?_; try simp only [Act.put, qA, qZ, qS]
            refine wpAnyZ_take0 (Stands.steady (fun g => g = f ∨ g = b0)) 21 (v := ?_) rfl (by kernel_rfl) (by kernel_rfl) (by kernel_rfl) (fun _ _ _ h => h) (by rfl) (by intro W hSw; go_simp; with_reducible rfl) ?_; try simp only [Act.put, qA, qZ, qS]
            refine wpAnyZ_take0 (Stands.steady (fun g => g = f ∨ g = b0)) 22 (v := ?_) rfl (by kernel_rfl) (by kernel_rfl) (by kernel_rfl) (fun _ _ _ h => h) (by rfl) (by intro W hSw; have hS0 := Stands.trans (show Stands (fun g => g = f ∨ g = b0) w4 _ from by repeat first | with_reducible assumption | with_reducible exact Stands.refl _ _ | with_reducible refine Stands.alloc ?_ _ | with_reducible refine Stands.drew ?_ | with_reducible refine Stands.drewL ?_ | with_reducible refine Stands.setCell ?_ (by assumption) _ _ | assumption | refine Stands.trans ?_ (by assumption)) hSw; go_simp; with_reducible rfl) ?_; try simp only [Act.put, qA, qZ, qS]
            refine wpAnyZ_take0 (Stands.steady (fun g => g = f ∨ g = b0)) 23 (v := ?_) rfl (by kernel_rfl) (by kernel_rfl) (by kernel_rfl) (fun _ _ _ h => h) (by rfl) (by intro W hSw; go_simp; with_reducible rfl) ?_; try simp only [Act.put, qA, qZ, qS]
            refine wpAnyZ_take0 (Stands.steady (fun g => g = f ∨ g = b0)) 24 (v := ?_) rfl (by kernel_rfl) (by kernel_rfl) (by kernel_rfl) (fun _ _ _ h => h) (by rfl) (by intro W hSw; go_simp; with_reducible rfl) ?_; try simp only [Act.put, qA, qZ, qS]
            refine wpAnyZ_take0 (Stands.steady (fun g => g = f ∨ g = b0)) 25 (v := ?_) rfl (by kernel_rfl) (by kernel_rfl) (by kernel_rfl) (fun _ _ _ h => h) (by rfl) (by intro W hSw; have hS0 := Stands.trans (show Stands (fun g => g = f ∨ g = b0) w4 _ from by repeat first | with_reducible assumption | with_reducible exact Stands.refl _ _ | with_reducible refine Stands.alloc ?_ _ | with_reducible refine Stands.drew ?_ | with_reducible refine Stands.drewL ?_ | with_reducible refine Stands.setCell ?_ (by assumption) _ _ | assumption | refine Stands.trans ?_ (by assumption)) hSw; go_simp; with_reducible rfl) ?_; try simp only [Act.put, qA, qZ, qS]
            refine wpAnyZ_take0 (Stands.steady (fun g => g = f ∨ g = b0)) 26 (v := ?_) rfl (by kernel_rfl) (by kernel_rfl) (by kernel_rfl) (fun _ _ _ h => h) (by rfl) (by intro W hSw; have hS0 := Stands.trans (show Stands (fun g => g = f ∨ g = b0) w4 _ from by repeat first | with_reducible assumption | with_reducible exact Stands.refl _ _ | with_reducible refine Stands.alloc ?_ _ | with_reducible refine Stands.drew ?_ | with_reducible refine Stands.drewL ?_ | with_reducible refine Stands.setCell ?_ (by assumption) _ _ | assumption | refine Stands.trans ?_ (by assumption)) hSw; go_simp; with_reducible rfl) ?_; try simp only [Act.put, qA, qZ, qS]
            refine wpAnyZ_take0 (Stands.steady (fun g => g = f ∨ g = b0)) 27 (v := ?_) rfl (by kernel_rfl) (by kernel_rfl) (by kernel_rfl) (fun _ _ _ h => h) (by rfl) (by intro W hSw; go_simp; with_reducible rfl) ?_; try simp only [Act.put, qA, qZ, qS]
            refine wpAnyZ_take0 (Stands.steady (fun g => g = f ∨ g = b0)) 28 (v := ?_) rfl (by kernel_rfl) (by kernel_rfl) (by kernel_rfl) (fun _ _ _ h => h) (by rfl) (by intro W hSw; go_simp; with_reducible rfl) ?_; try simp only [Act.put, qA, qZ, qS]
            refine wpAnyZ_one 29 (by kernel_rfl) rfl (fun K hK => ?_)
            go_simp
            refine (HMG.out _ (Later.refl _)).mono ?_; rintro e w5 ⟨rfl, hl5⟩; have hs5 : Stands (fun g => g = f ∨ g = b0) _ w5 := Stands.of_later hl5; have hl45 : Later w4 w5 := (Later.refl w4).dr.trans hl5
            refine hK.out _ _ (by repeat first | with_reducible assumption | with_reducible exact Stands.refl _ _ | with_reducible refine Stands.alloc ?_ _ | with_reducible refine Stands.drew ?_ | with_reducible refine Stands.drewL ?_ | with_reducible refine Stands.setCell ?_ (by assumption) _ _ | assumption | refine Stands.of_later ?_) ?_
            clear hK K; try simp only [Act.put, qA, qZ, qS]
            refine wpAnyZ_one 30 (by kernel_rfl) rfl (fun K hK => ?_)
            go_simp
            refine hK.out _ _ (by repeat first | with_reducible assumption | with_reducible exact Stands.refl _ _ | with_reducible refine Stands.alloc ?_ _ | with_reducible refine Stands.drew ?_ | with_reducible refine Stands.drewL ?_ | with_reducible refine Stands.setCell ?_ (by assumption) _ _ | assumption | refine Stands.of_later ?_) ?_
            clear hK K; try simp only [Act.put, qA, qZ, qS]
            refine wpAnyZ_one 31 (by kernel_rfl) rfl (fun K hK => ?_)
            refine step_push (by rfl) (.tmp 83) (.tmp 113) rfl msgT rfl ((HPW.out.later hl45).later (later_alloc w5 _)) HM.out (b := w5.heap.size) (c := 1) (cells := [.int .i64 3, .int .i64 s.node, .int .i64 r, .int .i64 s.epoch, .int .i64 b.prev, .int .i64 b.ver, .int .i64 (k : Nat), .slice Av (resBody s.bounds b.jobs i).length cv]) (el := ⟨3, s.node, r, s.epoch, b.prev, b.ver, (k : Nat), resBody s.bounds b.jobs i⟩) (Y := Xb) rfl (Rd.newAt w5 #[.int .i64 3, .int .i64 s.node, .int .i64 r, .int .i64 s.epoch, .int .i64 b.prev, .int .i64 b.ver, .int .i64 (k : Nat), .slice Av (resBody s.bounds b.jobs i).length cv] 53 1 8 _ (0, 0) rfl rfl) ⟨_, rfl, bodyR.later (bodyR.later HBDY.out hl45) (later_alloc w5 _)⟩ (fun g hg e => by have h1 := (HP.out.block e).2.1; have h2 := HXB.out g hg; omega) (by omega) (by unfold maxLen; omega) (by have h1 := HLW.out.size; have h2 := hl45.size; simp; omega) ?_; intro A9 c9 w9 hp9 hg hat; have HP9 := hide_ hp9; have hhg : Hits (fun g => (Value.slice A3 m c3).ownBlock = some g) (w5.alloc (.cells #[.int .i64 3, .int .i64 s.node, .int .i64 r, .int .i64 s.epoch, .int .i64 b.prev, .int .i64 b.ver, .int .i64 (k : Nat), .slice Av (resBody s.bounds b.jobs i).length cv] 53)) w9 := (Hits.refl _ _).grown hg (fun g hg _ => hg); have hs9 : Stands (fun g => g = f ∨ g = b0) _ w9 := hhg.stands (fun g _ hF hX => by have h1 := (HP.out.block hF).1; have h2 := HFB.out; rcases hX with rfl | rfl <;> omega); have HL9 := hide_ (show Later w w9 from by obtain ⟨rows, ho⟩ := (HPW.out.later hl45).own; exact own_grown ((HLW.out.trans hl45).al _) (ho.alloc _) hg (by have h1 := HLW.out.size; have h2 := hl45.size; simp; omega)); clear hp9 hg hat hhg
            refine hK.out _ _ (by repeat first | with_reducible assumption | with_reducible exact Stands.refl _ _ | with_reducible refine Stands.alloc ?_ _ | with_reducible refine Stands.drew ?_ | with_reducible refine Stands.drewL ?_ | with_reducible refine Stands.setCell ?_ (by assumption) _ _ | assumption | refine Stands.of_later ?_) ?_
            clear hK K; try simp only [Act.put, qA, qZ, qS]
            refine wpAnyZ_take0 (Stands.steady (fun g => g = f ∨ g = b0)) 32 (v := ?_) rfl (by kernel_rfl) (by kernel_rfl) (by kernel_rfl) (fun _ _ _ h => h) (by rfl) (by intro W hSw; go_simp; with_reducible rfl) ?_; try simp only [Act.put, qA, qZ, qS]
            refine wpAnyZ_done (by kernel_rfl) ?_ _
            have HKN := hide_ (show (k : Int) = (b.jobs.length : Int) by rw [HNJ.out])
            go_wp2_with fail
            go_roundw
            case rel => exact ⟨i + 1, m + 1, X ++ Xb, A9, c9, by omega, by go_num, by omega, rfl, hide_ (by rw [HE.out, List.length_append, HM.out]; rfl), hide_ (by have h := HP9.out; rw [HE.out, ← HKN.out]; exact h), hide_ (by intro g hg; rcases List.mem_append.1 hg with h | h; exact HX.out g h; exact Nat.le_trans HL.out.size (HXB.out g h)), HL9⟩
            case measure => simp [intOf]; omega
    · obtain rfl : i = nr := by omega
      have q1 : ¬ (i : Int) < (i : Int) := by omega
      go_wp2_with fail
      go_ret
      exact ⟨A3, m, c3, X, rfl, by unfold resolveL; rw [← HNR.out]; exact HM.out, by unfold resolveL; rw [← HNR.out]; exact HP.out, HX.out, HL.out⟩

end Go.Proofs.YtcmollfhlillfaaGreatDoor
