/-
  Many transactions in a row; whether all are sound.
-/
import Derived.Test.YtidlkomgondkiaaKMJudge
namespace Go.Proofs.Ytidlkomgondkiaa
open Go.RowKit
set_option linter.unusedVariables false
set_option linter.unusedSimpArgs false
/-- Transactions lie here, one behind the other. -/
def TxRow (w : World) (A : Option Addr) (n : Nat) (T : List Tx) : Prop := T.length = n ∧ ∀ (i : Nat) (t : Tx), T[i]? = some t → ∃ (b o : Nat) (A1 A2 : Option Addr) (m1 c1 m2 c2 : Nat), A = some ⟨b, o, none⟩ ∧
  w.cell? ⟨b, o + i * 3, none⟩ = some (.int .i64 t.1) ∧ w.cell? ⟨b, o + i * 3 + 1, none⟩ = some (.slice A1 m1 c1) ∧ w.cell? ⟨b, o + i * 3 + 2, none⟩ = some (.slice A2 m2 c2) ∧
  t.2.1.length = m1 ∧ t.2.2.length = m2 ∧ m1 ≤ 1048576 ∧ m2 ≤ 1048576 ∧ Rd w 2 A1 m1 (srow t.2.1) ∧ Rd w 3 A2 m2 (crow t.2.2)
theorem TxRow.keep {w w' : World} {A : Option Addr} {n : Nat} {T : List Tx} (h : TxRow w A n T) (hk : ∀ p : Addr, p.block < w.heap.size → w'.cell? p = w.cell? p) : TxRow w' A n T := by
  refine ⟨h.1, fun i t hi => ?_⟩
  obtain ⟨b, o, A1, A2, m1, c1, m2, c2, rfl, h0, h1, h2, h3, h4, h5, h6, h7, h8⟩ := h.2 i t hi
  exact ⟨b, o, A1, A2, m1, c1, m2, c2, rfl, (hk _ (cell_lt h0)).trans h0, (hk _ (cell_lt h1)).trans h1, (hk _ (cell_lt h2)).trans h2, h3, h4, h5, h6, h7.keep hk, h8.keep hk⟩
theorem TxRow.below {w w' : World} {A : Option Addr} {n : Nat} {T : List Tx} (h : TxRow w A n T) (hb : Later w w') : TxRow w' A n T := h.keep fun _ hp => hb.cell hp
theorem TxRow.nil (w : World) (A : Option Addr) : TxRow w A 0 [] := ⟨rfl, fun i t h => by simp at h⟩
/-- They stay where they lie, whatever becomes of one block. -/
def TxStay (w : World) (B0 : Nat) (A : Option Addr) (n : Nat) (T : List Tx) : Prop := T.length = n ∧ ∀ (i : Nat) (t : Tx), T[i]? = some t → ∃ (b o : Nat) (A1 A2 : Option Addr) (m1 c1 m2 c2 : Nat), A = some ⟨b, o, none⟩ ∧ t.2.1.length = m1 ∧ t.2.2.length = m2 ∧ m1 ≤ 1048576 ∧ m2 ≤ 1048576 ∧
  ∀ W, w.grownBy W (some B0) → W.cell? ⟨b, o + i * 3, none⟩ = some (.int .i64 t.1) ∧ W.cell? ⟨b, o + i * 3 + 1, none⟩ = some (.slice A1 m1 c1) ∧ W.cell? ⟨b, o + i * 3 + 2, none⟩ = some (.slice A2 m2 c2) ∧
    Rd W 2 A1 m1 (srow t.2.1) ∧ Rd W 3 A2 m2 (crow t.2.2)
theorem TxStay.row {w W : World} {B0 : Nat} {A : Option Addr} {n : Nat} {T : List Tx} (h : TxStay w B0 A n T) (hg : w.grownBy W (some B0)) : TxRow W A n T := by
  refine ⟨h.1, fun i t hi => ?_⟩
  obtain ⟨b, o, A1, A2, m1, c1, m2, c2, rfl, h3, h4, h5, h6, h⟩ := h.2 i t hi
  obtain ⟨h0, h1, h2, h7, h8⟩ := h W hg
  exact ⟨b, o, A1, A2, m1, c1, m2, c2, rfl, h0, h1, h2, h3, h4, h5, h6, h7, h8⟩
theorem TxStay.grown {w w1 : World} {B0 : Nat} {A : Option Addr} {n : Nat} {T : List Tx} (h : TxStay w B0 A n T) (hg : w.grownBy w1 (some B0)) : TxStay w1 B0 A n T := by
  refine ⟨h.1, fun i t hi => ?_⟩
  obtain ⟨b, o, A1, A2, m1, c1, m2, c2, rfl, h3, h4, h5, h6, h⟩ := h.2 i t hi
  exact ⟨b, o, A1, A2, m1, c1, m2, c2, rfl, h3, h4, h5, h6, fun W hW => h W (grown_trans hg hW (.inl rfl))⟩
/-- What lay there ahead of Marks stays. -/
theorem TxRow.stay {w0 w : World} {B0 : Nat} {A : Option Addr} {n : Nat} {T : List Tx} (h : TxRow w0 A n T) (hb : Later w0 w) (hB : w0.heap.size ≤ B0) : TxStay w B0 A n T := by
  refine ⟨h.1, fun i t hi => ?_⟩
  obtain ⟨b, o, A1, A2, m1, c1, m2, c2, rfl, h0, h1, h2, h3, h4, h5, h6, h7, h8⟩ := h.2 i t hi
  refine ⟨b, o, A1, A2, m1, c1, m2, c2, rfl, h3, h4, h5, h6, fun W hW => ?_⟩
  have hk : ∀ p : Addr, p.block < w0.heap.size → W.cell? p = w0.cell? p := fun p hp => by
    rw [World.cell?_of_block (hW.block p.block (Nat.lt_of_lt_of_le hp (Below.size hb)) (fun e => by have := Option.some.inj e; omega))]
    exact hb.cell hp
  exact ⟨(hk _ (cell_lt h0)).trans h0, (hk _ (cell_lt h1)).trans h1, (hk _ (cell_lt h2)).trans h2, h7.keep hk, h8.keep hk⟩
set_option maxHeartbeats 1000000 in
theorem badT_any {w : World} {A A' : Option Addr} {n c p c' : Nat} {r : Int} {R : List Spn} {C : List Chg} (hR : Rd w 2 A n (srow R)) (hRl : R.length = n) (hC : Rd w 3 A' p (crow C)) (hCl : C.length = p) (hn : n ≤ 1048576) (hp : p ≤ 1048576) :
    Calls Try.prog 35 #[.agg #[.int .i64 r, .slice A n c, .slice A' p c']] w fun e w' => e = .returned (.bool (!soundT (r, R, C))) ∧ Later w w' := by
  have HB0 := hide_ (later_alloc w (.cells #[.int .i64 r, .slice A n c, .slice A' p c'] 32))
  have ht := hide_ (txn_any (c := c) (c' := c') (r := r) (hR.below HB0.out) hRl (hC.below HB0.out) hCl hn hp)
  clear hR hC hRl hCl
  go_enter Try.func35, Try.ntmps35
  go_wp2_with fail
  refine ht.out.mono ?_; rintro e w1 ⟨rfl, hb1⟩
  have HB1 := hide_ (Later.trans HB0.out hb1)
  clear ht hb1
  generalize hg : soundT (r, R, C) = sb
  have HG := hide_ hg
  clear hg
  go_wp2_with fail
  go_ret
  exact ⟨by rw [HG.out]; rfl, HB1.out⟩
def BadTPost (T : List Tx) (w : World) (e : Ending) (w' : World) : Prop := (∃ r : Int, e = .returned (.int .i64 r) ∧ decide (0 ≤ r) = !T.all soundT) ∧ Later w w'
theorem allT_snoc (T : List Tx) (t : Tx) : (T ++ [t]).all soundT = (T.all soundT && soundT t) := by simp
set_option maxHeartbeats 2000000 in
theorem badTindex_any {w : World} {A : Option Addr} {n c : Nat} {T : List Tx} (hr : TxRow w A n T) (hn : n ≤ 4398046511104) :
    Calls Try.prog 50 #[.slice A n c, .func (.func 35) #[] #[]] w (BadTPost T w) := by
  have HR := hide_ hr; have HL := hide_ hr.1
  have hn2 : (n : Int) ≤ 4398046511104 := by omega
  clear hr
  go_enter Try.func50, Try.ntmps50
  go_wp2_with fail
  go_loopw [8] (fun s8 wr => ∃ (k : Nat), k ≤ n ∧ s8 = .int .i64 k ∧ Hid ((T.take k).all soundT = true) ∧ Hid (Later w wr)) (fun i _ => n - (intOf i).toNat)
  case atStart => exact ⟨0, Nat.zero_le _, rfl, hide_ (by simp), hide_ (Later.refl _)⟩
  case round =>
    obtain ⟨k, hk, rfl, HN, HB⟩ := hrel
    by_cases hlt : k < n
    · have q1 : (k : Int) < (n : Int) := by omega
      have q2 : (k : Int) ≤ 4398046511104 := by omega
      obtain ⟨m, hm⟩ : ∃ m, T[k]? = some m := ⟨_, List.getElem?_eq_getElem (by rw [HL.out]; exact hlt)⟩
      obtain ⟨b, o, A1, A2, m1, c1, m2, c2, rfl, l0, l1, l2, l3, l4, l5, l6, l7, l8⟩ := (HR.out.below HB.out).2 k m hm
      have HM := hide_ hm
      have HT := hide_ (take_snoc hm)
      have hbh := hide_ (badT_any (c := c1) (c' := c2) (r := m.1) l7 l3 l8 l4 l5 l6)
      clear hm l3 l4 l7 l8
      go_wp2_with fail
      refine hbh.out.mono ?_; rintro e w5 ⟨rfl, hb5⟩
      have HB5 := hide_ (Later.trans HB.out hb5)
      clear hbh hb5
      by_cases he : soundT m = true
      · rw [show soundT (m.1, m.2.1, m.2.2) = true from he]
        have HE := hide_ he
        clear he
        go_wp2_with fail
        go_roundw
        case rel => exact ⟨k + 1, by omega, by go_num, hide_ (by rw [HT.out, allT_snoc, HN.out, HE.out]; rfl), HB5⟩
        case measure => simp [intOf]; omega
      · have he : soundT m = false := by simpa using he
        rw [show soundT (m.1, m.2.1, m.2.2) = false from he]
        have HE := hide_ he
        clear he
        go_wp2_with fail
        go_ret
        exact ⟨⟨_, rfl, by
          have h : T.all soundT = false := by rw [List.all_eq_false]; exact ⟨m, List.mem_of_getElem? HM.out, by rw [HE.out]; decide⟩
          rw [h]; simp⟩, HB5.out⟩
    · obtain rfl : k = n := by omega
      have HF := hide_ (show T.all soundT = true by have := HN.out; rwa [← HL.out, List.take_length] at this)
      go_wp2_with fail
      go_ret
      exact ⟨⟨_, rfl, by rw [HF.out]; rfl⟩, HB.out⟩
theorem badTany_any {w : World} {A : Option Addr} {n c : Nat} {T : List Tx} (hr : TxRow w A n T) (hn : n ≤ 4398046511104) :
    Calls Try.prog 34 #[.slice A n c, .func (.func 35) #[] #[]] w fun e w' => e = .returned (.bool (!T.all soundT)) ∧ Later w w' := by
  have H := hide_ (badTindex_any (c := c) hr hn)
  clear hr
  go_enter Try.func34, Try.ntmps34
  go_wp2_with fail
  refine H.out.mono ?_; rintro e w1 ⟨⟨r, rfl, hr⟩, hb⟩
  have HB := hide_ hb; have HR := hide_ hr
  clear hr hb
  go_wp2_with fail
  go_ret
  exact ⟨ret_val (congrArg Value.bool HR.out), HB.out⟩

end Go.Proofs.Ytidlkomgondkiaa
