/-
  Texts of this seat in one: FTxn, FrS.
-/
import Derived.Test.YtcmollfhlillfaaGreatDoorM17
import Derived.Test.YtcmollfhlillfaaGreatDoorM15
import Derived.Test.YtcmollfhlillfaaGreatDoorM12
import Derived.Test.YtcmollfhlillfaaGreatDoorM11
/-
  Transactions: what makes one sound; the program's Txn.
-/
namespace Go.Proofs.YtcmollfhlillfaaGreatDoor
open Go.RowKit
set_option linter.unusedVariables false
set_option linter.unusedSimpArgs false
/-- A transaction: when it read, what it read, what it changes. -/
abbrev Tx := Int × List Spn × List Chg
def soundS (s : Spn) : Bool := decide (s.1.size ≤ 17 ∧ s.2.size ≤ 17 ∧ s.1 ≤ s.2)
def soundT (t : Tx) : Bool := decide (0 ≤ t.1) && decide (t.2.1.length ≤ 24) && decide (t.2.2.length ≤ 24) && decide (chkAll t.2.2 = 0) && t.2.1.all soundS
set_option maxHeartbeats 1000000 in
theorem badS_any (s : Spn) (w : World) : Calls Tryz.prog 120 #[.agg #[.string s.1, .string s.2]] w fun e w' => e = .returned (.bool (!soundS s)) ∧ Later w w' := by
  obtain ⟨n1, hn1⟩ : ∃ n1, n1 = s.1.size := ⟨_, rfl⟩
  obtain ⟨n2, hn2⟩ : ∃ n2, n2 = s.2.size := ⟨_, rfl⟩
  have HS := hide_ (show soundS s = decide (n1 ≤ 17 ∧ n2 ≤ 17 ∧ s.1 ≤ s.2) by unfold soundS; rw [hn1, hn2])
  have s1 := hn1.symm; have s2 := hn2.symm
  clear hn1 hn2
  have HL := hide_ (later_alloc w (.cells #[.string s.1, .string s.2] 81))
  have hgo : (17 < n1 ∨ 17 < n2) ∨ (¬ 17 < n1 ∧ ¬ 17 < n2) := by omega
  rcases hgo with hgo | ⟨a1, a2⟩
  · have p1 : (17 : Int) < max (n1 : Int) (n2 : Int) := by omega
    have HG := hide_ hgo
    clear hgo
    go_enter Tryz.func120, Tryz.ntmps120
    go_wp2_with fail
    all_goals (
      go_ret
      exact ⟨ret_val (congrArg Value.bool (by rw [HS.out]; have := HG.out; simp; omega)), HL.out⟩)
  · have p1 : ¬ (17 : Int) < max (n1 : Int) (n2 : Int) := by omega
    have q1 : (n1 : Int) ≤ 17 := by omega
    have q2 : (n2 : Int) ≤ 17 := by omega
    have g1 := hide_ (show (Op.bytesLess s.1.toList s.2.toList || (s.1.toList == s.2.toList)) = decide (s.1 ≤ s.2) by
      rw [bl, beq_ba]
      by_cases h1 : s.1 < s.2
      · simp [h1, Std.le_of_lt h1]
      · by_cases h2 : s.1 = s.2
        · simp [h2]
        · simp [h1, h2]; grind)
    have HA := hide_ (And.intro a1 a2)
    clear a1 a2
    go_enter Tryz.func120, Tryz.ntmps120
    go_wp2_with fail
    all_goals (
      go_ret
      exact ⟨ret_val (congrArg Value.bool (by rw [HS.out, ← Bool.not_or, g1.out]; have := HA.out; rw [show decide (n1 ≤ 17 ∧ n2 ≤ 17 ∧ s.1 ≤ s.2) = decide (s.1 ≤ s.2) from decide_eq_decide.2 ⟨fun h => h.2.2, fun h => ⟨by omega, by omega, h⟩⟩]; first | done | rfl | (rw [decide_eq_false (by omega), Bool.false_or]))), HL.out⟩)
def BadPost (L : List Spn) (w : World) (e : Ending) (w' : World) : Prop := (∃ r : Int, e = .returned (.int .i64 r) ∧ decide (0 ≤ r) = !L.all soundS) ∧ Later w w'
theorem all_snoc (L : List Spn) (s : Spn) : (L ++ [s]).all soundS = (L.all soundS && soundS s) := by simp
set_option maxHeartbeats 2000000 in
theorem badindex_any {w : World} {A : Option Addr} {n c : Nat} {L : List Spn} (hr : Rd w 2 A n (srow L)) (hl : L.length = n) (hn : n ≤ 4398046511104) :
    Calls Tryz.prog 121 #[.slice A n c, .func (.func 120) #[] #[]] w (BadPost L w) := by
  have HR := hide_ hr; have HL := hide_ hl
  have hn2 : (n : Int) ≤ 4398046511104 := by omega
  clear hr hl
  go_enter Tryz.func121, Tryz.ntmps121
  go_wp2_with fail
  go_loopw [8] (fun s8 wr => ∃ (k : Nat), k ≤ n ∧ s8 = .int .i64 k ∧ Hid ((L.take k).all soundS = true) ∧ Hid (Later w wr)) (fun i _ => n - (intOf i).toNat)
  case atStart => exact ⟨0, Nat.zero_le _, rfl, hide_ (by simp), hide_ (Later.refl _)⟩
  case round =>
    obtain ⟨k, hk, rfl, HN, HB⟩ := hrel
    by_cases hlt : k < n
    · have q1 : (k : Int) < (n : Int) := by omega
      have q2 : (k : Int) ≤ 4398046511104 := by omega
      obtain ⟨m, hm⟩ : ∃ m, L[k]? = some m := ⟨_, List.getElem?_eq_getElem (by rw [HL.out]; exact hlt)⟩
      obtain ⟨b, o, rfl, l0, l1⟩ := (HR.out.below HB.out).span hm
      have HM := hide_ hm
      have HT := hide_ (take_snoc hm)
      have hbh := hide_ (badS_any m wr)
      clear hm
      go_wp2_with fail
      refine hbh.out.mono ?_; rintro e w5 ⟨rfl, hb5⟩
      have HB5 := hide_ (Later.trans HB.out hb5)
      clear hbh hb5
      by_cases he : soundS m = true
      · rw [he]
        have HE := hide_ he
        clear he
        go_wp2_with fail
        go_roundw
        case rel => exact ⟨k + 1, by omega, by go_num, hide_ (by rw [HT.out, all_snoc, HN.out, HE.out]; rfl), HB5⟩
        case measure => simp [intOf]; omega
      · have he : soundS m = false := by simpa using he
        rw [he]
        have HE := hide_ he
        clear he
        go_wp2_with fail
        go_ret
        exact ⟨⟨_, rfl, by
          have h : L.all soundS = false := by rw [List.all_eq_false]; exact ⟨m, List.mem_of_getElem? HM.out, by rw [HE.out]; decide⟩
          rw [h]; simp⟩, HB5.out⟩
    · obtain rfl : k = n := by omega
      have HF := hide_ (show L.all soundS = true by have := HN.out; rwa [← HL.out, List.take_length] at this)
      go_wp2_with fail
      go_ret
      exact ⟨⟨_, rfl, by rw [HF.out]; rfl⟩, HB.out⟩
theorem badany_any {w : World} {A : Option Addr} {n c : Nat} {L : List Spn} (hr : Rd w 2 A n (srow L)) (hl : L.length = n) (hn : n ≤ 4398046511104) :
    Calls Tryz.prog 92 #[.slice A n c, .func (.func 120) #[] #[]] w fun e w' => e = .returned (.bool (!L.all soundS)) ∧ Later w w' := by
  have H := hide_ (badindex_any (c := c) hr hl hn)
  clear hr hl
  go_enter Tryz.func92, Tryz.ntmps92
  go_wp2_with fail
  refine H.out.mono ?_; rintro e w1 ⟨⟨r, rfl, hr⟩, hb⟩
  have HB := hide_ hb; have HR := hide_ hr
  clear hr hb
  go_wp2_with fail
  go_ret
  exact ⟨ret_val (congrArg Value.bool HR.out), HB.out⟩
/-- A transaction's cells read so. -/
def TxSh (w : World) (cs : List Value) (t : Tx) : Prop := ∃ (A A' : Option Addr) (c c' : Nat), cs = [.int .i64 t.1, .slice A t.2.1.length c, .slice A' t.2.2.length c'] ∧ Rd w 2 A t.2.1.length (srow t.2.1) ∧ Rd w 3 A' t.2.2.length (crow t.2.2) ∧ t.2.1.length ≤ 1048576 ∧ t.2.2.length ≤ 1048576
theorem TxSh.below {w w' : World} {cs : List Value} {t : Tx} (h : TxSh w cs t) (hb : Later w w') : TxSh w' cs t := by
  obtain ⟨A, A', c, c', h1, h2, h3, h4⟩ := h
  exact ⟨A, A', c, c', h1, h2.below hb, h3.below hb, h4⟩
set_option maxHeartbeats 4000000 in
theorem txn_any {w : World} {A A' : Option Addr} {n c p c' : Nat} {r : Int} {R : List Spn} {C : List Chg} (hR : Rd w 2 A n (srow R)) (hRl : R.length = n) (hC : Rd w 3 A' p (crow C)) (hCl : C.length = p) (hn : n ≤ 1048576) (hp : p ≤ 1048576) :
    Calls Tryz.prog 90 #[.agg #[.int .i64 r, .slice A n c, .slice A' p c']] w fun e w' => e = .returned (.bool (soundT (r, R, C))) ∧ Later w w' := by
  have HS := hide_ (show soundT (r, R, C) = (decide (0 ≤ r) && decide (n ≤ 24) && decide (p ≤ 24) && decide (chkAll C = 0) && R.all soundS) by unfold soundT; rw [hRl, hCl])
  have HB0 := hide_ (later_alloc w (.cells #[.int .i64 r, .slice A n c, .slice A' p c'] 30))
  have hall := hide_ (all_any (c := c') (hC.below HB0.out) hCl (by omega))
  have hbad := hide_ (fun (W : World) (hb : Later w W) => badany_any (c := c) (hR.below hb) hRl (by omega))
  clear hR hC hRl hCl
  by_cases h1 : 0 ≤ r
  · by_cases h2 : n ≤ 24
    · have q2 : (n : Int) ≤ 24 := by omega
      by_cases h3 : p ≤ 24
      · have q3 : (p : Int) ≤ 24 := by omega
        have HA := hide_ (And.intro h1 (And.intro h2 h3))
        by_cases h4 : chkAll C = 0
        · have H4 := hide_ h4
          clear h4
          go_enter Tryz.func90, Tryz.ntmps90
          go_wp2_with fail
          refine hall.out.mono ?_; rintro e w1 ⟨rfl, hb1⟩
          rw [H4.out]
          have HB1 := hide_ (Later.trans HB0.out hb1)
          have hm1 := (hb1.block _ (by simp)).trans (heap_alloc_new w (.cells #[.int .i64 r, .slice A n c, .slice A' p c'] 30))
          have m1 := cell_of_row _ _ 1 _ _ (0, 0) hm1
          clear hb1 hm1 hall
          go_wp2_with fail
          refine (hbad.out _ HB1.out).mono ?_; rintro e w2 ⟨rfl, hb2⟩
          have HB2 := hide_ (Later.trans HB1.out hb2)
          clear hb2 m1
          go_wp2_with fail
          go_ret
          exact ⟨ret_val (congrArg Value.bool (by rw [HS.out]; simp [HA.out.1, HA.out.2.1, HA.out.2.2, H4.out])), HB2.out⟩
        · have H4 := hide_ h4
          have h4' : ¬ (0 : Int) = chkAll C := fun h => h4 h.symm
          have h4'' : (chkAll C == 0) = false := by simpa using h4
          go_enter Tryz.func90, Tryz.ntmps90
          go_wp2_with fail
          refine hall.out.mono ?_; rintro e w1 ⟨rfl, hb1⟩
          have HB1 := hide_ (Later.trans HB0.out hb1)
          clear hb1 hall
          go_wp2_with fail
          go_ret
          exact ⟨ret_val (congrArg Value.bool (by rw [HS.out]; simp [H4.out])), HB1.out⟩
      · have q3 : ¬ (p : Int) ≤ 24 := by omega
        go_enter Tryz.func90, Tryz.ntmps90
        go_wp2_with fail
        go_ret
        exact ⟨ret_val (congrArg Value.bool (by rw [HS.out]; simp [h3])), HB0.out⟩
    · have q2 : ¬ (n : Int) ≤ 24 := by omega
      go_enter Tryz.func90, Tryz.ntmps90
      go_wp2_with fail
      go_ret
      exact ⟨ret_val (congrArg Value.bool (by rw [HS.out]; simp [h2])), HB0.out⟩
  · have H1 := hide_ h1
    go_enter Tryz.func90, Tryz.ntmps90
    go_wp2_with fail
    go_ret
    exact ⟨ret_val (congrArg Value.bool (by rw [HS.out, decide_eq_false (show ¬ 0 ≤ r by have := H1.out; omega)]; rfl)), HB0.out⟩

end Go.Proofs.YtcmollfhlillfaaGreatDoor
/-
  front: is a state sound? The program's State.
-/
namespace Go.Proofs.YtcmollfhlillfaaGreatDoor
open Go.RowKit
set_option linter.unusedVariables false
set_option linter.unusedSimpArgs false
def nodeOk (n : Int) : Bool := decide (0 ≤ n ∧ n ≤ 255)
def stateB (g e r : Int) (L : List Int) : Bool := decide (0 ≤ g ∧ 0 ≤ e ∧ 0 ≤ r) && decide (L.length ≤ 16) && L.all nodeOk
theorem Rd.int {w : World} {A : Option Addr} {n : Nat} {L : List Int} (h : Rd w 1 A n (ints L)) {i : Nat} {x : Int} (hi : L[i]? = some x) : ∃ b o, A = some ⟨b, o, none⟩ ∧ w.cell? ⟨b, o + i, none⟩ = some (.int .i64 x) := by
  have hl : 0 < (ints L).length := by have := (List.getElem?_eq_some_iff.1 hi).1; unfold ints; rw [List.length_map]; omega
  obtain ⟨b, o, e, hc⟩ := h.2 hl
  exact ⟨b, o, e, hc i _ (by unfold ints; rw [List.getElem?_map, hi]; rfl)⟩
set_option maxHeartbeats 1000000 in
theorem in_any (n : Int) (w : World) : Calls Tryz.prog 50 #[.int .i64 n] w fun e w' => e = .returned (.bool (nodeOk n)) ∧ w' = w := by
  by_cases h1 : 0 ≤ n
  · by_cases h2 : n ≤ 255
    · have HS := hide_ (show nodeOk n = true by unfold nodeOk; simp [h1, h2])
      go_enter Tryz.func50, Tryz.ntmps50
      go_wp2_with fail
      go_ret
      exact ⟨ret_val (congrArg Value.bool (by rw [HS.out])), rfl⟩
    · have HS := hide_ (show nodeOk n = false by unfold nodeOk; simp [h2])
      go_enter Tryz.func50, Tryz.ntmps50
      go_wp2_with fail
      go_ret
      exact ⟨ret_val (congrArg Value.bool (by rw [HS.out])), rfl⟩
  · have HS := hide_ (show nodeOk n = false by unfold nodeOk; simp [h1])
    go_enter Tryz.func50, Tryz.ntmps50
    go_wp2_with fail
    go_ret
    exact ⟨ret_val (congrArg Value.bool (by rw [HS.out])), rfl⟩
theorem st1_any (n : Int) (w : World) : Calls Tryz.prog 49 #[.int .i64 n] w fun e w' => e = .returned (.bool (!nodeOk n)) ∧ w' = w := by
  have HI := hide_ (in_any n w)
  go_enter Tryz.func49, Tryz.ntmps49
  go_wp2_with fail
  refine HI.out.mono ?_; rintro e w2 ⟨rfl, rfl⟩
  go_wp2_with fail
  go_ret
  exact ⟨rfl, rfl⟩
def BadN (L : List Int) (w : World) (e : Ending) (w' : World) : Prop := (∃ r : Int, e = .returned (.int .i64 r) ∧ decide (0 ≤ r) = !L.all nodeOk) ∧ w' = w
set_option maxHeartbeats 2000000 in
theorem badn_any {w : World} {A : Option Addr} {n c : Nat} {L : List Int} (hr : Rd w 1 A n (ints L)) (hl : L.length = n) (hn : n ≤ 4398046511104) :
    Calls Tryz.prog 81 #[.slice A n c, .func (.func 49) #[] #[]] w (BadN L w) := by
  have HR := hide_ hr; have HL := hide_ hl
  have hn2 : (n : Int) ≤ 4398046511104 := by omega
  clear hr hl
  go_enter Tryz.func81, Tryz.ntmps81
  go_wp2_with fail
  go_loop [8] (fun s8 => ∃ (k : Nat), k ≤ n ∧ s8 = .int .i64 k ∧ Hid ((L.take k).all nodeOk = true)) (fun i => n - (intOf i).toNat)
  case atStart => exact ⟨0, Nat.zero_le _, rfl, hide_ (by simp)⟩
  case round =>
    obtain ⟨k, hk, rfl, HN⟩ := hrel
    by_cases hlt : k < n
    · have q1 : (k : Int) < (n : Int) := by omega
      have q2 : (k : Int) ≤ 4398046511104 := by omega
      obtain ⟨m, hm⟩ : ∃ m, L[k]? = some m := ⟨_, List.getElem?_eq_getElem (by rw [HL.out]; exact hlt)⟩
      obtain ⟨b, o, rfl, l0⟩ := HR.out.int hm
      have HM := hide_ hm
      have HT := hide_ (take_snoc hm)
      have hbh := hide_ (st1_any m w)
      clear hm
      go_wp2_with fail
      refine hbh.out.mono ?_; rintro e w5 ⟨rfl, rfl⟩
      by_cases he : nodeOk m = true
      · rw [he]
        have HE := hide_ he
        clear he
        go_wp2_with fail
        go_round
        case rel => exact ⟨k + 1, by omega, by go_num, hide_ (by rw [HT.out, List.all_append, HN.out, List.all_cons, HE.out]; rfl)⟩
        case measure => simp [intOf]; omega
      · have he : nodeOk m = false := by simpa using he
        rw [he]
        have HE := hide_ he
        clear he
        go_wp2_with fail
        go_ret
        refine ⟨⟨(k : Int), rfl, ?_⟩, rfl⟩
        have : L.all nodeOk = false := by
          rw [List.all_eq_false]
          exact ⟨m, List.mem_of_getElem? HM.out, by rw [HE.out]; simp⟩
        rw [this]; simp
    · obtain rfl : k = n := by omega
      have q1 : ¬ (k : Int) < (k : Int) := by omega
      go_wp2_with fail
      go_ret
      refine ⟨⟨-1, rfl, ?_⟩, rfl⟩
      have h := HN.out
      rw [List.take_of_length_le (by rw [HL.out]; exact Nat.le_refl _)] at h
      rw [h]; rfl
set_option maxHeartbeats 1000000 in
theorem badnany_any {w : World} {A : Option Addr} {n c : Nat} {L : List Int} (hr : Rd w 1 A n (ints L)) (hl : L.length = n) (hn : n ≤ 4398046511104) :
    Calls Tryz.prog 48 #[.slice A n c, .func (.func 49) #[] #[]] w fun e w' => e = .returned (.bool (!L.all nodeOk)) ∧ w' = w := by
  have HB := hide_ (badn_any (c := c) hr hl hn)
  clear hr hl hn
  go_enter Tryz.func48, Tryz.ntmps48
  go_wp2_with fail
  refine HB.out.mono ?_; rintro e w2 ⟨⟨r, rfl, hr⟩, rfl⟩
  have HR := hide_ hr
  clear hr
  go_wp2_with fail
  go_ret
  exact ⟨ret_val (congrArg Value.bool HR.out), rfl⟩
set_option maxHeartbeats 2000000 in
theorem state_any {w : World} {A : Option Addr} {n c : Nat} {g e0 r : Int} {L : List Int} (hr : Rd w 1 A n (ints L)) (hl : L.length = n) (hn : n ≤ 4398046511104) :
    Calls Tryz.prog 25 #[.agg #[.int .i64 g, .int .i64 e0, .int .i64 r, .slice A n c]] w fun e w' => e = .returned (.bool (stateB g e0 r L)) ∧ Later w w' := by
  have HS := hide_ (show stateB g e0 r L = (decide (0 ≤ min (min g e0) r) && decide (n ≤ 16) && L.all nodeOk) by unfold stateB; rw [hl]; congr 2; exact decide_eq_decide.2 (by omega))
  have HB0 := hide_ (later_alloc w (.cells #[.int .i64 g, .int .i64 e0, .int .i64 r, .slice A n c] 37))
  have hbad := hide_ (badnany_any (c := c) (hr.below HB0.out) hl (by omega))
  clear hr hl
  by_cases h1 : 0 ≤ min (min g e0) r
  · by_cases h2 : n ≤ 16
    · have q2 : (n : Int) ≤ 16 := by omega
      have HA := hide_ (And.intro (decide_eq_true h1) h2)
      go_enter Tryz.func25, Tryz.ntmps25
      go_wp2_with fail
      all_goals (
        refine hbad.out.mono ?_; rintro e w1 ⟨rfl, rfl⟩
        go_wp2_with fail
        go_ret
        exact ⟨ret_val (congrArg Value.bool (by rw [HS.out]; simp only [HA.out.1, decide_eq_true HA.out.2, Bool.true_and, Bool.not_not])), HB0.out⟩)
    · have q2 : ¬ (n : Int) ≤ 16 := by omega
      have HA := hide_ (decide_eq_false h2)
      go_enter Tryz.func25, Tryz.ntmps25
      go_wp2_with fail
      all_goals (
        go_ret
        exact ⟨ret_val (congrArg Value.bool (by rw [HS.out, HA.out, Bool.and_false, Bool.false_and])), HB0.out⟩)
  · have H1 := hide_ (decide_eq_false h1)
    go_enter Tryz.func25, Tryz.ntmps25
    go_wp2_with fail
    all_goals (
      go_ret
      exact ⟨ret_val (congrArg Value.bool (by rw [HS.out, H1.out]; rfl)), HB0.out⟩)

end Go.Proofs.YtcmollfhlillfaaGreatDoor
