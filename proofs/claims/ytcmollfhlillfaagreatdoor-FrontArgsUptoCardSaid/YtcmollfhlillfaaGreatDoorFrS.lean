/-
  front: is a state sound? The program's State.
-/
import Derived.Test.YtcmollfhlillfaaGreatDoorChk
import Derived.Test.YtcmollfhlillfaaGreatDoorCWords
import Derived.Test.YtcmollfhlillfaaGreatDoorZone
namespace Go.Proofs.YtcmollfhlillfaaGreatDoor
open Go.RowKit
set_option linter.unusedVariables false
set_option linter.unusedSimpArgs false
def nodeOk (n : Int) : Bool := decide (0 ≤ n ∧ n ≤ 255)
def stateB (g e r : Int) (L : List Int) : Bool := decide (0 ≤ g ∧ 0 ≤ e ∧ 0 ≤ r) && decide (L.length ≤ 16) && L.all nodeOk
theorem Rd.int {w : World} {A : Option Addr} {n : Nat} {L : List Int} (h : Rd w 1 A n (ints L)) {i : Nat} {x : Int} (hi : L[i]? = some x) : ∃ b o, A = some ⟨b, o, none⟩ ∧ w.cell? ⟨b, o + i, none⟩ = some (.int .i64 x) := by
  have hl : 0 < (ints L).length := by have := (List.getElem?_eq_some_iff.1 hi).1; unfold ints; rw [List.length_map]; omega
  obtain ⟨b, o, e, hc⟩ := h.2 hl
  exact ⟨b, o, e, hc i _ (by unfold ints; rw [List.getElem?_map, hi]; rfl)⟩
set_option maxHeartbeats 1000000 in
theorem in_any (n : Int) (w : World) : Calls Tryz.prog 50 #[.int .i64 n] w fun e w' => e = .returned (.bool (nodeOk n)) ∧ w' = w := by
  by_cases h1 : 0 ≤ n
  · by_cases h2 : n ≤ 255
    · have HS := hide_ (show nodeOk n = true by unfold nodeOk; simp [h1, h2])
      go_enter Tryz.func50, Tryz.ntmps50
      go_wp2_with fail
      go_ret
      exact ⟨ret_val (congrArg Value.bool (by rw [HS.out])), rfl⟩
    · have HS := hide_ (show nodeOk n = false by unfold nodeOk; simp [h2])
      go_enter Tryz.func50, Tryz.ntmps50
      go_wp2_with fail
      go_ret
      exact ⟨ret_val (congrArg Value.bool (by rw [HS.out])), rfl⟩
  · have HS := hide_ (show nodeOk n = false by unfold nodeOk; simp [h1])
    go_enter Tryz.func50, Tryz.ntmps50
    go_wp2_with fail
    go_ret
    exact ⟨ret_val (congrArg Value.bool (by rw [HS.out])), rfl⟩
theorem st1_any (n : Int) (w : World) : Calls Tryz.prog 49 #[.int .i64 n] w fun e w' => e = .returned (.bool (!nodeOk n)) ∧ w' = w := by
  have HI := hide_ (in_any n w)
  go_enter Tryz.func49, Tryz.ntmps49
  go_wp2_with fail
  refine HI.out.mono ?_; rintro e w2 ⟨rfl, rfl⟩
  go_wp2_with fail
  go_ret
  exact ⟨rfl, rfl⟩
def BadN (L : List Int) (w : World) (e : Ending) (w' : World) : Prop := (∃ r : Int, e = .returned (.int .i64 r) ∧ decide (0 ≤ r) = !L.all nodeOk) ∧ w' = w
set_option maxHeartbeats 2000000 in
theorem badn_any {w : World} {A : Option Addr} {n c : Nat} {L : List Int} (hr : Rd w 1 A n (ints L)) (hl : L.length = n) (hn : n ≤ 4398046511104) :
    Calls Tryz.prog 81 #[.slice A n c, .func (.func 49) #[] #[]] w (BadN L w) := by
  have HR := hide_ hr; have HL := hide_ hl
  have hn2 : (n : Int) ≤ 4398046511104 := by omega
  clear hr hl
  go_enter Tryz.func81, Tryz.ntmps81
  go_wp2_with fail
  go_loop [8] (fun s8 => ∃ (k : Nat), k ≤ n ∧ s8 = .int .i64 k ∧ Hid ((L.take k).all nodeOk = true)) (fun i => n - (intOf i).toNat)
  case atStart => exact ⟨0, Nat.zero_le _, rfl, hide_ (by simp)⟩
  case round =>
    obtain ⟨k, hk, rfl, HN⟩ := hrel
    by_cases hlt : k < n
    · have q1 : (k : Int) < (n : Int) := by omega
      have q2 : (k : Int) ≤ 4398046511104 := by omega
      obtain ⟨m, hm⟩ : ∃ m, L[k]? = some m := ⟨_, List.getElem?_eq_getElem (by rw [HL.out]; exact hlt)⟩
      obtain ⟨b, o, rfl, l0⟩ := HR.out.int hm
      have HM := hide_ hm
      have HT := hide_ (take_snoc hm)
      have hbh := hide_ (st1_any m w)
      clear hm
      go_wp2_with fail
      refine hbh.out.mono ?_; rintro e w5 ⟨rfl, rfl⟩
      by_cases he : nodeOk m = true
      · rw [he]
        have HE := hide_ he
        clear he
        go_wp2_with fail
        go_round
        case rel => exact ⟨k + 1, by omega, by go_num, hide_ (by rw [HT.out, List.all_append, HN.out, List.all_cons, HE.out]; rfl)⟩
        case measure => simp [intOf]; omega
      · have he : nodeOk m = false := by simpa using he
        rw [he]
        have HE := hide_ he
        clear he
        go_wp2_with fail
        go_ret
        refine ⟨⟨(k : Int), rfl, ?_⟩, rfl⟩
        have : L.all nodeOk = false := by
          rw [List.all_eq_false]
          exact ⟨m, List.mem_of_getElem? HM.out, by rw [HE.out]; simp⟩
        rw [this]; simp
    · obtain rfl : k = n := by omega
      have q1 : ¬ (k : Int) < (k : Int) := by omega
      go_wp2_with fail
      go_ret
      refine ⟨⟨-1, rfl, ?_⟩, rfl⟩
      have h := HN.out
      rw [List.take_of_length_le (by rw [HL.out]; exact Nat.le_refl _)] at h
      rw [h]; rfl
set_option maxHeartbeats 1000000 in
theorem badnany_any {w : World} {A : Option Addr} {n c : Nat} {L : List Int} (hr : Rd w 1 A n (ints L)) (hl : L.length = n) (hn : n ≤ 4398046511104) :
    Calls Tryz.prog 48 #[.slice A n c, .func (.func 49) #[] #[]] w fun e w' => e = .returned (.bool (!L.all nodeOk)) ∧ w' = w := by
  have HB := hide_ (badn_any (c := c) hr hl hn)
  clear hr hl hn
  go_enter Tryz.func48, Tryz.ntmps48
  go_wp2_with fail
  refine HB.out.mono ?_; rintro e w2 ⟨⟨r, rfl, hr⟩, rfl⟩
  have HR := hide_ hr
  clear hr
  go_wp2_with fail
  go_ret
  exact ⟨ret_val (congrArg Value.bool HR.out), rfl⟩
set_option maxHeartbeats 2000000 in
theorem state_any {w : World} {A : Option Addr} {n c : Nat} {g e0 r : Int} {L : List Int} (hr : Rd w 1 A n (ints L)) (hl : L.length = n) (hn : n ≤ 4398046511104) :
    Calls Tryz.prog 25 #[.agg #[.int .i64 g, .int .i64 e0, .int .i64 r, .slice A n c]] w fun e w' => e = .returned (.bool (stateB g e0 r L)) ∧ Later w w' := by
  have HS := hide_ (show stateB g e0 r L = (decide (0 ≤ min (min g e0) r) && decide (n ≤ 16) && L.all nodeOk) by unfold stateB; rw [hl]; congr 2; exact decide_eq_decide.2 (by omega))
  have HB0 := hide_ (later_alloc w (.cells #[.int .i64 g, .int .i64 e0, .int .i64 r, .slice A n c] 37))
  have hbad := hide_ (badnany_any (c := c) (hr.below HB0.out) hl (by omega))
  clear hr hl
  by_cases h1 : 0 ≤ min (min g e0) r
  · by_cases h2 : n ≤ 16
    · have q2 : (n : Int) ≤ 16 := by omega
      have HA := hide_ (And.intro (decide_eq_true h1) h2)
      go_enter Tryz.func25, Tryz.ntmps25
      go_wp2_with fail
      all_goals (
        refine hbad.out.mono ?_; rintro e w1 ⟨rfl, rfl⟩
        go_wp2_with fail
        go_ret
        exact ⟨ret_val (congrArg Value.bool (by rw [HS.out]; simp only [HA.out.1, decide_eq_true HA.out.2, Bool.true_and, Bool.not_not])), HB0.out⟩)
    · have q2 : ¬ (n : Int) ≤ 16 := by omega
      have HA := hide_ (decide_eq_false h2)
      go_enter Tryz.func25, Tryz.ntmps25
      go_wp2_with fail
      all_goals (
        go_ret
        exact ⟨ret_val (congrArg Value.bool (by rw [HS.out, HA.out, Bool.and_false, Bool.false_and])), HB0.out⟩)
  · have H1 := hide_ (decide_eq_false h1)
    go_enter Tryz.func25, Tryz.ntmps25
    go_wp2_with fail
    all_goals (
      go_ret
      exact ⟨ret_val (congrArg Value.bool (by rw [HS.out, H1.out]; rfl)), HB0.out⟩)

end Go.Proofs.YtcmollfhlillfaaGreatDoor
