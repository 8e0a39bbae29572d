/-
  FrontArgs: the law's walk.
-/
import Derived.Test.YtcmollfhlillfaaGreatDoorFrAw
namespace Go.Proofs.YtcmollfhlillfaaGreatDoor
open Go.RowKit
set_option linter.unusedVariables false
set_option linter.unusedSimpArgs false
/-- What New answers, in one form. -/
def NewRes (w : World) (node g e0 r version : Int) (C R : List Int) (B : List ByteArray) (e : Ending) (w' : World) : Prop :=
  ∃ v k, e = .returned (.tuple #[v, .int .i64 k]) ∧ Later w w' ∧ (newBad node g e0 r version C R B → v = .pointer none ∧ k = 1) ∧ (¬ newBad node g e0 r version C R B → bndB B = false → v = .pointer none ∧ k = 2) ∧
    (¬ newBad node g e0 r version C R B → bndB B = true → ∃ f X, v = .pointer (some ⟨f, 0, none⟩) ∧ k = 0 ∧ FrH w' f (fr0 node g e0 r version C R B) X ∧ ∀ i ∈ X, w.heap.size ≤ i)
theorem new_any {w : World} {Ac Ar Ab : Option Addr} {cc cr cb : Nat} {C R : List Int} {B : List ByteArray} (ha : NewArgs w Ac Ar Ab cc cr cb C R B) (node g e0 r version : Int) :
    Calls Tryz.prog 14 #[.int .i64 node, .agg #[.int .i64 g, .int .i64 e0, .int .i64 r, .slice Ac C.length cc], .int .i64 version, .slice Ar R.length cr, .slice Ab B.length cb] w (NewRes w node g e0 r version C R B) := by
  by_cases hb : newBad node g e0 r version C R B
  · refine (new_bad ha node g e0 r version hb).mono ?_
    rintro e w' ⟨rfl, hl⟩
    exact ⟨_, _, rfl, hl, fun _ => ⟨rfl, rfl⟩, fun h => absurd hb h, fun h => absurd hb h⟩
  · cases hB : bndB B with
    | false =>
      refine (new_form ha node g e0 r version hb hB).mono ?_
      rintro e w' ⟨rfl, hl⟩
      exact ⟨_, _, rfl, hl, fun h => absurd h hb, fun _ _ => ⟨rfl, rfl⟩, fun _ h => by rw [hB] at h; cases h⟩
    | true =>
      refine (new_ok ha node g e0 r version hb hB).mono ?_
      rintro e w' ⟨f, X, rfl, hf, hX, hl⟩
      exact ⟨_, _, rfl, hl, fun h => absurd h hb, fun _ h => (by rw [hB] at h; cases h), fun _ _ => ⟨f, X, rfl, rfl, hf, hX⟩⟩
set_option maxHeartbeats 1000000 in
set_option maxRecDepth 100000 in
theorem args_any {w : World} {Ac Ar Ab : Option Addr} {cc cr cb : Nat} {C R : List Int} {B : List ByteArray} (ha : NewArgs w Ac Ar Ab cc cr cb C R B) (node g e0 r version : Int) (m0 m1 m2 m3 m4 m5 m6 m7 : Value) :
    Calls Tryz.prog 5 #[.int .i64 node, .agg #[.int .i64 g, .int .i64 e0, .int .i64 r, .slice Ac C.length cc], .int .i64 version, .slice Ar R.length cr, .slice Ab B.length cb, .agg #[m0, m1, m2, m3, m4, m5, m6, m7]] w fun e w' => e = .returned (.bool true) ∧ Later w w' := by
  obtain ⟨W2, hW2⟩ : ∃ W2, W2 = (w.alloc (.cells #[.int .i64 g, .int .i64 e0, .int .i64 r, .slice Ac C.length cc] 37)).alloc (.cells #[m0, m1, m2, m3, m4, m5, m6, m7] 53) := ⟨_, rfl⟩
  have hl2 : Later w W2 := by rw [hW2]; exact (later_alloc _ _).al _
  have hr1 : W2.heap[w.heap.size]? = some (.cells #[.int .i64 g, .int .i64 e0, .int .i64 r, .slice Ac C.length cc] 37 (0, 0)) := by rw [hW2]; exact row_al (heap_alloc_new _ _) _
  have hr2 : W2.heap[w.heap.size + 1]? = some (.cells #[m0, m1, m2, m3, m4, m5, m6, m7] 53 (0, 0)) := by rw [hW2]; exact row_new2 _ _ _
  have HN := hide_ (new_any (ha.later hl2) node g e0 r version)
  have HA := hide_ (ha.later hl2)
  obtain ⟨n1, hn1⟩ : ∃ n, n = C.length := ⟨_, rfl⟩
  obtain ⟨n2, hn2⟩ : ∃ n, n = R.length := ⟨_, rfl⟩
  obtain ⟨n3, hn3⟩ : ∃ n, n = B.length := ⟨_, rfl⟩
  have b1 : n1 ≤ 1099511627776 := by have := ha.cn; omega
  have b2 : n2 ≤ 1099511627776 := by have := ha.rn; omega
  have b3 : n3 ≤ 1099511627776 := by have := ha.bn; omega
  rw [← hn1] at hr1 HN hW2 ⊢
  rw [← hn2, ← hn3] at HN ⊢
  have HN1 := hide_ hn1; have HN2 := hide_ hn2; have HN3 := hide_ hn3
  have s0 : W2.cell? ⟨w.heap.size, 0, none⟩ = some (.int .i64 g) := cell_of_row _ _ 0 _ _ (0, 0) hr1
  have s1 : W2.cell? ⟨w.heap.size, 1, none⟩ = some (.int .i64 e0) := cell_of_row _ _ 1 _ _ (0, 0) hr1
  have s2 : W2.cell? ⟨w.heap.size, 2, none⟩ = some (.int .i64 r) := cell_of_row _ _ 2 _ _ (0, 0) hr1
  have s3 : W2.cell? ⟨w.heap.size, 3, none⟩ = some (.slice Ac n1 cc) := cell_of_row _ _ 3 _ _ (0, 0) hr1
  have HR1 := hide_ hr1; have HR2 := hide_ hr2; have HL2 := hide_ hl2; have HW2 := hide_ hW2
  clear ha hn1 hn2 hn3 hr1 hr2 hl2 hW2
  go_enter Tryz.func5, Tryz.ntmps5
  go_wp2_with fail
  rw [← HW2.out]
  refine HN.out.mono ?_
  rintro e w3 ⟨v, k, rfl, hl3, hx1, hx2, hx3⟩
  have hr1 := later_row hl3 HR1.out
  have hr2 := later_row hl3 HR2.out
  have q0 : w3.cell? ⟨w.heap.size + 1, 0, none⟩ = some m0 := cell_of_row _ _ 0 _ _ (0, 0) hr2
  have q1 : w3.cell? ⟨w.heap.size + 1, 1, none⟩ = some m1 := cell_of_row _ _ 1 _ _ (0, 0) hr2
  have q2 : w3.cell? ⟨w.heap.size + 1, 2, none⟩ = some m2 := cell_of_row _ _ 2 _ _ (0, 0) hr2
  have q3 : w3.cell? ⟨w.heap.size + 1, 3, none⟩ = some m3 := cell_of_row _ _ 3 _ _ (0, 0) hr2
  have q4 : w3.cell? ⟨w.heap.size + 1, 4, none⟩ = some m4 := cell_of_row _ _ 4 _ _ (0, 0) hr2
  have q5 : w3.cell? ⟨w.heap.size + 1, 5, none⟩ = some m5 := cell_of_row _ _ 5 _ _ (0, 0) hr2
  have q6 : w3.cell? ⟨w.heap.size + 1, 6, none⟩ = some m6 := cell_of_row _ _ 6 _ _ (0, 0) hr2
  have q7 : w3.cell? ⟨w.heap.size + 1, 7, none⟩ = some m7 := cell_of_row _ _ 7 _ _ (0, 0) hr2
  have HR1b := hide_ hr1
  have HL3 := hide_ (HL2.out.trans hl3)
  have HX1 := hide_ hx1; have HX2 := hide_ hx2; have HX3 := hide_ hx3
  have HL23 := hide_ hl3
  clear hr1 hr2 hl3 hx1 hx2 hx3 s0 s1 s2 s3 HN
  go_wp2_with fail
  refine (ends_nil _).mono ?_; rintro e w4 ⟨rfl, rfl⟩
  go_wp2_with fail
  refine (take_nil _ ⟨_, _, _, _, _, _, _, _, rfl⟩ _).mono ?_; rintro e w5 ⟨rfl, hl5⟩
  have HL5 := hide_ (HL3.out.trans hl5)
  have HL45 := hide_ hl5
  have HR5 := hide_ (later_row hl5 HR1b.out)
  clear hl5 q0 q1 q2 q3 q4 q5 q6 q7
  go_wp2_with fail
  refine (tick_nil _).mono ?_; rintro e w6 ⟨rfl, rfl⟩
  go_wp2_with fail
  refine (stuck_nil _).mono ?_; rintro e w7 ⟨rfl, rfl⟩
  go_upto_region 6 with (fail)
  have s0 : w7.cell? ⟨w.heap.size, 0, none⟩ = some (.int .i64 g) := cell_of_row _ _ 0 _ _ (0, 0) HR5.out
  have s1 : w7.cell? ⟨w.heap.size, 1, none⟩ = some (.int .i64 e0) := cell_of_row _ _ 1 _ _ (0, 0) HR5.out
  have s2 : w7.cell? ⟨w.heap.size, 2, none⟩ = some (.int .i64 r) := cell_of_row _ _ 2 _ _ (0, 0) HR5.out
  have s3 : w7.cell? ⟨w.heap.size, 3, none⟩ = some (.slice Ac n1 cc) := cell_of_row _ _ 3 _ _ (0, 0) HR5.out
  have HST := hide_ (rstate_any (w := w7) (c := cc) (g := g) (e0 := e0) (r := r) (show Rd w7 1 Ac n1 (ints C) by rw [HN1.out]; exact (HA.out.c.below HL23.out).below HL45.out) HN1.out.symm (by omega))
  go_cut [58] (fun s58 wx => ∃ bb, s58 = .bool bb ∧ Hid (bb = true ↔ newBad node g e0 r version C R B) ∧ Hid (Later w7 wx))
  case first =>
    by_cases c1 : node < 0
    · go_wp2_with fail
      go_meet
      exact ⟨_, rfl, hide_ ⟨fun _ => .inl c1, fun _ => rfl⟩, hide_ (Later.refl _)⟩
    by_cases c2 : 255 < node
    · go_wp2_with fail
      go_meet
      exact ⟨_, rfl, hide_ ⟨fun _ => .inr (.inl c2), fun _ => rfl⟩, hide_ (Later.refl _)⟩
    obtain ⟨sb, hsb⟩ : ∃ sb, sb = stateB g e0 r C := ⟨_, rfl⟩
    rw [← hsb] at HST
    have HSB := hide_ hsb
    clear hsb
    go_wp2_with fail
    refine HST.out.mono ?_; rintro e w8 ⟨rfl, hl8⟩
    have hr8 := later_row hl8 HR5.out
    have t1 : w8.cell? ⟨w.heap.size, 1, none⟩ = some (.int .i64 e0) := cell_of_row _ _ 1 _ _ (0, 0) hr8
    have t3 : w8.cell? ⟨w.heap.size, 3, none⟩ = some (.slice Ac n1 cc) := cell_of_row _ _ 3 _ _ (0, 0) hr8
    have HL8 := hide_ hl8
    clear hr8 hl8 HST
    by_cases c3 : sb = false
    · subst c3
      go_wp2_with fail
      go_meet
      exact ⟨_, rfl, hide_ ⟨fun _ => .inr (.inr (.inl HSB.out.symm)), fun _ => rfl⟩, HL8⟩
    have c3 : sb = true := by simpa using c3
    subst c3
    by_cases c4 : e0 < 1
    · go_wp2_with fail
      go_meet
      exact ⟨_, rfl, hide_ ⟨fun _ => .inr (.inr (.inr (.inl c4))), fun _ => rfl⟩, HL8⟩
    by_cases c5 : n1 = 0
    · have HC5 := hide_ (show C.length = 0 by rw [← HN1.out]; exact c5)
      subst c5
      go_wp2_with fail
      go_meet
      exact ⟨_, rfl, hide_ ⟨fun _ => .inr (.inr (.inr (.inr (.inl HC5.out)))), fun _ => rfl⟩, HL8⟩
    have HC5 := hide_ (show ¬ C.length = 0 by rw [← HN1.out]; exact c5)
    have c5' : ((n1 : Int) == 0) = false := by simp; omega
    clear c5
    by_cases c6 : version < 0
    · go_wp2_with fail
      go_meet
      exact ⟨_, rfl, hide_ ⟨fun _ => .inr (.inr (.inr (.inr (.inr (.inl c6))))), fun _ => rfl⟩, HL8⟩
    have hwr : IntKind.i64.wrap ((n2 : Int) - 1) = (n2 : Int) - 1 := IntWalk.i64_in _ (by omega)
    by_cases c7 : n2 ≠ n3 + 1
    · have HC7 := hide_ (show R.length ≠ B.length + 1 by rw [← HN2.out, ← HN3.out]; exact c7)
      have c7' : ((n2 : Int) - 1 != (n3 : Int)) = true := by rw [bne_iff_ne]; omega
      clear c7
      go_wp2_with fail
      go_meet
      exact ⟨_, rfl, hide_ ⟨fun _ => .inr (.inr (.inr (.inr (.inr (.inr HC7.out))))), fun _ => rfl⟩, HL8⟩
    · have HC7 := hide_ (show ¬ R.length ≠ B.length + 1 by rw [← HN2.out, ← HN3.out]; exact c7)
      have c7' : ((n2 : Int) - 1 != (n3 : Int)) = false := by rw [bne_eq_false_iff_eq]; omega
      have HC := hide_ (And.intro c1 (And.intro c2 (And.intro c4 c6)))
      clear c7
      go_wp2_with fail
      go_meet
      have e4 := hide_ (show decide (e0 < 1) = false by obtain ⟨_, _, d4, _⟩ := HC.out; simp; omega)
      have e6 := hide_ (show decide (version < 0) = false by obtain ⟨_, _, _, d6⟩ := HC.out; simp; omega)
      refine ⟨_, rfl, hide_ ⟨fun h => (by rw [e4.out, e6.out] at h; cases h), fun h => ?_⟩, HL8⟩
      obtain ⟨d1, d2, d4, d6⟩ := HC.out
      rcases h with h | h | h | h | h | h | h
      · omega
      · omega
      · rw [← HSB.out] at h; cases h
      · omega
      · exact absurd h HC5.out
      · omega
      · exact absurd h HC7.out
  case rest =>
    obtain ⟨bb, hcut, HBB, HLC⟩ := hcut
    subst hcut
    have HL9 := hide_ (HL5.out.trans HLC.out)
    clear HST
    by_cases hbad : newBad node g e0 r version C R B
    · obtain rfl : bb = true := HBB.out.2 hbad
      obtain ⟨rfl, rfl⟩ := HX1.out hbad
      clear hbad
      go_wp2_with fail
      refine (awake_any _).mono ?_; rintro e w9 ⟨rfl, hl9⟩
      have HL10 := hide_ (HL9.out.trans hl9)
      clear hl9
      go_wp2_with fail
      go_ret
      exact ⟨rfl, HL10.out⟩
    · obtain rfl : bb = false := by cases hb : bb with
        | false => rfl
        | true => exact absurd (HBB.out.1 hb) hbad
      have HBD := hide_ hbad
      clear hbad
      have HRS := hide_ (rsound_any (w := wc) (c := cb) (n := n3) (L := B) (show Rd wc 1 Ab n3 (strs B) by rw [HN3.out]; exact ((HA.out.b.below HL23.out).below HL45.out).below HLC.out) HN3.out.symm (by omega))
      obtain ⟨sb, hsb⟩ : ∃ sb, sb = bndB B := ⟨_, rfl⟩
      rw [← hsb] at HRS
      have HSB := hide_ hsb
      clear hsb
      go_wp2_with fail
      refine HRS.out.mono ?_; rintro e w9 ⟨rfl, hl9⟩
      have HL10 := hide_ (HL9.out.trans hl9)
      have HL910 := hide_ (HLC.out.trans hl9)
      clear hl9 HRS
      cases sb with
      | false =>
        obtain ⟨rfl, rfl⟩ := HX2.out HBD.out HSB.out.symm
        go_wp2_with fail
        refine (awake_any _).mono ?_; rintro e w11 ⟨rfl, hl11⟩
        have HL12 := hide_ (HL10.out.trans hl11)
        clear hl11
        go_wp2_with fail
        go_ret
        exact ⟨rfl, HL12.out⟩
      | true =>
        obtain ⟨f, X, rfl, rfl, hf, hX⟩ := HX3.out HBD.out HSB.out.symm
        have HF := hide_ hf
        clear hf hX
        go_wp2_with fail
        refine (awake_any _).mono ?_; rintro e w11 ⟨rfl, hl11⟩
        have HF11 := hide_ ((HF.out.later (HL45.out.trans HL910.out)).later hl11)
        have HL12 := hide_ (HL10.out.trans hl11)
        clear hl11
        go_wp2_with fail
        refine (ends_any HF11.out).mono ?_; rintro e w12 ⟨rfl, hl12⟩
        have HF12 := hide_ (HF11.out.later hl12)
        have HL13 := hide_ (HL12.out.trans hl12)
        have ev : (fr0 node g e0 r version C R B).version = version := rfl
        have ek : (fr0 node g e0 r version C R B).known = version := rfl
        rw [ev, ek]
        clear hl12 ev ek
        go_wp2_with fail
        refine (stuck_any HF12.out).mono ?_; rintro e w13 ⟨rfl, rfl⟩
        have es : (fr0 node g e0 r version C R B).stuck = 0 := rfl
        rw [es]
        clear es
        go_wp2_with fail
        go_ret
        exact ⟨rfl, HL13.out⟩

end Go.Proofs.YtcmollfhlillfaaGreatDoor
