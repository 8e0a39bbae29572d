/-
  ChestFull: a log takes 24 batches, and no more, till some are popped.
  Conditions: none but the row's own.
-/
import Derived.Test.YtlgnnmpfipmjeaaGreatZkChK
import Derived.Test.YtlgnnmpfipmjeaaGreatZkFrame
namespace Go.Proofs.YtlgnnmpfipmjeaaGreat
open Go.ChangeShapes Go.WideShapes Go.ChangeAt Go.RowKit
set_option linter.unusedVariables false
set_option linter.unusedSimpArgs false
/-- The first batches. -/
def fullL (k : Nat) : List BP := (List.range k).map fun i => ⟨i, i + 1, 0, []⟩
def fullS (k : Nat) : LB := ⟨1, 0, 0, 0, [], fullL k⟩
theorem fullL_len (k : Nat) : (fullL k).length = k := by simp [fullL]
theorem fullL_next (k : Nat) : fullL (k + 1) = fullL k ++ [(bv0 k (k + 1) 0).bp] := by unfold fullL; rw [List.range_succ, List.map_append]; rfl
theorem fullS_top (k : Nat) : (fullS k).top = k := by
  cases k with
  | zero => rfl
  | succ k => unfold LB.top fullS; simp only [fullL_next, List.getLast?_append, List.getLast?_singleton, Option.some_or]; rfl
theorem fullS_next (k : Nat) : { fullS k with list := (fullS k).list ++ [(bv0 k (k + 1) 0).bp], known := max (fullS k).known (bv0 k (k + 1) 0).known } = fullS (k + 1) := by
  unfold fullS; rw [fullL_next]; rfl
theorem full_facts : ∀ k, k < 25 → (∀ x ∈ (fullL 24).take k, x.ver ≤ k) ∧ (∀ x ∈ (fullL 24).drop k, k < x.ver) ∧ atF ((fullL 24).map BP.ver) k 0 = k ∧ LB.top ⟨1, 0, max 0 k, 0, [], (fullL 24).drop k⟩ = 24 := by decide
set_option maxHeartbeats 8000000 in
set_option maxRecDepth 100000 in
theorem chestFull_walk (n p : Nat) (hn : n ≤ 255) (hp : p ≤ 255) (w : World) :
    Calls Tryz.prog 4 #[.int .u8 n, .int .u8 p] w fun e w' => e = .returned (.bool true) ∧ Below w.heap.size w w' := by
  have HT := hide_ (newK (w0 := w) (w := w) (Later.refl _) 524288 (by omega))
  obtain ⟨k, hk, hk25⟩ : ∃ k : Nat, k = p % 25 ∧ k < 25 := ⟨_, rfl, by omega⟩
  have htm : (p : Int).tmod 25 = (k : Int) := by rw [hk]; exact Int.ofNat_tmod _ _ |>.symm
  clear hk
  have HFF := hide_ (full_facts k hk25)
  go_enter Tryz.func4, Tryz.ntmps4
  go_wp2_with fail
  refine HT.out.mono ?_; rintro e w1 ⟨rfl, ht1, hl1⟩
  have HO := hide_ (openK (w0 := w) hl1 (Nat.le_refl _) ht1)
  clear ht1 hl1
  go_wp2_with fail
  refine HO.out.mono ?_; rintro e w2 ⟨c, rfl, hk2⟩
  have HK2 := hide_ hk2
  clear hk2
  go_wp2_with fail
  refine (awake_any _).mono ?_; rintro e w3 ⟨rfl, hl3⟩
  have HLY := hide_ (lay_firstK (HK2.out.later hl3) (by omega) (epoch := 1) (base := 0) (A := none) (n := 0) (cc := 0) (L := []) (by omega) (by omega) (by omega) (Rd.nil _ _ _) rfl (by omega) (fun x hx => by cases hx) trivial (by omega))
  clear hl3
  go_wp2_with fail
  refine HLY.out.mono ?_; rintro e w4 ⟨rfl, hk4, _⟩
  have HK4 := hide_ (show KX w (fun _ => False) w4 c (60 + 0 * 2500) 524288 0 (fullS 0) from hk4)
  clear hk4 HLY HO HT HK2
  go_wp2_with fail
  go_loopw [9] (fun s9 wr => ∃ i : Nat, i ≤ 24 ∧ s9 = .int .i64 i ∧ Hid (KX w (fun _ => False) wr c (60 + i * 2500) 524288 0 (fullS i))) (fun s _ => 24 - (intOf s).toNat)
  case atStart => exact ⟨0, by omega, rfl, HK4⟩
  case round =>
    obtain ⟨i, hi, rfl, HKR⟩ := hrel
    by_cases hlt : i < 24
    · have r1 : (i : Int) < 24 := by omega
      have HP := hide_ (push_newK (x := bv0 i (i + 1) 0) HKR.out (Nat.le_refl 1) (by exact Nat.not_lt_zero _) (bv0_ok _ (by omega) (by omega) (by omega)) (bv0_b (by omega) (by omega) (by omega)) (fullS_top i).symm (by rw [fullS_top]; exact Nat.lt_succ_self i) (by show (fullL i).length < 24; rw [fullL_len]; exact hlt) (by omega) (by omega))
      rw [fullS_next, show 60 + i * 2500 + 2500 = 60 + (i + 1) * 2500 by omega] at HP
      go_wp2_with fail
      refine HP.out.mono ?_; rintro e w5 ⟨rfl, hk5, _⟩
      have HK5 := hide_ hk5
      clear hk5
      go_wp2_with fail
      go_roundw
      case rel => exact ⟨i + 1, by omega, by go_num, HK5⟩
      case measure => simp [intOf]; omega
    · obtain rfl : i = 24 := by omega
      have HP := hide_ (push_fullK (x := bv0 24 25 0) HKR.out (Nat.le_refl 1) (by exact Nat.not_lt_zero _) (bv0_ok _ (by omega) (by omega) (by omega)) (bv0_b (by omega) (by omega) (by omega)) (fullS_top 24).symm (by rw [fullS_top]; exact Nat.lt_succ_self 24) (by show ¬ (fullL 24).length < 24; rw [fullL_len]; exact Nat.lt_irrefl 24))
      go_wp2_with fail
      refine HP.out.mono ?_; rintro e w5 ⟨rfl, hl5⟩
      have HK5 := hide_ (HKR.out.later hl5)
      clear hl5 HP HKR
      by_cases hk0 : k = 0
      · subst hk0
        have HPP := hide_ (pop_noneK HK5.out (Nat.le_refl 1) 0 (Nat.zero_le _) (x := ⟨0, 1, 0, []⟩) rfl (by decide))
        go_wp2_with fail
        refine HPP.out.mono ?_; rintro e w6 ⟨rfl, hl6⟩
        have HK6 := hide_ (HK5.out.later hl6)
        have HQ := hide_ (push_fullK (x := bv0 24 (25 + n) 0) HK6.out (Nat.le_refl 1) (by exact Nat.not_lt_zero _) (bv0_ok _ (by omega) (by omega) (by omega)) (bv0_b (by omega) (by omega) (by omega)) (fullS_top 24).symm (by rw [fullS_top]; show 24 < 25 + n; omega) (by show ¬ (fullL 24).length < 24; rw [fullL_len]; exact Nat.lt_irrefl 24))
        clear hl6 HPP
        go_wp2_with fail
        refine HQ.out.mono ?_; rintro e w7 ⟨rfl, hl7⟩
        have HK7 := hide_ (HK6.out.later hl7)
        clear hl7
        go_wp2_with fail
        go_ret
        exact ⟨rfl, HK7.out.below⟩
      · have HPP := hide_ (pop_someK HK5.out (Nat.le_refl 1) k (by rw [fullS_top]; omega) (by omega) (B1 := (fullL 24).take k) (B2 := (fullL 24).drop k) (List.take_append_drop k _).symm (fun h => by have := congrArg List.length h; rw [List.length_take, fullL_len] at this; simp at this; omega) HFF.out.1 HFF.out.2.1 HFF.out.2.2.1 (by omega) (by omega))
        go_wp2_with fail
        refine HPP.out.mono ?_; rintro e w6 ⟨rfl, hk6, _⟩
        have HK6 := hide_ (show KX w (fun _ => False) w6 c (60 + 24 * 2500 + 100) 524288 0 ⟨1, 0, max 0 k, 0, [], (fullL 24).drop k⟩ from hk6)
        have HQ := hide_ (push_newK (x := bv0 24 (25 + n) 0) HK6.out (Nat.le_refl 1) (by exact Nat.not_lt_zero _) (bv0_ok _ (by omega) (by omega) (by omega)) (bv0_b (by omega) (by omega) (by omega)) HFF.out.2.2.2.symm (by rw [HFF.out.2.2.2]; show 24 < 25 + n; omega) (by show ((fullL 24).drop k).length < 24; rw [List.length_drop, fullL_len]; omega) (by omega) (by omega))
        clear hk6 HPP
        have r2 : (0 : Int) < (k : Int) := by omega
        go_wp2_with fail
        refine HQ.out.mono ?_; rintro e w7 ⟨rfl, hk7, _⟩
        have HK7 := hide_ hk7.below
        clear hk7
        go_wp2_with fail
        go_ret
        exact ⟨rfl, HK7.out⟩
set_option maxRecDepth 20000 in
theorem chestFull_contract (H : Type) (enc : TypeId × Value → H) (W : World) (base : Nat) (args : Array Value) (ds : List (DataW H)) (before : List MemPlace)
    (hval : ∀ (j : Nat) t v, Tryz.f4.params[j]? = some t → args[j]? = some v → Value.okWide Tryz.prog W .any base t v)
    (hA : DataW.TrodAll enc Tryz.prog W 0 (fun _ => true) true Tryz.f4.params.toList args.toList ds before)
    (_hsz : (DataW.weightsEach Tryz.prog (Tryz.f4.params.toList ++ Rows.chestFullSpec.plain.varTypes Tryz.prog) (ds ++ [])).all (· ≤ reachBytes) = true) :
    Calls Tryz.prog 4 args W fun e W' => e = .returned (.bool true) ∧ Below W.heap.size W W' := by
  rw [Tryz.params4] at hA hval
  obtain ⟨v0, vs0, d0, ds0, p0, q0, hargs, rfl, rfl, h0, r0⟩ := trodAll_cons hA
  obtain ⟨v1, vs1, d1, ds1, p1, q1, rfl, rfl, rfl, h1, r1⟩ := trodAll_cons r0
  obtain ⟨rfl, rfl, rfl⟩ := trodAll_nil r1
  obtain rfl : args = #[v0, v1] := by cases args; simp_all
  obtain ⟨n, rfl, rfl, rfl, w0⟩ := open_int Tryz.underlying5 (hval 0 5 v0 rfl rfl) h0
  have hn : 0 ≤ n ∧ n ≤ 255 := by simpa [Lit.wf, IntKind.min, IntKind.max, IntKind.signed, IntKind.bits] using w0
  obtain ⟨n', rfl⟩ : ∃ m : Nat, n = m := ⟨n.toNat, by omega⟩
  obtain ⟨p, rfl, rfl, rfl, w1⟩ := open_int Tryz.underlying5 (hval 1 5 v1 rfl rfl) h1
  have hp : 0 ≤ p ∧ p ≤ 255 := by simpa [Lit.wf, IntKind.min, IntKind.max, IntKind.signed, IntKind.bits] using w1
  obtain ⟨p', rfl⟩ : ∃ m : Nat, p = m := ⟨p.toNat, by omega⟩
  exact chestFull_walk n' p' (by omega) (by omega) W

set_option maxRecDepth 100000 in
theorem chestFull_lifted (os : Os) (started : os.Started) (H : Type) (enc : TypeId × Value → H) :
    ReturnsInHanded {} Tryz.checked os 4 .any (Rows.chestFullSpec.pre6 enc Tryz.prog Tryz.f4 Rows.chestFullRow.domain false) (Rows.chestFullSpec.post enc Tryz.prog Tryz.f4 false true false false) := by
  refine returnsInHanded_of_change_sized (C := Tryz.checked) own started (by kernel_rfl) Tryz.func4
    (ChangeSpec.witness6 (enc := enc) (C := Tryz.checked) false ⟨#[], #[.int .u8 0, .int .u8 0], []⟩ 8 (by kernel_rfl) (by kernel_rfl) (by kernel_rfl) (by kernel_rfl)) ?_
  intro W base args ds gs before hval hW _ hsz _
  have hW' := hW
  obtain ⟨p, q, hA0, hV, rfl, hfz, hnd⟩ := hW
  obtain ⟨rfl, rfl⟩ := trodVars_none hV
  have hA : DataW.TrodAll enc Tryz.prog W 0 (fun _ => true) true Tryz.f4.params.toList args.toList ds p := hA0
  refine (chestFull_contract H enc W base args ds p hval hA hsz).mono fun e W' ⟨he, hb⟩ => ?_
  subst he
  have hds : ds.length = 2 := by
    rw [Tryz.params4] at hA
    obtain ⟨v0, vs0, d0, ds0, p0, q0, _, rfl, rfl, _, r0⟩ := trodAll_cons hA
    obtain ⟨v1, vs1, d1, ds1, p1, q1, _, rfl, rfl, _, r1⟩ := trodAll_cons r0
    obtain ⟨_, rfl, rfl⟩ := trodAll_nil r1
    rfl
  have hsh : ∃ d0 d1 : DataW H, ds = [d0, d1] := by
    match ds, hds with
    | [d0, d1], _ => exact ⟨d0, d1, rfl⟩
  obtain ⟨d0, d1, rfl⟩ := hsh
  exact ⟨_, rfl, post_law (s := Rows.chestFullSpec) laidOut (by kernel_rfl) Tryz.underlying4 rfl (by kernel_rfl) hW' rfl rfl rfl hb⟩
theorem chestFull_over : Rows.chestFullRow.holds Tryz.pinned (OpenSpec.ofChange Rows.chestFullSpec) :=
  OpenClaim.holds_of_wide 4 Tryz.f4 rfl rfl rfl rfl rfl rfl rfl ⟨rfl, rfl, rfl, rfl, rfl⟩ rfl rfl rfl rfl rfl (by kernel_rfl) Tryz.func4 (by kernel_rfl)
    (of_decide_eq_true (by kernel_rfl)) (by unfold Func.isWrapper; first | (rw [if_pos (by decide +kernel)]; kernel_rfl) | (rw [if_neg (by decide +kernel)]; exact ⟨rfl, rfl⟩))
    (fun os started H enc _ => chestFull_lifted os started H enc)
/-- The statement. -/
theorem chestFull_holds : Rows.ChestFullSaid := chestFull_over
end Go.Proofs.YtlgnnmpfipmjeaaGreat
