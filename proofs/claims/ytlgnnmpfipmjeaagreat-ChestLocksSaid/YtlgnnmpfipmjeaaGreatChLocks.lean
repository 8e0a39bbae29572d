/-
  ChestLocks: behind a lock no elder epoch pushes, is laid, or is live; a later one does.
  Conditions: none but the row's own.
-/
import Derived.Test.YtlgnnmpfipmjeaaGreatZkChK
import Derived.Test.YtlgnnmpfipmjeaaGreatZkFrame
namespace Go.Proofs.YtlgnnmpfipmjeaaGreat
open Go.ChangeShapes Go.WideShapes Go.ChangeAt Go.RowKit
set_option linter.unusedVariables false
set_option linter.unusedSimpArgs false
set_option maxHeartbeats 8000000 in
set_option maxRecDepth 100000 in
theorem chestLocks_walk (a b n : Nat) (ha : a ≤ 255) (hb : b ≤ 255) (hn : n ≤ 255) (w : World) :
    Calls Tryz.prog 3 #[.int .u8 a, .int .u8 b, .int .u8 n] w fun e w' => e = .returned (.bool true) ∧ Below w.heap.size w w' := by
  have HT := hide_ (newK (w0 := w) (w := w) (Later.refl _) 100000 (by omega))
  go_enter Tryz.func3, Tryz.ntmps3
  go_wp2_with fail
  refine HT.out.mono ?_; rintro e w1 ⟨rfl, ht1, hl1⟩
  have HO := hide_ (openK (w0 := w) hl1 (Nat.le_refl _) ht1)
  clear ht1 hl1
  go_wp2_with fail
  refine HO.out.mono ?_; rintro e w2 ⟨c, rfl, hk2⟩
  have HK2 := hide_ hk2
  clear hk2
  go_wp2_with fail
  refine (awake_any _).mono ?_; rintro e w3 ⟨rfl, hl3⟩
  have HLY := hide_ (lay_firstK (HK2.out.later hl3) (by omega) (epoch := a + 1) (base := n) (A := none) (n := 0) (cc := 0) (L := []) (by omega) (by omega) (by omega) (Rd.nil _ _ _) rfl (by omega) (fun x hx => by cases hx) trivial (by omega))
  clear hl3
  go_wp2_with fail
  refine HLY.out.mono ?_; rintro e w4 ⟨rfl, hk4, _⟩
  have HLK := hide_ (lockK hk4 (b + 1) (Nat.succ_pos b) (by omega) (by omega) (by omega))
  clear hk4 HLY HO HT HK2
  go_wp2_with fail
  refine HLK.out.mono ?_; rintro e w5 ⟨⟨Al, cl, nl, Ll, rfl, _⟩, hk5, _⟩
  have HK5 := hide_ (show KX w (fun _ => False) w5 c (60 + 100) 100000 (b + 1) ⟨a + 1, n, n, 0, [], []⟩ from hk5)
  clear hk5 HLK
  by_cases hlt : a < b
  · have q0 : True := trivial
    have q1 : (a : Int) + 1 < (b : Int) + 1 := by omega
    have HP := hide_ (push_lockedK HK5.out (Nat.le_add_left 1 a) (by show a + 1 < b + 1; omega) (bv0 n (n + 1) 0))
    go_wp2_with fail
    refine HP.out.mono ?_; rintro e w6 ⟨rfl, hl6⟩
    have HK6 := hide_ (HK5.out.later hl6)
    clear hl6 HP HK5
    have HV := hide_ (LiveK HK6.out (Nat.le_add_left 1 a))
    rw [if_pos (show a + 1 < b + 1 by omega)] at HV
    go_wp2_with fail
    refine HV.out.mono ?_; rintro e w7 ⟨rfl, rfl⟩
    have HL2 := hide_ (lay_secondK (epoch := a + 1 + 300) (base := 3) HK6.out (by omega) (by omega) (by omega) (by show a + 1 < a + 1 + 300; omega) (by omega) (by omega) 0 (by omega))
    go_wp2_with fail
    refine HL2.out.mono ?_; rintro e w8 ⟨rfl, ⟨bb, vl, hcb⟩, hl8⟩
    have HB8 := hide_ hl8
    have HLL := hide_ (lay_locked hcb (epoch := a + 1) (base := n) (by omega) (by omega) none 0 0)
    clear hcb hl8 HL2 HV
    go_wp2_with fail
    refine HLL.out.mono ?_; rintro e w9 ⟨rfl, hl9⟩
    have HB9 := hide_ (HB8.out.trans hl9)
    clear hl9
    go_wp2_with fail
    go_ret
    exact ⟨rfl, HB9.out⟩
  · have q0 : True := trivial
    have q1 : ¬ (a : Int) + 1 < (b : Int) + 1 := by omega
    have HP := hide_ (push_newK (x := bv0 n (n + 1) 0) HK5.out (Nat.le_add_left 1 a) (by show ¬ a + 1 < b + 1; omega) (bv0_ok _ (by omega) (by omega) (by omega)) (bv0_b (by omega) (by omega) (by omega)) rfl (Nat.lt_succ_self n) (by show 0 < 24; omega) (by omega) (by omega))
    go_wp2_with fail
    refine HP.out.mono ?_; rintro e w6 ⟨rfl, hk6, _⟩
    have HK6 := hide_ hk6
    clear hk6 HP HK5
    have HV := hide_ (LiveK HK6.out (Nat.le_add_left 1 a))
    rw [if_neg (show ¬ a + 1 < b + 1 by omega)] at HV
    go_wp2_with fail
    refine HV.out.mono ?_; rintro e w7 ⟨rfl, rfl⟩
    have HL2 := hide_ (lay_secondK (epoch := a + 1 + 300) (base := 3) HK6.out (by omega) (by omega) (by omega) (by show a + 1 < a + 1 + 300; omega) (by omega) (by omega) 0 (by omega))
    go_wp2_with fail
    refine HL2.out.mono ?_; rintro e w8 ⟨rfl, ⟨bb, vl, hcb⟩, hl8⟩
    have HB8 := hide_ hl8
    clear hcb hl8 HL2 HV
    have q2 : (b : Int) + 1 ≤ (a : Int) + 1 := by omega
    go_wp2_with fail
    go_ret
    exact ⟨rfl, HB8.out⟩
set_option maxRecDepth 20000 in
theorem chestLocks_contract (H : Type) (enc : TypeId × Value → H) (W : World) (base : Nat) (args : Array Value) (ds : List (DataW H)) (before : List MemPlace)
    (hval : ∀ (j : Nat) t v, Tryz.f3.params[j]? = some t → args[j]? = some v → Value.okWide Tryz.prog W .any base t v)
    (hA : DataW.TrodAll enc Tryz.prog W 0 (fun _ => true) true Tryz.f3.params.toList args.toList ds before)
    (_hsz : (DataW.weightsEach Tryz.prog (Tryz.f3.params.toList ++ Rows.chestLocksSpec.plain.varTypes Tryz.prog) (ds ++ [])).all (· ≤ reachBytes) = true) :
    Calls Tryz.prog 3 args W fun e W' => e = .returned (.bool true) ∧ Below W.heap.size W W' := by
  rw [Tryz.params3] at hA hval
  obtain ⟨v0, vs0, d0, ds0, p0, q0, hargs, rfl, rfl, h0, r0⟩ := trodAll_cons hA
  obtain ⟨v1, vs1, d1, ds1, p1, q1, rfl, rfl, rfl, h1, r1⟩ := trodAll_cons r0
  obtain ⟨v2, vs2, d2, ds2, p2, q2, rfl, rfl, rfl, h2, r2⟩ := trodAll_cons r1
  obtain ⟨rfl, rfl, rfl⟩ := trodAll_nil r2
  obtain rfl : args = #[v0, v1, v2] := by cases args; simp_all
  obtain ⟨a, rfl, rfl, rfl, w0⟩ := open_int Tryz.underlying5 (hval 0 5 v0 rfl rfl) h0
  have ha : 0 ≤ a ∧ a ≤ 255 := by simpa [Lit.wf, IntKind.min, IntKind.max, IntKind.signed, IntKind.bits] using w0
  obtain ⟨a', rfl⟩ : ∃ m : Nat, a = m := ⟨a.toNat, by omega⟩
  obtain ⟨b, rfl, rfl, rfl, w1⟩ := open_int Tryz.underlying5 (hval 1 5 v1 rfl rfl) h1
  have hb : 0 ≤ b ∧ b ≤ 255 := by simpa [Lit.wf, IntKind.min, IntKind.max, IntKind.signed, IntKind.bits] using w1
  obtain ⟨b', rfl⟩ : ∃ m : Nat, b = m := ⟨b.toNat, by omega⟩
  obtain ⟨n, rfl, rfl, rfl, w2⟩ := open_int Tryz.underlying5 (hval 2 5 v2 rfl rfl) h2
  have hn : 0 ≤ n ∧ n ≤ 255 := by simpa [Lit.wf, IntKind.min, IntKind.max, IntKind.signed, IntKind.bits] using w2
  obtain ⟨n', rfl⟩ : ∃ m : Nat, n = m := ⟨n.toNat, by omega⟩
  exact chestLocks_walk a' b' n' (by omega) (by omega) (by omega) W

set_option maxRecDepth 100000 in
theorem chestLocks_lifted (os : Os) (started : os.Started) (H : Type) (enc : TypeId × Value → H) :
    ReturnsInHanded {} Tryz.checked os 3 .any (Rows.chestLocksSpec.pre6 enc Tryz.prog Tryz.f3 Rows.chestLocksRow.domain false) (Rows.chestLocksSpec.post enc Tryz.prog Tryz.f3 false true false false) := by
  refine returnsInHanded_of_change_sized (C := Tryz.checked) own started (by kernel_rfl) Tryz.func3
    (ChangeSpec.witness6 (enc := enc) (C := Tryz.checked) false ⟨#[], #[.int .u8 0, .int .u8 0, .int .u8 0], []⟩ 8 (by kernel_rfl) (by kernel_rfl) (by kernel_rfl) (by kernel_rfl)) ?_
  intro W base args ds gs before hval hW _ hsz _
  have hW' := hW
  obtain ⟨p, q, hA0, hV, rfl, hfz, hnd⟩ := hW
  obtain ⟨rfl, rfl⟩ := trodVars_none hV
  have hA : DataW.TrodAll enc Tryz.prog W 0 (fun _ => true) true Tryz.f3.params.toList args.toList ds p := hA0
  refine (chestLocks_contract H enc W base args ds p hval hA hsz).mono fun e W' ⟨he, hb⟩ => ?_
  subst he
  have hds : ds.length = 3 := by
    rw [Tryz.params3] at hA
    obtain ⟨v0, vs0, d0, ds0, p0, q0, _, rfl, rfl, _, r0⟩ := trodAll_cons hA
    obtain ⟨v1, vs1, d1, ds1, p1, q1, _, rfl, rfl, _, r1⟩ := trodAll_cons r0
    obtain ⟨v2, vs2, d2, ds2, p2, q2, _, rfl, rfl, _, r2⟩ := trodAll_cons r1
    obtain ⟨_, rfl, rfl⟩ := trodAll_nil r2
    rfl
  have hsh : ∃ d0 d1 d2 : DataW H, ds = [d0, d1, d2] := by
    match ds, hds with
    | [d0, d1, d2], _ => exact ⟨d0, d1, d2, rfl⟩
  obtain ⟨d0, d1, d2, rfl⟩ := hsh
  exact ⟨_, rfl, post_law (s := Rows.chestLocksSpec) laidOut (by kernel_rfl) Tryz.underlying4 rfl (by kernel_rfl) hW' rfl rfl rfl hb⟩
theorem chestLocks_over : Rows.chestLocksRow.holds Tryz.pinned (OpenSpec.ofChange Rows.chestLocksSpec) :=
  OpenClaim.holds_of_wide 3 Tryz.f3 rfl rfl rfl rfl rfl rfl rfl ⟨rfl, rfl, rfl, rfl, rfl⟩ rfl rfl rfl rfl rfl (by kernel_rfl) Tryz.func3 (by kernel_rfl)
    (of_decide_eq_true (by kernel_rfl)) (by unfold Func.isWrapper; first | (rw [if_pos (by decide +kernel)]; kernel_rfl) | (rw [if_neg (by decide +kernel)]; exact ⟨rfl, rfl⟩))
    (fun os started H enc _ => chestLocks_lifted os started H enc)
/-- The statement. -/
theorem chestLocks_holds : Rows.ChestLocksSaid := chestLocks_over
end Go.Proofs.YtlgnnmpfipmjeaaGreat
