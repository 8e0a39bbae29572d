/-
  ChestNone: no chest, and one of no tape, answer that there is none.
  Conditions: none but the row's own.
-/
import Derived.Test.YtlgnnmpfipmjeaaGreatG6
import Derived.Test.YtlgnnmpfipmjeaaGreatZkFrame
import Derived.Lib.SmallJoins
namespace Go.Proofs.YtlgnnmpfipmjeaaGreat
open Go.ChangeShapes Go.WideShapes Go.ChangeAt Go.RowKit
set_option linter.unusedVariables false
set_option linter.unusedSimpArgs false
theorem ready_nil (epoch : Int) (A : Option Addr) (n c : Nat) (w : World) : Calls Tryz.prog 22 #[.pointer none, .int .i64 epoch, .slice A n c] w fun e w' => e = .returned (.int .i64 1) ∧ w' = w := by
  go_enter Tryz.func22, Tryz.ntmps22
  go_wp2_with fail
  go_ret
  exact ⟨rfl, rfl⟩
theorem live_nil (epoch : Int) (w : World) : Calls Tryz.prog 33 #[.pointer none, .int .i64 epoch] w fun e w' => e = .returned (.tuple #[.pointer none, .int .i64 1]) ∧ w' = w := by
  go_enter Tryz.func33, Tryz.ntmps33
  go_wp2_with fail
  refine (ready_nil epoch _ _ _ _).mono ?_; rintro e w1 ⟨rfl, rfl⟩
  go_wp2_with fail
  go_ret2
  exact ⟨rfl, rfl⟩
theorem Live_nil (epoch : Int) (w : World) : Calls Tryz.prog 13 #[.pointer none, .int .i64 epoch] w fun e w' => e = .returned (.int .i64 1) ∧ w' = w := by
  go_enter Tryz.func13, Tryz.ntmps13
  go_wp2_with fail
  refine (live_nil epoch _).mono ?_; rintro e w1 ⟨rfl, rfl⟩
  go_wp2_with fail
  go_ret
  exact ⟨rfl, rfl⟩
theorem push_nil (epoch x0 x1 x2 : Int) (A : Option Addr) (n c : Nat) (w : World) : Calls Tryz.prog 12 #[.pointer none, .int .i64 epoch, .agg #[.int .i64 x0, .int .i64 x1, .int .i64 x2, .slice A n c]] w fun e w' => e = .returned (.tuple #[.int .i64 0, .int .i64 1]) ∧ Below w.heap.size w w' := by
  have HB0 := hide_ (later_alloc w (.cells #[.int .i64 x0, .int .i64 x1, .int .i64 x2, .slice A n c] 38))
  go_enter Tryz.func12, Tryz.ntmps12
  go_wp2_with fail
  refine (live_nil epoch _).mono ?_; rintro e w1 ⟨rfl, rfl⟩
  go_wp2_with fail
  go_ret2
  exact ⟨rfl, HB0.out⟩
theorem lock_nil (epoch of : Int) (w : World) : Calls Tryz.prog 11 #[.pointer none, .int .i64 epoch, .int .i64 of] w fun e w' => e = .returned (.tuple #[.int .i64 0, .int .i64 0, .slice none 0 0, .int .i64 1]) ∧ Below w.heap.size w w' := by
  have HB0 := hide_ (later_alloc w (.cells #[.int .i64 of] 3))
  go_enter Tryz.func11, Tryz.ntmps11
  go_wp2_with fail
  refine (ready_nil epoch _ _ _ _).mono ?_; rintro e w1 ⟨rfl, rfl⟩
  go_wp2_with fail
  go_returns
  exact ⟨rfl, HB0.out⟩
theorem peek_nil (epoch ver most : Int) (w : World) : Calls Tryz.prog 15 #[.pointer none, .int .i64 epoch, .int .i64 ver, .int .i64 most] w fun e w' => e = .returned (.tuple #[.slice none 0 0, .int .i64 0, .int .i64 1]) ∧ Below w.heap.size w w' := by
  have HB0 := hide_ (later_alloc w (.cells #[.int .i64 ver, .int .i64 most] 3))
  go_enter Tryz.func15, Tryz.ntmps15
  go_wp2_with fail
  refine (ready_nil epoch _ _ _ _).mono ?_; rintro e w1 ⟨rfl, rfl⟩
  go_wp2_with fail
  go_returns
  exact ⟨rfl, HB0.out⟩
theorem lay_nil (epoch base : Int) (A : Option Addr) (n c : Nat) (w : World) : Calls Tryz.prog 10 #[.pointer none, .int .i64 epoch, .int .i64 base, .slice A n c] w fun e w' => e = .returned (.int .i64 1) ∧ Below w.heap.size w w' := by
  have HB0 := hide_ (later_alloc w (.cells #[.int .i64 base] 3))
  go_enter Tryz.func10, Tryz.ntmps10
  go_wp2_with fail
  refine (ready_nil epoch _ _ _ _).mono ?_; rintro e w1 ⟨rfl, rfl⟩
  go_wp2_with fail
  go_ret
  exact ⟨rfl, HB0.out⟩
theorem pop_nil (epoch ver : Int) (w : World) : Calls Tryz.prog 14 #[.pointer none, .int .i64 epoch, .int .i64 ver] w fun e w' => e = .returned (.int .i64 1) ∧ Below w.heap.size w w' := by
  have HB0 := hide_ (later_alloc w (.cells #[.int .i64 ver] 3))
  go_enter Tryz.func14, Tryz.ntmps14
  go_wp2_with fail
  refine (ready_nil epoch _ _ _ _).mono ?_; rintro e w1 ⟨rfl, rfl⟩
  go_wp2_with fail
  go_ret
  exact ⟨rfl, HB0.out⟩
theorem retire_nil (epoch : Int) (w : World) : Calls Tryz.prog 17 #[.pointer none, .int .i64 epoch] w fun e w' => e = .returned (.int .i64 1) ∧ w' = w := by
  go_enter Tryz.func17, Tryz.ntmps17
  go_wp2_with fail
  refine (ready_nil epoch _ _ _ _).mono ?_; rintro e w1 ⟨rfl, rfl⟩
  go_wp2_with fail
  go_ret
  exact ⟨rfl, rfl⟩
theorem epochs_nil (w : World) : Calls Tryz.prog 18 #[.pointer none] w fun e w' => e = .returned (.slice none 0 0) ∧ w' = w := by
  go_enter Tryz.func18, Tryz.ntmps18
  go_wp2_with fail
  go_ret
  exact ⟨rfl, rfl⟩
theorem open_nil (w : World) : Calls Tryz.prog 8 #[.pointer none] w fun e w' => e = .returned (.tuple #[.pointer none, .int .i64 1]) ∧ w' = w := by
  have HB := hide_ (show Calls Tryz.prog 19 #[.pointer none] w fun e w' => e = .returned (.tuple #[.pointer none, .int .i64 1]) ∧ w' = w from by
    go_enter Tryz.func19, Tryz.ntmps19
    go_wp2_with fail
    go_ret2
    exact ⟨rfl, rfl⟩)
  go_enter Tryz.func8, Tryz.ntmps8
  go_wp2_with fail
  refine HB.out.mono ?_; rintro e w1 ⟨rfl, rfl⟩
  go_wp2_with fail
  go_ret2
  exact ⟨rfl, rfl⟩
set_option maxHeartbeats 1000000 in
theorem chestNone_walk (a b x0 x1 x2 : Int) (A : Option Addr) (len c : Nat) (w : World) :
    Calls Tryz.prog 6 #[.int .i64 a, .int .i64 b, .agg #[.int .i64 x0, .int .i64 x1, .int .i64 x2, .slice A len c]] w fun e w' => e = .returned (.bool true) ∧ Below w.heap.size w w' := by
  have HX := hide_ (heap_alloc_new w (.cells #[.int .i64 x0, .int .i64 x1, .int .i64 x2, .slice A len c] 38))
  have HA := hide_ (later_alloc w (.cells #[.int .i64 x0, .int .i64 x1, .int .i64 x2, .slice A len c] 38))
  go_enter Tryz.func6, Tryz.ntmps6
  go_wp2_with fail
  refine (push_nil a _ _ _ _ _ _ _).mono ?_; rintro e w1 ⟨rfl, hb⟩
  have HB1 := hide_ (show Later _ _ from hb)
  clear hb
  go_wp2_with fail
  refine (lock_nil a b _).mono ?_; rintro e w2 ⟨rfl, hb⟩
  have HB2 := hide_ (HB1.out.trans hb)
  clear hb
  go_wp2_with fail
  refine (peek_nil a b b _).mono ?_; rintro e w3 ⟨rfl, hb⟩
  have HB3 := hide_ (HB2.out.trans hb)
  clear hb
  go_wp2_with fail
  refine (open_nil _).mono ?_; rintro e w4 ⟨rfl, rfl⟩
  go_wp2_with fail
  refine (awake_any _).mono ?_; rintro e w5 ⟨rfl, hb⟩
  have HB5 := hide_ (HB3.out.trans hb)
  clear hb
  have hx := (HB5.out.block _ (by simp)).trans HX.out
  have l0 := cell_of_row _ _ 0 _ _ (0, 0) hx
  have l1 := cell_of_row _ _ 1 _ _ (0, 0) hx
  have l2 := cell_of_row _ _ 2 _ _ (0, 0) hx
  have l3 := cell_of_row _ _ 3 _ _ (0, 0) hx
  clear hx
  go_wp2_with fail
  refine (lay_nil a b _ _ _ _).mono ?_; rintro e w6 ⟨rfl, hb⟩
  have HB6 := hide_ ((HB5.out.trans (later_alloc _ _)).trans hb)
  clear hb
  go_wp2_with fail
  refine (Live_nil a _).mono ?_; rintro e w7 ⟨rfl, rfl⟩
  go_wp2_with fail
  refine (pop_nil a b _).mono ?_; rintro e w8 ⟨rfl, hb⟩
  have HB8 := hide_ (HB6.out.trans hb)
  clear hb
  go_wp2_with fail
  refine (retire_nil a _).mono ?_; rintro e w9 ⟨rfl, rfl⟩
  go_wp2_with fail
  refine (epochs_nil _).mono ?_; rintro e w10 ⟨rfl, rfl⟩
  go_wp2_with fail
  go_ret
  exact ⟨rfl, HA.out.trans HB8.out⟩
set_option maxRecDepth 20000 in
theorem chestNone_contract (H : Type) (enc : TypeId × Value → H) (W : World) (base : Nat) (args : Array Value) (ds : List (DataW H)) (before : List MemPlace)
    (hval : ∀ (j : Nat) t v, Tryz.f6.params[j]? = some t → args[j]? = some v → Value.okWide Tryz.prog W .any base t v)
    (hA : DataW.TrodAll enc Tryz.prog W 0 (fun _ => true) true Tryz.f6.params.toList args.toList ds before)
    (_hsz : (DataW.weightsEach Tryz.prog (Tryz.f6.params.toList ++ Rows.chestNoneSpec.plain.varTypes Tryz.prog) (ds ++ [])).all (· ≤ reachBytes) = true) :
    Calls Tryz.prog 6 args W fun e W' => e = .returned (.bool true) ∧ Below W.heap.size W W' := by
  rw [Tryz.params6] at hA hval
  obtain ⟨v0, vs0, d0, ds0, p0, q0, hargs, rfl, rfl, h0, r0⟩ := trodAll_cons hA
  obtain ⟨v1, vs1, d1, ds1, p1, q1, rfl, rfl, rfl, h1, r1⟩ := trodAll_cons r0
  obtain ⟨v2, vs2, d2, ds2, p2, q2, rfl, rfl, rfl, h2, r2⟩ := trodAll_cons r1
  obtain ⟨rfl, rfl, rfl⟩ := trodAll_nil r2
  obtain rfl : args = #[v0, v1, v2] := by cases args; simp_all
  obtain ⟨a, rfl, rfl, rfl, w0⟩ := open_int Tryz.underlying3 (hval 0 3 v0 rfl rfl) h0
  obtain ⟨b, rfl, rfl, rfl, w1⟩ := open_int Tryz.underlying3 (hval 1 3 v1 rfl rfl) h1
  obtain ⟨c0, c1, c2, c3, y0, y1, y2, y3, m, rfl, rfl, hw3, hy0, hy1, hy2, hy3⟩ := Joins.open_agg4 Tryz.underlying38 (by kernel_rfl) (by kernel_rfl) (hval 2 38 v2 rfl rfl) h2
  obtain ⟨k0, e0, rfl, _⟩ := DataW.trod_int Tryz.underlying3 hy0
  obtain ⟨k1, e1, rfl, _⟩ := DataW.trod_int Tryz.underlying3 hy1
  obtain ⟨k2, e2, rfl, _⟩ := DataW.trod_int Tryz.underlying3 hy2
  simp at e0 e1 e2
  subst e0 e1 e2
  obtain ⟨A, len, c, rfl⟩ : ∃ A len c, c3 = .slice A len c := by
    rcases DataW.trod_slice Tryz.underlying36 hy3 with ⟨h, _⟩ | ⟨a, len, cap, elems, rest, n, _, h, _⟩
    · exact ⟨_, _, _, (List.cons.inj h).1⟩
    · exact ⟨_, _, _, (List.cons.inj h).1⟩
  exact chestNone_walk a b _ _ _ A len c W

set_option maxRecDepth 100000 in
theorem chestNone_lifted (os : Os) (started : os.Started) (H : Type) (enc : TypeId × Value → H) :
    ReturnsInHanded {} Tryz.checked os 6 .any (Rows.chestNoneSpec.pre6 enc Tryz.prog Tryz.f6 Rows.chestNoneRow.domain false) (Rows.chestNoneSpec.post enc Tryz.prog Tryz.f6 false true false false) := by
  refine returnsInHanded_of_change_sized (C := Tryz.checked) own started (by kernel_rfl) Tryz.func6
    (ChangeSpec.witness6 (enc := enc) (C := Tryz.checked) false ⟨#[], #[.int .i64 0, .int .i64 0, .agg #[.int .i64 0, .int .i64 0, .int .i64 0, .slice none 0 0]], []⟩ 8 (by kernel_rfl) (by kernel_rfl) (by kernel_rfl) (by kernel_rfl)) ?_
  intro W base args ds gs before hval hW _ hsz _
  have hW' := hW
  obtain ⟨p, q, hA0, hV, rfl, hfz, hnd⟩ := hW
  obtain ⟨rfl, rfl⟩ := trodVars_none hV
  have hA : DataW.TrodAll enc Tryz.prog W 0 (fun _ => true) true Tryz.f6.params.toList args.toList ds p := hA0
  refine (chestNone_contract H enc W base args ds p hval hA hsz).mono fun e W' ⟨he, hb⟩ => ?_
  subst he
  have hds : ds.length = 3 := by
    rw [Tryz.params6] at hA
    obtain ⟨v0, vs0, d0, ds0, p0, q0, _, rfl, rfl, _, r0⟩ := trodAll_cons hA
    obtain ⟨v1, vs1, d1, ds1, p1, q1, _, rfl, rfl, _, r1⟩ := trodAll_cons r0
    obtain ⟨v2, vs2, d2, ds2, p2, q2, _, rfl, rfl, _, r2⟩ := trodAll_cons r1
    obtain ⟨_, rfl, rfl⟩ := trodAll_nil r2
    rfl
  have hsh : ∃ d0 d1 d2 : DataW H, ds = [d0, d1, d2] := by
    match ds, hds with
    | [d0, d1, d2], _ => exact ⟨d0, d1, d2, rfl⟩
  obtain ⟨d0, d1, d2, rfl⟩ := hsh
  exact ⟨_, rfl, post_law (s := Rows.chestNoneSpec) laidOut (by kernel_rfl) Tryz.underlying4 rfl (by kernel_rfl) hW' rfl rfl rfl hb⟩
theorem chestNone_over : Rows.chestNoneRow.holds Tryz.pinned (OpenSpec.ofChange Rows.chestNoneSpec) :=
  OpenClaim.holds_of_wide 6 Tryz.f6 rfl rfl rfl rfl rfl rfl rfl ⟨rfl, rfl, rfl, rfl, rfl⟩ rfl rfl rfl rfl rfl (by kernel_rfl) Tryz.func6 (by kernel_rfl)
    (of_decide_eq_true (by kernel_rfl)) (by unfold Func.isWrapper; first | (rw [if_pos (by decide +kernel)]; kernel_rfl) | (rw [if_neg (by decide +kernel)]; exact ⟨rfl, rfl⟩))
    (fun os started H enc _ => chestNone_lifted os started H enc)
/-- The statement. -/
theorem chestNone_holds : Rows.ChestNoneSaid := chestNone_over
end Go.Proofs.YtlgnnmpfipmjeaaGreat
