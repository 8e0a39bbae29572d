/-
  ChangeLeast: for any changes the program's Least is the document's; it writes nothing that was there.
  Conditions: none but the row's own.
-/
import Derived.Test.YtblljpdlmllceaaKRefLeast
namespace Go.Proofs.Ytblljpdlmllceaa
open Go.ChangeShapes Go.WideShapes Go.ChangeAt Go.RowKit
set_option linter.unusedVariables false
set_option linter.unusedSimpArgs false
set_option maxHeartbeats 2000000 in
theorem changeLeast_walk (A : Option Addr) (n c : Nat) (L : List Chg) (w : World) (hr : Rd w 3 A n (crow L)) (hA : A = none → n = 0) (hl : L.length = n) (hnc : n ≤ c) :
    Calls Try.prog 9 #[.slice A n c] w fun e w' => e = .returned (.bool true) ∧ Below w.heap.size w w' := by
  have hcut : ∀ m, m ≤ 30 → m ≤ n → ∃ M, Hid (CutAt A m M w) ∧ m ≤ 30 := fun m hm hmn => ⟨L.take m, hide_ ⟨(rd_take3 hr hl hmn).1, (rd_take3 hr hl hmn).2, fun h => by have := hA h; omega⟩, hm⟩
  by_cases h30 : n ≤ 30
  case' pos =>
    obtain ⟨M, HM, hm30⟩ := hcut n h30 (Nat.le_refl _)
    have q1 : ¬ (30 : Int) < (n : Int) := by omega
    have hls := hide_ (least_any (c := c) HM.out.1 HM.out.2.1 (by omega))
    have hra := hide_ (fun (w1 : World) (hb : Later w w1) => rall_any (c := c) (HM.out.1.below hb) HM.out.2.1 (by omega))
    have hrs := hide_ (fun (w1 : World) (hb : Later w w1) (h0 : chkAll M = 0) => rleast_any (c := c) (HM.out.1.below hb) HM.out.2.1 (by omega) h0)
    have hpp : n * n + n ≤ 930 := by have := Nat.mul_le_mul hm30 hm30; omega
  case' neg =>
    obtain ⟨M, HM, hm30⟩ := hcut 30 (Nat.le_refl _) (by omega)
    have q1 : (30 : Int) < (n : Int) := by omega
    have q2 : (30 : Int) ≤ (c : Int) := by omega
    have q3 : 30 ≤ c := by omega
    obtain ⟨b, o, rfl, _⟩ := hr.2 (by rw [hr.1]; omega)
    have hls := hide_ (least_any (c := c) HM.out.1 HM.out.2.1 (by omega))
    have hra := hide_ (fun (w1 : World) (hb : Later w w1) => rall_any (c := c) (HM.out.1.below hb) HM.out.2.1 (by omega))
    have hrs := hide_ (fun (w1 : World) (hb : Later w w1) (h0 : chkAll M = 0) => rleast_any (c := c) (HM.out.1.below hb) HM.out.2.1 (by omega) h0)
  all_goals
    clear hcut hr hl hA h30
    go_enter Try.func9, Try.ntmps9
    go_wp2_with fail
    refine hls.out.mono ?_; rintro e w1 ⟨h1, hb1⟩
    have HB1 := hide_ hb1
    clear hb1 hls
    rcases h1 with ⟨h0, rfl⟩ | ⟨h0, u, d, R, N, rfl, hcan, hk, hN, hd, hdp, ho⟩
    case' inr =>
      obtain ⟨A1, c1, rfl⟩ := own_form ho
      have hd36 : d ≤ 930 := by omega
      have H0 := hide_ h0
      have HD := hide_ hd; have HR1 := hide_ (Rd.of_own ho)
      have HCAN := hide_ hcan; have HK := hide_ hk; have HN := hide_ hN
      clear hcan hk hN hd hdp ho h0
      go_wp2_with fail
      refine (hra.out w1 HB1.out).mono ?_; rintro e w2 ⟨rfl, hb2⟩
      have HB2 := hide_ (Later.trans HB1.out hb2)
      have HR2 := hide_ (HR1.out.below hb2)
      rw [H0.out]
      clear hb2
      go_wp2_with fail
      refine (awake_yes w2).mono ?_; rintro e w3 ⟨rfl, hb3⟩
      have HB3 := hide_ (Later.trans HB2.out hb3)
      have HR3 := hide_ (HR2.out.below hb3)
      clear hb3
      go_wp2_with fail
      refine (hrs.out w3 HB3.out H0.out).mono ?_; rintro e w4 ⟨⟨v4, n4, R4, N4, rfl, hc4, hk4, hN4, hln4, ho4⟩, hb4⟩
      obtain ⟨A4, c4, rfl⟩ := own_form ho4
      obtain rfl : R4 = R := canon_uniq hc4 HCAN.out fun k => by rw [hk4, HK.out]
      obtain rfl : N4 = N := app_fun hN4 HN.out
      obtain rfl : n4 = d := by rw [← hln4, HD.out]
      have HB4 := hide_ (Later.trans HB3.out hb4)
      have HR4 := hide_ (HR3.out.below hb4)
      have HO4 := hide_ (Rd.of_own ho4)
      clear hc4 hk4 hN4 hln4 ho4 hb4
      go_wp2_with fail
      refine (csame_yes HR4.out HO4.out HD.out (by omega)).mono ?_; rintro e w5 ⟨rfl, hb5⟩
      have HB5 := hide_ (Later.trans HB4.out hb5)
      clear hb5
      go_wp2_with fail
      go_ret
      exact ⟨rfl, HB5.out⟩
    case' inl =>
      have H0 := hide_ h0
      have h0' : ¬ (0 : Int) = chkAll M := fun h => h0 h.symm
      clear h0
      go_wp2_with fail
      refine (hra.out w1 HB1.out).mono ?_; rintro e w2 ⟨rfl, hb2⟩
      have HB2 := hide_ (Later.trans HB1.out hb2)
      clear hb2
      go_wp2_with fail
      refine (awake_yes w2).mono ?_; rintro e w3 ⟨rfl, hb3⟩
      have HB3 := hide_ (Later.trans HB2.out hb3)
      clear hb3
      go_wp2_with fail
      go_ret
      exact ⟨rfl, HB3.out⟩
set_option maxRecDepth 20000 in
theorem changeLeast_contract (H : Type) (enc : TypeId × Value → H) (W : World) (base : Nat) (args : Array Value) (ds : List (DataW H)) (before : List MemPlace)
    (hval : ∀ (j : Nat) t v, Try.f9.params[j]? = some t → args[j]? = some v → Value.okWide Try.prog W .any base t v)
    (hA : DataW.TrodAll enc Try.prog W 0 (fun _ => true) true Try.f9.params.toList args.toList ds before)
    (_hsz : (DataW.weightsEach Try.prog (Try.f9.params.toList ++ Rows.changeLeastSpec.plain.varTypes Try.prog) (ds ++ [])).all (· ≤ reachBytes) = true) :
    Calls Try.prog 9 args W fun e W' => e = .returned (.bool true) ∧ Below W.heap.size W W' := by
  rw [Try.params9] at hA hval
  obtain ⟨v0, vs0, d0, ds0, p0, q0, hargs, rfl, rfl, h0, r0⟩ := trodAll_cons hA
  obtain ⟨rfl, rfl, rfl⟩ := trodAll_nil r0
  obtain rfl : args = #[v0] := by cases args; simp_all
  obtain ⟨A, c, L, rfl, hlc, hcm, hA1, hR, _⟩ := open_changes (hval 0 23 v0 rfl rfl) h0
  exact changeLeast_walk A L.length c L W hR hA1 rfl hlc

set_option maxRecDepth 100000 in
theorem changeLeast_lifted (os : Os) (started : os.Started) (H : Type) (enc : TypeId × Value → H) :
    ReturnsInHanded {} Try.checked os 9 .any (Rows.changeLeastSpec.pre6 enc Try.prog Try.f9 Rows.changeLeastRow.domain false) (Rows.changeLeastSpec.post enc Try.prog Try.f9 false true false false) := by
  refine returnsInHanded_of_change_sized (C := Try.checked) own started (by kernel_rfl) Try.func9
    (ChangeSpec.witness6 (enc := enc) (C := Try.checked) false ⟨#[], #[.slice none 0 0], []⟩ 8 (by kernel_rfl) (by kernel_rfl) (by kernel_rfl) (by kernel_rfl)) ?_
  intro W base args ds gs before hval hW _ hsz _
  have hW' := hW
  obtain ⟨p, q, hA0, hV, rfl, hfz, hnd⟩ := hW
  obtain ⟨rfl, rfl⟩ := trodVars_none hV
  have hA : DataW.TrodAll enc Try.prog W 0 (fun _ => true) true Try.f9.params.toList args.toList ds p := hA0
  refine (changeLeast_contract H enc W base args ds p hval hA hsz).mono fun e W' ⟨he, hb⟩ => ?_
  subst he
  have hds : ds.length = 1 := by
    rw [Try.params9] at hA
    obtain ⟨v0, vs0, d0, ds0, p0, q0, _, rfl, rfl, _, r0⟩ := trodAll_cons hA
    obtain ⟨_, rfl, rfl⟩ := trodAll_nil r0
    rfl
  have hsh : ∃ d0 : DataW H, ds = [d0] := by
    match ds, hds with
    | [d0], _ => exact ⟨d0, rfl⟩
  obtain ⟨d0, rfl⟩ := hsh
  exact ⟨_, rfl, post_law (s := Rows.changeLeastSpec) laidOut (by kernel_rfl) Try.underlying4 rfl (by kernel_rfl) hW' rfl rfl rfl hb⟩
theorem changeLeast_over : Rows.changeLeastRow.holds Try.pinned (OpenSpec.ofChange Rows.changeLeastSpec) :=
  OpenClaim.holds_of_wide 9 Try.f9 rfl rfl rfl rfl rfl rfl rfl ⟨rfl, rfl, rfl, rfl, rfl⟩ rfl rfl rfl rfl rfl (by kernel_rfl) Try.func9 (by kernel_rfl)
    (of_decide_eq_true (by kernel_rfl)) (by unfold Func.isWrapper; first | (rw [if_pos (by decide +kernel)]; kernel_rfl) | (rw [if_neg (by decide +kernel)]; exact ⟨rfl, rfl⟩))
    (fun os started H enc _ => changeLeast_lifted os started H enc)
/-- The statement. -/
theorem changeLeast_holds : Rows.ChangeLeastSaid := changeLeast_over
end Go.Proofs.Ytblljpdlmllceaa
