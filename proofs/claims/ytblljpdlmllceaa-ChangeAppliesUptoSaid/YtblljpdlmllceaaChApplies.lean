/-
  ChangeApplies: for any pairs and changes, of bulk at most 1048576, the program's Apply is the document's; it writes nothing that was there.
  Conditions: none but the row's own.
-/
import Derived.Test.YtblljpdlmllceaaChOpen
namespace Go.Proofs.Ytblljpdlmllceaa
open Go.ChangeShapes Go.WideShapes Go.ChangeAt Go.RowKit
set_option linter.unusedVariables false
set_option linter.unusedSimpArgs false
set_option maxHeartbeats 1000000 in
theorem changeApplies_walk (A A' : Option Addr) (n c p c' : Nat) (L : List Pr) (C : List Chg) (w : World) (hr : Rd w 2 A n (prow L)) (hl : L.length = n) (hA : A = none → n = 0) (hr' : Rd w 3 A' p (crow C)) (hl' : C.length = p) (hn : n + p ≤ 2199023255552) :
    Calls Try.prog 3 #[.slice A n c, .slice A' p c'] w fun e w' => e = .returned (.bool true) ∧ Below w.heap.size w w' := by
  have hap := hide_ (apply_any (c := c) (c' := c') hr hl hA hr' hl' hn)
  have hrap := fun w1 (hb : Later w w1) => rapply_any (w := w1) (c := c) (c' := c') (hr.below hb) hl (hr'.below hb) hl' hn
  have HRP := hide_ hrap
  have hn2 : (n + p : Int) ≤ 2199023255552 := by omega
  clear hr hl hA hr' hl' hrap
  go_enter Try.func3, Try.ntmps3
  go_wp2_with fail
  refine hap.out.mono ?_; rintro e w1 ⟨h1, hb1⟩
  have HB1 := hide_ hb1
  have h2 := HRP.out w1 hb1
  have HH2 := hide_ h2
  clear hb1 h2 HRP hap
  rcases h1 with ⟨h0, rfl⟩ | ⟨h0, hs, rfl⟩ | ⟨h0, hs, u, M, m, rfl, hm, hmn, hap, ho⟩
  · have H0 := hide_ h0
    have h0' : ¬ (0 : Int) = chkAll C := fun h => h0 h.symm
    clear h0
    go_wp2_with fail
    refine HH2.out.mono ?_; rintro e w2 ⟨h2, hb2⟩
    have HB2 := hide_ (HB1.out.trans hb2)
    rcases h2 with ⟨_, rfl⟩ | ⟨h, _⟩ | ⟨h, _⟩
    · clear hb2 HH2
      go_wp2_with fail
      refine (awake_yes w2).mono ?_; rintro e w3 ⟨rfl, hb3⟩
      have HB3 := hide_ (HB2.out.trans hb3)
      clear hb3
      have hp := hide_ (pairs_yes (c := 0) (c' := 0) (n := 0) (L := []) (Rd.nil w3 2 none) (Rd.nil w3 2 none) rfl (by omega))
      go_wp2_with fail
      refine hp.out.mono ?_; rintro e w4 ⟨rfl, hb4⟩
      have HB4 := hide_ (HB3.out.trans hb4)
      clear hb4 hp
      go_wp2_with fail
      go_ret
      exact ⟨rfl, HB4.out⟩
    · exact absurd h H0.out
    · exact absurd h H0.out
  · have H0 := hide_ h0
    have HS := hide_ hs
    clear h0 hs
    go_wp2_with fail
    refine HH2.out.mono ?_; rintro e w2 ⟨h2, hb2⟩
    have HB2 := hide_ (HB1.out.trans hb2)
    rcases h2 with ⟨h, _⟩ | ⟨_, _, rfl⟩ | ⟨_, h, _⟩
    · exact absurd H0.out h
    · clear hb2 HH2
      go_wp2_with fail
      refine (awake_yes w2).mono ?_; rintro e w3 ⟨rfl, hb3⟩
      have HB3 := hide_ (HB2.out.trans hb3)
      clear hb3
      have hp := hide_ (pairs_yes (c := 0) (c' := 0) (n := 0) (L := []) (Rd.nil w3 2 none) (Rd.nil w3 2 none) rfl (by omega))
      go_wp2_with fail
      refine hp.out.mono ?_; rintro e w4 ⟨rfl, hb4⟩
      have HB4 := hide_ (HB3.out.trans hb4)
      clear hb4 hp
      go_wp2_with fail
      go_ret
      exact ⟨rfl, HB4.out⟩
    · exact absurd h HS.out
  · have H0 := hide_ h0
    have HS := hide_ hs
    obtain ⟨A1, c1, rfl⟩ := own_form ho
    have HM := hide_ hm; have HAP := hide_ hap; have HR1 := hide_ (Rd.of_own ho)
    clear h0 hs ho hm hap
    go_wp2_with fail
    refine HH2.out.mono ?_; rintro e w2 ⟨h2, hb2⟩
    have HB2 := hide_ (HB1.out.trans hb2)
    have HR2 := hide_ (HR1.out.below hb2)
    rcases h2 with ⟨h, _⟩ | ⟨_, h, _⟩ | ⟨_, _, A2, c2, m2, M2, rfl, hm2, _, hap2, hr2⟩
    · exact absurd H0.out h
    · exact absurd HS.out h
    · obtain rfl := app_fun HAP.out hap2
      obtain rfl : m = m2 := by rw [← HM.out, hm2]
      have HR3 := hide_ hr2
      clear hb2 HH2 hr2 hm2 hap2 HR1
      go_wp2_with fail
      refine (awake_yes w2).mono ?_; rintro e w3 ⟨rfl, hb3⟩
      have HB3 := hide_ (HB2.out.trans hb3)
      have hp := hide_ (pairs_yes (c := c1) (c' := c2) (HR2.out.below hb3) (HR3.out.below hb3) HM.out (by omega))
      clear hb3
      go_wp2_with fail
      refine hp.out.mono ?_; rintro e w4 ⟨rfl, hb4⟩
      have HB4 := hide_ (HB3.out.trans hb4)
      clear hb4 hp
      go_wp2_with fail
      go_ret
      exact ⟨rfl, HB4.out⟩
set_option maxRecDepth 20000 in
theorem changeApplies_contract (H : Type) (enc : TypeId × Value → H) (W : World) (base : Nat) (args : Array Value) (ds : List (DataW H)) (before : List MemPlace)
    (hval : ∀ (j : Nat) t v, Try.f3.params[j]? = some t → args[j]? = some v → Value.okWide Try.prog W .any base t v)
    (hA : DataW.TrodAll enc Try.prog W 0 (fun _ => true) true Try.f3.params.toList args.toList ds before)
    (_hsz : (DataW.weightsEach Try.prog (Try.f3.params.toList ++ Rows.changeAppliesSpec.plain.varTypes Try.prog) (ds ++ [])).all (· ≤ reachBytes) = true)
    (hk : Rows.uptoSmall H (ds ++ []) = true) :
    Calls Try.prog 3 args W fun e W' => e = .returned (.bool true) ∧ Below W.heap.size W W' := by
  rw [Try.params3] at hA hval
  obtain ⟨v0, vs0, d0, ds0, p0, q0, hargs, rfl, rfl, h0, r0⟩ := trodAll_cons hA
  obtain ⟨v1, vs1, d1, ds1, p1, q1, rfl, rfl, rfl, h1, r1⟩ := trodAll_cons r0
  obtain ⟨rfl, rfl, rfl⟩ := trodAll_nil r1
  obtain rfl : args = #[v0, v1] := by cases args; simp_all
  obtain ⟨A, c, L, rfl, _, _, hA1, hR, hb0⟩ := open_pairs (hval 0 22 v0 rfl rfl) h0
  obtain ⟨A', c', C, rfl, _, _, hA2, hR', hb1, _⟩ := open_changes (hval 1 23 v1 rfl rfl) h1
  have hb := bulk_bound hk
  have hs := sumM_length (fun a : Int × ByteArray × ByteArray => 0 + a.2.1.size + a.2.2.size + 3) C
  simp only [Rows.uptoBulkAll] at hb
  exact changeApplies_walk A A' L.length c C.length c' L C W hR rfl hA1 hR' rfl (by omega)

set_option maxRecDepth 100000 in
theorem changeApplies_lifted (os : Os) (started : os.Started) (H : Type) (enc : TypeId × Value → H) (F : Stop.Interp) :
    ReturnsInHanded {} Try.checked os 3 .any ((Rows.OpenSpec.upto Rows.changeAppliesSpec).pre6 enc Try.prog Try.f3 Rows.changeAppliesUptoRow.domain false) (((Rows.OpenSpec.upto Rows.changeAppliesSpec).at F).post enc Try.prog Try.f3 false true false false) := by
  refine returnsInHanded_of_cond_sized (C := Try.checked) (s := Rows.OpenSpec.upto Rows.changeAppliesSpec) (k := Rows.uptoSmall) rfl own started (by kernel_rfl) Try.func3
    (OpenSpec.witness (enc := enc) (C := Try.checked) (s := Rows.OpenSpec.upto Rows.changeAppliesSpec) (k := Rows.uptoSmall) rfl false ⟨#[], #[.slice none 0 0, .slice none 0 0], []⟩ 8 (by kernel_rfl) (by kernel_rfl) (by kernel_rfl)
      (x := ([.nil, .nil], [], [])) (by kernel_rfl) rfl (by kernel_rfl)) ?_
  intro W base args ds gs before hval hW _ hk hsz _
  have hW' := hW
  obtain ⟨p, q, hA0, hV, rfl, hfz, hnd⟩ := hW
  obtain ⟨rfl, rfl⟩ := trodVars_none hV
  have hA : DataW.TrodAll enc Try.prog W 0 (fun _ => true) true Try.f3.params.toList args.toList ds p := hA0
  refine (changeApplies_contract H enc W base args ds p hval hA hsz hk).mono fun e W' ⟨he, hb⟩ => ?_
  subst he
  have hds : ds.length = 2 := by
    rw [Try.params3] at hA
    obtain ⟨v0, vs0, d0, ds0, p0, q0, _, rfl, rfl, _, r0⟩ := trodAll_cons hA
    obtain ⟨v1, vs1, d1, ds1, p1, q1, _, rfl, rfl, _, r1⟩ := trodAll_cons r0
    obtain ⟨_, rfl, rfl⟩ := trodAll_nil r1
    rfl
  have hsh : ∃ d0 d1 : DataW H, ds = [d0, d1] := by
    match ds, hds with
    | [d0, d1], _ => exact ⟨d0, d1, rfl⟩
  obtain ⟨d0, d1, rfl⟩ := hsh
  exact ⟨_, rfl, post_law (s := Rows.changeAppliesSpec) laidOut (by kernel_rfl) Try.underlying4 rfl (by kernel_rfl) hW' rfl rfl rfl hb⟩
theorem changeApplies_over : Rows.changeAppliesUptoRow.holds Try.pinned (Rows.OpenSpec.upto Rows.changeAppliesSpec) :=
  OpenClaim.holds_of_cond 3 Try.f3 rfl rfl rfl rfl rfl rfl rfl ⟨rfl, rfl, rfl, rfl, rfl⟩ rfl rfl rfl rfl rfl (by kernel_rfl) Try.func3 (by kernel_rfl)
    (of_decide_eq_true (by kernel_rfl)) (by unfold Func.isWrapper; first | (rw [if_pos (by decide +kernel)]; kernel_rfl) | (rw [if_neg (by decide +kernel)]; exact ⟨rfl, rfl⟩))
    (fun os started H enc _ F => changeApplies_lifted os started H enc F)
/-- The statement. -/
theorem changeApplies_holds : Rows.ChangeAppliesUptoSaid := changeApplies_over
end Go.Proofs.Ytblljpdlmllceaa
