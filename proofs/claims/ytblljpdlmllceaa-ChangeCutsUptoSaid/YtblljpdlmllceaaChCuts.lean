/-
  ChangeCuts: for any span and changes, of bulk at most 1048576, the program's Cut is the document's; it writes nothing that was there.
  Conditions: none but the row's own.
-/
import Derived.Test.YtblljpdlmllceaaRefCut
import Derived.Test.YtblljpdlmllceaaSameC
namespace Go.Proofs.Ytblljpdlmllceaa
open Go.ChangeShapes Go.WideShapes Go.ChangeAt Go.RowKit
set_option linter.unusedVariables false
set_option linter.unusedSimpArgs false
set_option maxHeartbeats 2000000 in
theorem changeCuts_walk (s : Spn) (A : Option Addr) (p c : Nat) (C : List Chg) (w : World) (hr : Rd w 3 A p (crow C)) (hl : C.length = p) (hn : p ≤ 1048576) (hs1 : s.1.size ≤ maxLen) (hs2 : s.2.size ≤ maxLen) :
    Calls Try.prog 6 #[.agg #[.string s.1, .string s.2], .slice A p c] w fun e w' => e = .returned (.bool true) ∧ Below w.heap.size w w' := by
  obtain ⟨W0, hW0⟩ : ∃ W0, W0 = w.alloc (.cells #[.string s.1, .string s.2] 34) := ⟨_, rfl⟩
  have hbs : W0.heap[w.heap.size]? = some (.cells #[.string s.1, .string s.2] 34 (0, 0)) := by rw [hW0]; exact heap_alloc_new w _
  have HBS := hide_ hbs
  have HB0 := hide_ (show Later w W0 by rw [hW0]; exact later_alloc _ _)
  have HW := hide_ hW0.symm
  have HR := hide_ (hr.below HB0.out)
  have hcut := hide_ (fun (w1 : World) (hb : Later W0 w1) => cut_any (c := c) s (HR.out.below hb) hl hn hs1 hs2)
  have hra := hide_ (fun (w1 : World) (hb : Later W0 w1) => rall_any (c := c) (HR.out.below hb) hl (by omega))
  have hrc := hide_ (fun (w1 : World) (hb : Later W0 w1) (h0 : chkAll C = 0) => rcut_any (c := c) s (HR.out.below hb) hl hn h0)
  have hn2 : (p : Int) ≤ 1048576 := by omega
  unfold maxLen at hs1 hs2
  clear hr hl hW0 hbs
  go_enter Try.func6, Try.ntmps6
  go_wp2_with fail
  rw [HW.out]
  clear HW
  refine (hcut.out W0 (Later.refl _)).mono ?_; rintro e w1 ⟨h1, hb1⟩
  have HB1 := hide_ hb1
  clear hb1 hcut
  rcases h1 with ⟨h0, rfl⟩ | ⟨h0, hlg, rfl⟩ | ⟨h0, hz1, hz2, u, m, rfl, hm, hmp, ho⟩
  · have H0 := hide_ h0
    have h0' : ¬ (0 : Int) = chkAll C := fun h => h0 h.symm
    have h0b : (chkAll C == 0) = false := beq_eq_false_iff_ne.2 h0
    clear h0
    go_wp2_with fail
    refine (hra.out w1 HB1.out).mono ?_; rintro e w2 ⟨rfl, hb2⟩
    have HB2 := hide_ (Later.trans HB1.out hb2)
    clear hb2
    go_wp2_with fail
    refine (awake_yes w2).mono ?_; rintro e w3 ⟨rfl, hb3⟩
    have HB3 := hide_ (Later.trans HB2.out hb3)
    clear hb3
    go_wp2_with fail
    go_ret
    exact ⟨rfl, Later.trans HB0.out HB3.out⟩
  · go_wp2_with fail
    refine (hra.out w1 HB1.out).mono ?_; rintro e w2 ⟨rfl, hb2⟩
    have HB2 := hide_ (Later.trans HB1.out hb2)
    have hsx := (HB2.out.block w.heap.size (heap_lt0 HBS.out)).trans HBS.out
    have y0 := cell_of_row _ _ 0 _ _ (0, 0) hsx
    have y1 := cell_of_row _ _ 1 _ _ (0, 0) hsx
    rw [h0]
    clear hb2 h0 hsx
    rcases Nat.lt_or_ge 17 s.1.size with hg1 | hg1
    case' inl =>
      have g1 : (17 : Int) < (s.1.size : Int) := by omega
    case' inr =>
      have g1 : ¬ (17 : Int) < (s.1.size : Int) := by omega
      have g2 : (17 : Int) < (s.2.size : Int) := by omega
    all_goals
      clear hlg hg1
      go_wp2_with fail
      refine (awake_yes w2).mono ?_; rintro e w3 ⟨rfl, hb3⟩
      have HB3 := hide_ (Later.trans HB2.out hb3)
      clear hb3 y0 y1
      go_wp2_with fail
      go_ret
      exact ⟨rfl, Later.trans HB0.out HB3.out⟩
  · obtain ⟨A1, c1, rfl⟩ := own_form ho
    have H0 := hide_ h0
    have HM := hide_ hm
    have HR1 := hide_ (Rd.of_own ho)
    have hz1' : ¬ (17 : Int) < (s.1.size : Int) := by omega
    have hz2' : ¬ (17 : Int) < (s.2.size : Int) := by omega
    have hm2 : (m : Int) ≤ 1048576 := by omega
    clear ho h0 hm hs1 hs2 hz1 hz2
    go_wp2_with fail
    refine (hra.out w1 HB1.out).mono ?_; rintro e w2 ⟨rfl, hb2⟩
    have HB2 := hide_ (Later.trans HB1.out hb2)
    have HR2 := hide_ (HR1.out.below hb2)
    have hsx := (HB2.out.block w.heap.size (heap_lt0 HBS.out)).trans HBS.out
    have y0 := cell_of_row _ _ 0 _ _ (0, 0) hsx
    have y1 := cell_of_row _ _ 1 _ _ (0, 0) hsx
    rw [H0.out]
    clear hb2 hsx
    go_wp2_with fail
    refine (awake_yes w2).mono ?_; rintro e w3 ⟨rfl, hb3⟩
    have HB3 := hide_ (Later.trans HB2.out hb3)
    have HR3 := hide_ (HR2.out.below hb3)
    have hsx := (HB3.out.block w.heap.size (heap_lt0 HBS.out)).trans HBS.out
    have y0 := cell_of_row _ _ 0 _ _ (0, 0) hsx
    have y1 := cell_of_row _ _ 1 _ _ (0, 0) hsx
    clear hb3 hsx
    go_wp2_with fail
    refine (hrc.out w3 HB3.out H0.out).mono ?_; rintro e w4 ⟨⟨u4, m4, rfl, hm4, _, ho4⟩, hb4⟩
    obtain ⟨A4, c4, rfl⟩ := own_form ho4
    obtain rfl : m4 = m := by rw [← hm4, HM.out]
    have HB4 := hide_ (Later.trans HB3.out hb4)
    have HR4 := hide_ (HR3.out.below hb4)
    have HO4 := hide_ (Rd.of_own ho4)
    clear hm4 ho4 hb4 y0 y1
    go_wp2_with fail
    refine (csame_yes HR4.out HO4.out HM.out (by omega)).mono ?_; rintro e w5 ⟨rfl, hb5⟩
    have HB5 := hide_ (Later.trans HB4.out hb5)
    clear hb5
    go_wp2_with fail
    go_ret
    exact ⟨rfl, Later.trans HB0.out HB5.out⟩
set_option maxRecDepth 20000 in
theorem changeCuts_contract (H : Type) (enc : TypeId × Value → H) (W : World) (base : Nat) (args : Array Value) (ds : List (DataW H)) (before : List MemPlace)
    (hval : ∀ (j : Nat) t v, Try.f6.params[j]? = some t → args[j]? = some v → Value.okWide Try.prog W .any base t v)
    (hA : DataW.TrodAll enc Try.prog W 0 (fun _ => true) true Try.f6.params.toList args.toList ds before)
    (_hsz : (DataW.weightsEach Try.prog (Try.f6.params.toList ++ Rows.changeCutsSpec.plain.varTypes Try.prog) (ds ++ [])).all (· ≤ reachBytes) = true)
    (hk : Rows.uptoSmall H (ds ++ []) = true) :
    Calls Try.prog 6 args W fun e W' => e = .returned (.bool true) ∧ Below W.heap.size W W' := by
  rw [Try.params6] at hA hval
  obtain ⟨v0, vs0, d0, ds0, p0, q0, hargs, rfl, rfl, h0, r0⟩ := trodAll_cons hA
  obtain ⟨v1, vs1, d1, ds1, p1, q1, rfl, rfl, rfl, h1, r1⟩ := trodAll_cons r0
  obtain ⟨rfl, rfl, rfl⟩ := trodAll_nil r1
  obtain rfl : args = #[v0, v1] := by cases args; simp_all
  obtain ⟨s, rfl, hz1, hz2⟩ := open_span (hval 0 34 v0 rfl rfl) h0
  obtain ⟨A', c', C, rfl, _, _, hA2, hR', hb1, _⟩ := open_changes (hval 1 23 v1 rfl rfl) h1
  have hb := bulk_bound hk
  have hs := sumM_length (fun a : Int × ByteArray × ByteArray => 0 + a.2.1.size + a.2.2.size + 3) C
  simp only [Rows.uptoBulkAll] at hb
  exact changeCuts_walk s A' C.length c' C W hR' rfl (by omega) hz1 hz2

set_option maxRecDepth 100000 in
theorem changeCuts_lifted (os : Os) (started : os.Started) (H : Type) (enc : TypeId × Value → H) (F : Stop.Interp) :
    ReturnsInHanded {} Try.checked os 6 .any ((Rows.OpenSpec.upto Rows.changeCutsSpec).pre6 enc Try.prog Try.f6 Rows.changeCutsUptoRow.domain false) (((Rows.OpenSpec.upto Rows.changeCutsSpec).at F).post enc Try.prog Try.f6 false true false false) := by
  refine returnsInHanded_of_cond_sized (C := Try.checked) (s := Rows.OpenSpec.upto Rows.changeCutsSpec) (k := Rows.uptoSmall) rfl own started (by kernel_rfl) Try.func6
    (OpenSpec.witness (enc := enc) (C := Try.checked) (s := Rows.OpenSpec.upto Rows.changeCutsSpec) (k := Rows.uptoSmall) rfl false ⟨#[], #[.agg #[.string ByteArray.empty, .string ByteArray.empty], .slice none 0 0], []⟩ 8 (by kernel_rfl) (by kernel_rfl) (by kernel_rfl)
      (x := ([.agg [.lit (.string []), .lit (.string [])], .nil], [], [])) (by kernel_rfl) rfl (by kernel_rfl)) ?_
  intro W base args ds gs before hval hW _ hk hsz _
  have hW' := hW
  obtain ⟨p, q, hA0, hV, rfl, hfz, hnd⟩ := hW
  obtain ⟨rfl, rfl⟩ := trodVars_none hV
  have hA : DataW.TrodAll enc Try.prog W 0 (fun _ => true) true Try.f6.params.toList args.toList ds p := hA0
  refine (changeCuts_contract H enc W base args ds p hval hA hsz hk).mono fun e W' ⟨he, hb⟩ => ?_
  subst he
  have hds : ds.length = 2 := by
    rw [Try.params6] at hA
    obtain ⟨v0, vs0, d0, ds0, p0, q0, _, rfl, rfl, _, r0⟩ := trodAll_cons hA
    obtain ⟨v1, vs1, d1, ds1, p1, q1, _, rfl, rfl, _, r1⟩ := trodAll_cons r0
    obtain ⟨_, rfl, rfl⟩ := trodAll_nil r1
    rfl
  have hsh : ∃ d0 d1 : DataW H, ds = [d0, d1] := by
    match ds, hds with
    | [d0, d1], _ => exact ⟨d0, d1, rfl⟩
  obtain ⟨d0, d1, rfl⟩ := hsh
  exact ⟨_, rfl, post_law (s := Rows.changeCutsSpec) laidOut (by kernel_rfl) Try.underlying4 rfl (by kernel_rfl) hW' rfl rfl rfl hb⟩
theorem changeCuts_over : Rows.changeCutsUptoRow.holds Try.pinned (Rows.OpenSpec.upto Rows.changeCutsSpec) :=
  OpenClaim.holds_of_cond 6 Try.f6 rfl rfl rfl rfl rfl rfl rfl ⟨rfl, rfl, rfl, rfl, rfl⟩ rfl rfl rfl rfl rfl (by kernel_rfl) Try.func6 (by kernel_rfl)
    (of_decide_eq_true (by kernel_rfl)) (by unfold Func.isWrapper; first | (rw [if_pos (by decide +kernel)]; kernel_rfl) | (rw [if_neg (by decide +kernel)]; exact ⟨rfl, rfl⟩))
    (fun os started H enc _ F => changeCuts_lifted os started H enc F)
/-- The statement. -/
theorem changeCuts_holds : Rows.ChangeCutsUptoSaid := changeCuts_over
end Go.Proofs.Ytblljpdlmllceaa
