/-
  MarksWrites: for any changes what is written is known to be, at its version, till it is written anew or forgotten; it writes nothing that was there.
  Conditions: the arguments hold at most 1048576 values and letters (the second form).
-/
import Derived.Test.YtidlkomgondkiaaMarkLaw
namespace Go.Proofs.Ytidlkomgondkiaa
open Go.ChangeShapes Go.WideShapes Go.ChangeAt Go.RowKit
set_option linter.unusedVariables false
set_option linter.unusedSimpArgs false
set_option maxRecDepth 100000 in
set_option maxHeartbeats 16000000 in
theorem marksWrites_walk {w : World} (A1 A2 : Option Addr) (n1 c1 n2 c2 : Nat) (a b : List Chg) (s : Spn) (h1 : a.length = n1) (h2 : b.length = n2) (h3 : n1 ≤ 1048576) (h4 : n2 ≤ 1048576) (hR : Rd w 3 A1 n1 (crow a)) (hC : Rd w 3 A2 n2 (crow b)) :
    Calls Try.prog 8 #[.slice A1 n1 c1, .slice A2 n2 c2, .agg #[.string s.1, .string s.2]] w fun e w' => e = .returned (.bool true) ∧ Below w.heap.size w w' := by
  have HR := hide_ hR; have HC := hide_ hC; have H1 := hide_ h1; have H2 := hide_ h2
  have hx := heap_alloc_new w (.cells #[.string s.1, .string s.2] 24)
  have hb0 := later_alloc w (.cells #[.string s.1, .string s.2] 24)
  obtain ⟨W0, hW0⟩ : ∃ W0, W0 = w.alloc (.cells #[.string s.1, .string s.2] 24) := ⟨_, rfl⟩
  have HW := hide_ hW0.symm
  rw [← hW0] at hx hb0
  have HX := hide_ hx; have HB0 := hide_ hb0
  have HBS := hide_ (show w.heap.size < W0.heap.size from heap_lt0 hx)
  clear hR hC h1 h2 hx hb0 hW0
  go_enter Try.func8, Try.ntmps8
  go_wp2_with (rw [HW.out])
  refine (new_any _ _).mono ?_; rintro e w1 ⟨rfl, hm, hb1⟩
  have hm : MarksAt w1 W0.heap.size (.slice none 0 0) 3 0 := hm
  have HMK := hide_ (mk_new hm)
  have HMA := hide_ hm
  have HB1 := hide_ (HB0.out.trans hb1)
  have HX1 := hide_ (later_row hb1 HX.out)
  clear hm hb1
  go_wp2_with fail
  obtain ⟨r0, r1, hl2⟩ := alloc2_at w1 (.cells #[.int .i64 0, .slice none 0 0, .slice A1 n1 c1] 32) (.cells #[.int .i64 0, .slice none 0 0, .slice A2 n2 c2] 32)
  obtain ⟨W2, hW2⟩ : ∃ W2, W2 = ((w1.alloc (.cells #[.int .i64 0, .slice none 0 0, .slice A1 n1 c1] 32)).alloc (.cells #[.int .i64 0, .slice none 0 0, .slice A2 n2 c2] 32)) := ⟨_, rfl⟩
  rw [← hW2] at r0 r1 hl2 ⊢
  have HT2 := hide_ r0; have HU2 := hide_ r1; have HL2 := hide_ (HB1.out.trans hl2); have HX2 := hide_ (later_row hl2 HX1.out)
  have HMK2 := hide_ (HMK.out.below hl2)
  clear hW2 r0 r1 hl2
  refine (awake_yes _).mono ?_; rintro e w3 ⟨rfl, hb3⟩
  have t0 := later_row hb3 HT2.out
  have HT3 := hide_ t0; have HU3 := hide_ (later_row hb3 HU2.out); have HX3 := hide_ (later_row hb3 HX2.out)
  have p0 := cell_of_row _ _ 0 _ _ (0, 0) t0
  have p1 := cell_of_row _ _ 1 _ _ (0, 0) t0
  have p2 := cell_of_row _ _ 2 _ _ (0, 0) t0
  have HB3 := hide_ (HL2.out.trans hb3); have HMK3 := hide_ (HMK2.out.below hb3)
  have htx := hide_ (rtxn_any (c := 0) (c' := c1) (r := 0) (Rd.nil w3 2 none) (R := []) rfl (HR.out.below HB3.out) H1.out (by omega) h3)
  clear hb3 t0
  go_wp2_with fail
  refine htx.out.mono ?_; rintro e w4 ⟨rfl, hb4⟩
  have HB4 := hide_ (HB3.out.trans hb4); have HMK4 := hide_ (HMK3.out.below hb4)
  have u0 := later_row hb4 HU3.out
  have HT4 := hide_ (later_row hb4 HT3.out); have HU4 := hide_ u0; have HX4 := hide_ (later_row hb4 HX3.out)
  by_cases hs1 : soundT (0, [], a) = true
  · rw [hs1]
    have q0 := cell_of_row _ _ 0 _ _ (0, 0) u0
    have q1 := cell_of_row _ _ 1 _ _ (0, 0) u0
    have q2 := cell_of_row _ _ 2 _ _ (0, 0) u0
    have hty := hide_ (rtxn_any (c := 0) (c' := c2) (r := 0) (Rd.nil w4 2 none) (R := []) rfl (HC.out.below HB4.out) H2.out (by omega) h4)
    have HS1 := hide_ hs1
    clear hb4 u0 p0 p1 p2 htx hs1
    go_wp2_with fail
    refine hty.out.mono ?_; rintro e w5 ⟨rfl, hb5⟩
    have HB5 := hide_ (HB4.out.trans hb5); have HMK5 := hide_ (HMK4.out.below hb5)
    have t0 := later_row hb5 HT4.out
    have HT5 := hide_ t0; have HU5 := hide_ (later_row hb5 HU4.out); have HX5 := hide_ (later_row hb5 HX4.out)
    by_cases hs2 : soundT (0, [], b) = true
    · rw [hs2]
      have p0 := cell_of_row _ _ 0 _ _ (0, 0) t0
      have p1 := cell_of_row _ _ 1 _ _ (0, 0) t0
      have p2 := cell_of_row _ _ 2 _ _ (0, 0) t0
      have HSB := hide_ hs2
      clear hb5 t0 hty hs2 q0 q1 q2
      go_wp2_with fail
      have hal := later_alloc w5 (.cells #[.int .i64 0, .slice none 0 0, .slice A1 n1 c1] 32)
      have hrow := txRow_one (heap_alloc_new w5 (.cells #[.int .i64 0, .slice none 0 0, .slice A1 n1 c1] 32)) (R := []) rfl H1.out (by omega) h3 (Rd.nil _ _ _) (HR.out.below (HB5.out.trans hal))
      have hmk6 := HMK5.out.below hal
      obtain ⟨Am, nm, cm, hma, hmo, hml⟩ := hmk6
      have hst := hrow.stayM hma
      refine (judges_any (ct := 1) 10 (HMK5.out.below hal) (by simp) ⟨trivial, by omega, fun k hk => (by cases hk)⟩ (by omega) hst (by omega)).mono ?_; rintro e w6 hj
      rcases hj with ⟨h, _⟩ | ⟨_, h, _⟩ | ⟨_, _, hso, Av, nv, cv, V, M, m, rfl, hJ, hV, hVo, hMK, hG⟩
      · exact absurd h (by omega)
      · exact absurd ⟨by simp, by rw [List.all_cons, HS1.out]; rfl⟩ h
      have hfa := fit_all hJ ⟨trivial, by omega, fun k hk => (by cases hk)⟩ (by omega) (fun t2 h2 => (soundT_iff.1 (List.all_eq_true.1 hso t2 h2)).2.2.1)
      have HFA := hide_ hfa; have HJ := hide_ hJ
      have HG6 := hide_ (grown_trans (grown_later hal (some W0.heap.size)) hG (.inl rfl))
      have HB6 := hide_ (later_of_grown HB5.out HG6.out HB0.out.size)
      have HMK6 := hide_ hMK
      have hx6 := (HG6.out.block _ (heap_lt0 HX5.out) (fun e => by have := Option.some.inj e; have := HBS.out; omega)).trans HX5.out
      have x0 := cell_of_row _ _ 0 _ _ (0, 0) hx6
      have x1 := cell_of_row _ _ 1 _ _ (0, 0) hx6
      have HX6 := hide_ hx6
      have HU6 := hide_ ((HG6.out.block _ (heap_lt0 HU5.out) (fun e => by have := Option.some.inj e; have := heap_lt0 HMA.out; omega)).trans HU5.out)
      have hm1 : M.length ≤ 1048 := by have := hfa.2.2.2; simp at this; omega
      have hla := hide_ (last_mk s hMK (by omega))
      clear hal hrow hma hmo hml hst hJ hV hVo hMK hG hfa hx6 hso p0 p1 p2
      go_wp2_with fail
      refine hla.out.mono ?_; rintro e w7 ⟨rfl, hb7⟩
      have HB7 := hide_ (HB6.out.trans hb7); have HMK7 := hide_ (HMK6.out.below hb7); have HX7 := hide_ (later_row hb7 HX6.out)
      have u0 := later_row hb7 HU6.out
      have q0 := cell_of_row _ _ 0 _ _ (0, 0) u0
      have q1 := cell_of_row _ _ 1 _ _ (0, 0) u0
      have q2 := cell_of_row _ _ 2 _ _ (0, 0) u0
      clear hla hb7 u0 x0 x1
      go_wp2_with fail
      have hal := later_alloc w7 (.cells #[.int .i64 0, .slice none 0 0, .slice A2 n2 c2] 32)
      have hrow := txRow_one (heap_alloc_new w7 (.cells #[.int .i64 0, .slice none 0 0, .slice A2 n2 c2] 32)) (R := []) rfl H2.out (by omega) h4 (Rd.nil _ _ _) (HC.out.below (HB7.out.trans hal))
      have hmk6 := HMK7.out.below hal
      obtain ⟨Am, nm, cm, hma, hmo, hml⟩ := hmk6
      have hst := hrow.stayM hma
      refine (judges_any (ct := 1) 20 (HMK7.out.below hal) (by omega) HFA.out.1 (by omega) hst (by omega)).mono ?_; rintro e w8 hj
      rcases hj with ⟨h, _⟩ | ⟨_, h, _⟩ | ⟨_, _, hso, Av2, nv2, cv2, V2, N, n, rfl, hJ2, hV2, hVo2, hMK2, hG2⟩
      · exact absurd h (by have := HFA.out.2.1; omega)
      · exact absurd ⟨by simp, by rw [List.all_cons, HSB.out]; rfl⟩ h
      have hfb := fit_all hJ2 HFA.out.1 (by have := HFA.out.2.1; omega) (fun t2 h2 => (soundT_iff.1 (List.all_eq_true.1 hso t2 h2)).2.2.1)
      have HFB := hide_ hfb
      have HPL := hide_ (writes_plain (s := s) HJ.out hJ2)
      have HG8 := hide_ (grown_trans (grown_later hal (some W0.heap.size)) hG2 (.inl rfl))
      have HB8 := hide_ (later_of_grown HB7.out HG8.out HB0.out.size)
      have HMK8 := hide_ hMK2
      have hx8 := (HG8.out.block _ (heap_lt0 HX7.out) (fun e => by have := Option.some.inj e; have := HBS.out; omega)).trans HX7.out
      have x0 := cell_of_row _ _ 0 _ _ (0, 0) hx8
      have x1 := cell_of_row _ _ 1 _ _ (0, 0) hx8
      have HX8 := hide_ hx8
      have hn1 : N.length ≤ 2048 := by have := hfb.2.2.2; simp at this; omega
      have hla := hide_ (last_mk s hMK2 (by omega))
      clear hal hrow hma hmo hml hst hJ2 hV2 hVo2 hMK2 hG2 hfb hx8 hso q0 q1 q2
      go_wp2_with fail
      refine hla.out.mono ?_; rintro e w9 ⟨rfl, hb9⟩
      have HB9 := hide_ (HB8.out.trans hb9); have HMK9 := hide_ (HMK8.out.below hb9); have HX9 := hide_ (later_row hb9 HX8.out)
      clear hla hb9 x0 x1
      obtain ⟨hxy, hno⟩ := HPL.out
      have HNO := hide_ hno
      clear hno
      rcases hxy with ⟨ex, ey, ez⟩ | ⟨ex, ey, ez⟩ | ⟨ex, ey, ez⟩ | ⟨ex, ey, ez⟩
      all_goals
        rw [ex, ey]
        have HEZ := hide_ ez
        clear ex ey ez
        go_wp2_with fail
        refine (forget_any 10 HMK9.out (by omega)).mono ?_; rintro e w10 ⟨h10, hT10⟩
        rcases h10 with ⟨h, _⟩ | ⟨_, rfl, hMK10⟩
        · exact absurd h (by omega)
        have HMK10 := hide_ hMK10
        have HB10 := hide_ (show Later w w10 from Below.trans (B := w.heap.size) HB9.out (hT10.below.mono HB0.out.size))
        have hx10 := (hT10.block _ HBS.out).trans HX9.out
        have x0 := cell_of_row _ _ 0 _ _ (0, 0) hx10
        have x1 := cell_of_row _ _ 1 _ _ (0, 0) hx10
        have HX10 := hide_ hx10
        have hf1 : (N.filter (newer 10)).length ≤ 2048 := Nat.le_trans (List.length_filter_le _ _) hn1
        have hla := hide_ (last_mk s hMK10 (by omega))
        clear hMK10 hT10 hx10
        go_wp2_with fail
        refine hla.out.mono ?_; rintro e w11 ⟨rfl, hb11⟩
        rw [HEZ.out]
        have HB11 := hide_ (HB10.out.trans hb11); have HMK11 := hide_ (HMK10.out.below hb11); have HX11 := hide_ (later_row hb11 HX10.out)
        clear hla hb11 x0 x1
        go_wp2_with fail
        refine (forget_any 20 HMK11.out (by omega)).mono ?_; rintro e w12 ⟨h12, hT12⟩
        rcases h12 with ⟨h, _⟩ | ⟨_, rfl, hMK12⟩
        · exact absurd h (by omega)
        rw [HNO.out] at hMK12
        have HMK12 := hide_ hMK12
        have HB12 := hide_ (show Later w w12 from Below.trans (B := w.heap.size) HB11.out (hT12.below.mono HB0.out.size))
        have HX12 := hide_ ((hT12.block _ HBS.out).trans HX11.out)
        clear hMK12 hT12
        go_wp2_with fail
        refine (size_any HMK12.out trivial (by simp)).mono ?_; rintro e w13 ⟨rfl, hb13⟩
        have hx13 := later_row hb13 HX12.out
        have x0 := cell_of_row _ _ 0 _ _ (0, 0) hx13
        have x1 := cell_of_row _ _ 1 _ _ (0, 0) hx13
        rw [show runs [] = 0 from rfl]
        have HB13 := hide_ (HB12.out.trans hb13); have HMK13 := hide_ (HMK12.out.below hb13)
        have hla := hide_ (last_mk s HMK13.out (by simp))
        clear hb13 hx13
        go_wp2_with fail
        refine hla.out.mono ?_; rintro e w14 ⟨rfl, hb14⟩
        rw [show lastL [] s = 0 from rfl]
        have HB14 := hide_ (HB13.out.trans hb14)
        clear hla hb14 x0 x1
        go_wp2_with fail
        go_ret
        exact ⟨rfl, HB14.out⟩
    · have hs2' : soundT (0, [], b) = false := by simpa using hs2
      rw [hs2']
      clear hb5 t0 hty hs2 hs2' q0 q1 q2
      go_wp2_with fail
      refine (awake_yes _).mono ?_; rintro e w6 ⟨rfl, hb6⟩
      have HB6 := hide_ (HB5.out.trans hb6)
      clear hb6
      go_wp2_with fail
      go_ret
      exact ⟨rfl, HB6.out⟩
  · have hs1' : soundT (0, [], a) = false := by simpa using hs1
    rw [hs1']
    clear hb4 u0 p0 p1 p2 htx hs1 hs1'
    go_wp2_with fail
    refine (awake_yes _).mono ?_; rintro e w5 ⟨rfl, hb5⟩
    have HB5 := hide_ (HB4.out.trans hb5)
    clear hb5
    go_wp2_with fail
    go_ret
    exact ⟨rfl, HB5.out⟩
set_option maxRecDepth 20000 in
theorem mopen_changes {H : Type} {enc : TypeId × Value → H} {W : World} {b base : Nat} {held : Bool} {r : Reach} {v : Value} {d : DataW H} {p : List MemPlace} (hv : Value.okWide Try.prog W r base 30 v) (h : DataW.Trod enc Try.prog W b (fun _ => true) held 30 v d p) (hb : Rows.uptoBulk d ≤ 1048576) :
    ∃ (A : Option Addr) (c : Nat) (C : List Chg), v = .slice A C.length c ∧ C.length ≤ 1048576 ∧ Rd W 3 A C.length (crow C) := by
  obtain ⟨C, hL, hbl⟩ := open_sh mopens_changes Try.underlying30 hv h
  have hlen := sumM_length (fun a : Int × ByteArray × ByteArray => 0 + a.2.1.size + a.2.2.size + 3) C
  obtain ⟨A, c, rfl, _, _, _, r2⟩ := rd_of_sh (enc := encC) encC_len (by omega) (fun cs x hx => by
    obtain ⟨u0, u1, u2, rfl, ⟨e0, _⟩, ⟨e1, _⟩, ⟨e2, _⟩⟩ := hx
    injection e0 with e0; injection e1 with e1; injection e2 with e2
    subst e0 e1 e2; rfl) hL
  exact ⟨A, c, C, rfl, by omega, r2⟩
set_option maxRecDepth 20000 in
theorem marksWrites_contract (H : Type) (enc : TypeId × Value → H) (W : World) (base : Nat) (args : Array Value) (ds : List (DataW H)) (before : List MemPlace)
    (hval : ∀ (j : Nat) t v, Try.f8.params[j]? = some t → args[j]? = some v → Value.okWide Try.prog W .any base t v)
    (hA : DataW.TrodAll enc Try.prog W 0 (fun _ => true) true Try.f8.params.toList args.toList ds before)
    (_hsz : (DataW.weightsEach Try.prog (Try.f8.params.toList ++ Rows.marksWritesSpec.plain.varTypes Try.prog) (ds ++ [])).all (· ≤ reachBytes) = true)
    (hk : Rows.uptoSmall H (ds ++ []) = true) :
    Calls Try.prog 8 args W fun e W' => e = .returned (.bool true) ∧ Below W.heap.size W W' := by
  rw [Try.params8] at hA hval
  obtain ⟨v0, vs0, d0, ds0, p0, q0, hargs, rfl, rfl, h0, r0⟩ := trodAll_cons hA
  obtain ⟨v1, vs1, d1, ds1, p1, q1, rfl, rfl, rfl, h1, r1⟩ := trodAll_cons r0
  obtain ⟨v2, vs2, d2, ds2, p2, q2, rfl, rfl, rfl, h2, r2⟩ := trodAll_cons r1
  obtain ⟨rfl, rfl, rfl⟩ := trodAll_nil r2
  obtain rfl : args = #[v0, v1, v2] := by cases args; simp_all
  have hbb := bulk_bound hk
  have hb0 := bulk_mem (d := d0) (l := [d0, d1, d2]) (by simp)
  have hb1 := bulk_mem (d := d1) (l := [d0, d1, d2]) (by simp)
  obtain ⟨A1, c1, a, rfl, h3, hR⟩ := mopen_changes (hval 0 30 v0 rfl rfl) h0 (by omega)
  obtain ⟨A2, c2, b, rfl, h4, hC⟩ := mopen_changes (hval 1 30 v1 rfl rfl) h1 (by omega)
  obtain ⟨s, rfl, _, _⟩ := open_span (hval 2 24 v2 rfl rfl) h2
  exact marksWrites_walk A1 A2 _ c1 _ c2 a b s rfl rfl h3 h4 hR hC

set_option maxRecDepth 100000 in
theorem marksWrites_lifted (os : Os) (started : os.Started) (H : Type) (enc : TypeId × Value → H) (F : Stop.Interp) :
    ReturnsInHanded {} Try.checked os 8 .any ((Rows.OpenSpec.upto Rows.marksWritesSpec).pre6 enc Try.prog Try.f8 Rows.marksWritesUptoRow.domain false) (((Rows.OpenSpec.upto Rows.marksWritesSpec).at F).post enc Try.prog Try.f8 false true false false) := by
  refine returnsInHanded_of_cond_sized (C := Try.checked) (s := Rows.OpenSpec.upto Rows.marksWritesSpec) (k := Rows.uptoSmall) rfl own started (by kernel_rfl) Try.func8
    (OpenSpec.witness (enc := enc) (C := Try.checked) (s := Rows.OpenSpec.upto Rows.marksWritesSpec) (k := Rows.uptoSmall) rfl false ⟨#[], #[.slice none 0 0, .slice none 0 0, .agg #[.string ByteArray.empty, .string ByteArray.empty]], []⟩ 8 (by kernel_rfl) (by kernel_rfl) (by kernel_rfl)
      (x := ([.nil, .nil, .agg [.lit (.string []), .lit (.string [])]], [], [])) (by kernel_rfl) rfl (by kernel_rfl)) ?_
  intro W base args ds gs before hval hW _ hk hsz _
  have hW' := hW
  obtain ⟨p, q, hA0, hV, rfl, hfz, hnd⟩ := hW
  obtain ⟨rfl, rfl⟩ := trodVars_none hV
  have hA : DataW.TrodAll enc Try.prog W 0 (fun _ => true) true Try.f8.params.toList args.toList ds p := hA0
  refine (marksWrites_contract H enc W base args ds p hval hA hsz hk).mono fun e W' ⟨he, hb⟩ => ?_
  subst he
  have hds : ds.length = 3 := by
    rw [Try.params8] at hA
    obtain ⟨v0, vs0, d0, ds0, p0, q0, _, rfl, rfl, _, r0⟩ := trodAll_cons hA
    obtain ⟨v1, vs1, d1, ds1, p1, q1, _, rfl, rfl, _, r1⟩ := trodAll_cons r0
    obtain ⟨v2, vs2, d2, ds2, p2, q2, _, rfl, rfl, _, r2⟩ := trodAll_cons r1
    obtain ⟨_, rfl, rfl⟩ := trodAll_nil r2
    rfl
  have hsh : ∃ d0 d1 d2 : DataW H, ds = [d0, d1, d2] := by
    match ds, hds with
    | [d0, d1, d2], _ => exact ⟨d0, d1, d2, rfl⟩
  obtain ⟨d0, d1, d2, rfl⟩ := hsh
  exact ⟨_, rfl, post_law (s := Rows.marksWritesSpec) laidOut (by kernel_rfl) Try.underlying4 rfl (by kernel_rfl) hW' rfl rfl rfl hb⟩
theorem marksWrites_over : Rows.marksWritesUptoRow.holds Try.pinned (Rows.OpenSpec.upto Rows.marksWritesSpec) :=
  OpenClaim.holds_of_cond 8 Try.f8 rfl rfl rfl rfl rfl rfl rfl ⟨rfl, rfl, rfl, rfl, rfl⟩ rfl rfl rfl rfl rfl (by kernel_rfl) Try.func8 (by kernel_rfl)
    (of_decide_eq_true (by kernel_rfl)) (by unfold Func.isWrapper; first | (rw [if_pos (by decide +kernel)]; kernel_rfl) | (rw [if_neg (by decide +kernel)]; exact ⟨rfl, rfl⟩))
    (fun os started H enc _ F => marksWrites_lifted os started H enc F)
/-- The statement. -/
theorem marksWrites_holds : Rows.MarksWritesUptoSaid := marksWrites_over
end Go.Proofs.Ytidlkomgondkiaa
