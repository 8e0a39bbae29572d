/-
  RefereeEpochs: for any transactions and epochs who begins a later epoch knows nothing of an elder one, and an elder one does not begin again; it writes nothing that was there.
  Conditions: the arguments hold at most 1048576 values and letters (the second form).
-/
import Derived.Test.YtidlkomgondkiaaRAw
import Derived.Test.YtidlkomgondkiaaMOpen
namespace Go.Proofs.Ytidlkomgondkiaa
open Go.ChangeShapes Go.WideShapes Go.ChangeAt Go.RowKit
set_option linter.unusedVariables false
set_option linter.unusedSimpArgs false
theorem begin_more {w w' : World} {R0 : Nat} {E V e v : Int} {J : Bool} {mv tv : Value} {en : Ending} (h : BeginPost R0 E V e v mv J tv w en w') (hR : R0 < w.heap.size) (h1 : 1 ≤ e) (h2 : 0 ≤ v) (h3 : E < e) : en = .returned (.int .i64 0) ∧ RS w' R0 e v false [] [] v 0 ∧ w.grownBy w' (some R0) := by
  rcases h with ⟨⟨h, _⟩, _⟩ | ⟨⟨_, h, _⟩, _⟩ | ⟨⟨_, h, _⟩, _⟩ | ⟨h3, _, he, hr, hm, hg⟩
  · omega
  · omega
  · omega
  · exact ⟨he, rs_begin hr hR hm h3, hg⟩
theorem begin_old {w w' : World} {R0 : Nat} {E V e v : Int} {J : Bool} {mv tv : Value} {en : Ending} (h : BeginPost R0 E V e v mv J tv w en w') (h1 : 1 ≤ e) (h2 : 0 ≤ v) (h3 : e < E) : en = .returned (.int .i64 7) ∧ RefAt w' R0 E V mv J tv ∧ Later w w' := by
  rcases h with ⟨⟨h, _⟩, _⟩ | ⟨⟨_, h, he⟩, h4⟩ | ⟨⟨_, h, _⟩, _⟩ | ⟨h3, h, _⟩
  · omega
  · exact ⟨he, h4⟩
  · omega
  · omega
theorem begin_same {w w' : World} {R0 : Nat} {E V e v : Int} {J : Bool} {mv tv : Value} {en : Ending} (h : BeginPost R0 E V e v mv J tv w en w') (h1 : 1 ≤ e) (h2 : 0 ≤ v) (h3 : e = E) : en = .returned (.int .i64 0) ∧ RefAt w' R0 E V mv J tv ∧ Later w w' := by
  rcases h with ⟨⟨h, _⟩, _⟩ | ⟨⟨_, h, he⟩, h4⟩ | ⟨⟨_, h, he⟩, h4⟩ | ⟨h3, h, _⟩
  · omega
  · omega
  · exact ⟨he, h4⟩
  · omega
/-- Who reads nothing that is known is fine. -/
theorem fine_new {R : List Spn} {f r : Int} (h : f ≤ r) (h0 : 0 ≤ r) : judgeV [] f r R = 1 := by
  by_cases hR : R = []
  · subst hR; rfl
  · exact judgeV_fine hR h fun s _ => by show (0 : Int) ≤ r; exact h0
set_option maxRecDepth 100000 in
set_option maxHeartbeats 16000000 in
theorem refereeEpochs_walk {w : World} (t u : Tx) (A1 A2 A3 A4 : Option Addr) (n1 c1 n2 c2 n3 c3 n4 c4 : Nat) (h1 : t.2.1.length = n1) (h2 : t.2.2.length = n2) (h3 : n1 ≤ 1048576) (h4 : n2 ≤ 1048576) (hR : Rd w 2 A1 n1 (srow t.2.1)) (hC : Rd w 3 A2 n2 (crow t.2.2))
    (h1' : u.2.1.length = n3) (h2' : u.2.2.length = n4) (h3' : n3 ≤ 1048576) (h4' : n4 ≤ 1048576) (hR' : Rd w 2 A3 n3 (srow u.2.1)) (hC' : Rd w 3 A4 n4 (crow u.2.2)) (a b : Int) (ha : 0 ≤ a ∧ a ≤ 255) (hb : 0 ≤ b ∧ b ≤ 255) :
    Calls Try.prog 11 #[.agg #[.int .i64 t.1, .slice A1 n1 c1, .slice A2 n2 c2], .agg #[.int .i64 u.1, .slice A3 n3 c3, .slice A4 n4 c4], .int .u8 a, .int .u8 b] w fun e w' => e = .returned (.bool true) ∧ Below w.heap.size w w' := by
  have a1 := ha.1; have a2 := ha.2; have b1 := hb.1; have b2 := hb.2
  have HR := hide_ hR; have HC := hide_ hC; have H1 := hide_ h1; have H2 := hide_ h2
  have HR' := hide_ hR'; have HC' := hide_ hC'; have H1' := hide_ h1'; have H2' := hide_ h2'
  obtain ⟨r0, r1, hl⟩ := alloc2_at w (.cells #[.int .i64 t.1, .slice A1 n1 c1, .slice A2 n2 c2] 32) (.cells #[.int .i64 u.1, .slice A3 n3 c3, .slice A4 n4 c4] 32)
  obtain ⟨W0, hW0⟩ : ∃ W0, W0 = ((w.alloc (.cells #[.int .i64 t.1, .slice A1 n1 c1, .slice A2 n2 c2] 32)).alloc (.cells #[.int .i64 u.1, .slice A3 n3 c3, .slice A4 n4 c4] 32)) := ⟨_, rfl⟩
  have HW := hide_ hW0.symm
  rw [← hW0] at r0 r1 hl
  have HT0 := hide_ r0; have HU0 := hide_ r1; have HB0 := hide_ hl
  have hw0 : w.heap.size + 1 < W0.heap.size := heap_lt0 r1
  clear hR hC h1 h2 hR' hC' h1' h2' ha hb r0 r1 hl hW0
  go_enter Try.func11, Try.ntmps11
  go_wp2_with (rw [HW.out])
  refine (rnew_any _).mono ?_; rintro e w1 ⟨rfl, hrf, hb1⟩
  have hu1 := later_row hb1 HU0.out
  have HT1 := hide_ (later_row hb1 HT0.out)
  have x0 := cell_of_row _ _ 0 _ _ (0, 0) hu1
  have fz := fun k => frozen_of_row _ _ k _ _ hu1
  have hus := heap_setCell_same w1 (w.heap.size + 1) 0 _ _ (.int .i64 150) hu1
  have hts : (w1.setCell ⟨w.heap.size + 1, 0, none⟩ (.int .i64 150)).heap[w.heap.size]? = _ := (Below.heap_setCell _ _ _ _ (fun e => by have e : w.heap.size = w.heap.size + 1 := e; omega)).trans HT1.out
  have hrs : RefAt (w1.setCell ⟨w.heap.size + 1, 0, none⟩ (.int .i64 150)) W0.heap.size 0 0 (.pointer none) false (.slice none 0 0) := (Below.heap_setCell _ _ _ _ (fun e => by have e : W0.heap.size = w.heap.size + 1 := e; omega)).trans hrf
  have hls : Later w (w1.setCell ⟨w.heap.size + 1, 0, none⟩ (.int .i64 150)) := (HB0.out.trans hb1).setCell (Nat.le_succ _) _
  clear hrf hb1 hu1
  go_wp2_with fail
  obtain ⟨W2, hW2⟩ : ∃ W2, W2 = w1.setCell ⟨w.heap.size + 1, 0, none⟩ (.int .i64 150) := ⟨_, rfl⟩
  rw [← hW2] at hus hts hrs hls ⊢
  have HU2 := hide_ hus; have HT2 := hide_ hts; have HRF2 := hide_ hrs; have HB2 := hide_ hls
  clear hus hts hrs hls hW2 x0 fz
  refine (rawake_yes _).mono ?_; rintro e w3 ⟨rfl, hb3⟩
  have HB3 := hide_ (HB2.out.trans hb3); have HRF3 := hide_ (later_row hb3 HRF2.out)
  have t0 := later_row hb3 HT2.out
  have HT3 := hide_ t0; have HU3 := hide_ (later_row hb3 HU2.out)
  have p0 := cell_of_row _ _ 0 _ _ (0, 0) t0
  have p1 := cell_of_row _ _ 1 _ _ (0, 0) t0
  have p2 := cell_of_row _ _ 2 _ _ (0, 0) t0
  have htx := hide_ (rtxn_any (c := c1) (c' := c2) (r := t.1) (HR.out.below HB3.out) H1.out (HC.out.below HB3.out) H2.out h3 h4)
  clear hb3 t0
  go_wp2_with fail
  refine htx.out.mono ?_; rintro e w4 ⟨rfl, hb4⟩
  have HB4 := hide_ (HB3.out.trans hb4); have HRF4 := hide_ (later_row hb4 HRF3.out)
  have u0 := later_row hb4 HU3.out
  have HT4 := hide_ (later_row hb4 HT3.out); have HU4 := hide_ u0
  by_cases hs1 : soundT (t.1, t.2.1, t.2.2) = true
  · rw [hs1]
    have HS1 := hide_ hs1
    have q0 := cell_of_row _ _ 0 _ _ (0, 0) u0
    have q1 := cell_of_row _ _ 1 _ _ (0, 0) u0
    have q2 := cell_of_row _ _ 2 _ _ (0, 0) u0
    have hty := hide_ (rtxn_any (c := c3) (c' := c4) (r := 150) (HR'.out.below HB4.out) H1'.out (HC'.out.below HB4.out) H2'.out h3' h4')
    clear hb4 u0 p0 p1 p2 htx hs1
    go_wp2_with fail
    refine hty.out.mono ?_; rintro e w5 ⟨rfl, hb5⟩
    have HB5 := hide_ (HB4.out.trans hb5); have HRF5 := hide_ (later_row hb5 HRF4.out); have HT5 := hide_ (later_row hb5 HT4.out); have HU5 := hide_ (later_row hb5 HU4.out)
    by_cases hs2 : soundT (150, u.2.1, u.2.2) = true
    · rw [hs2]
      have HS2 := hide_ hs2
      clear hb5 q0 q1 q2 hty hs2
      go_wp2_with fail
      refine (begin_any (a + 1) 100 HRF5.out).mono ?_; rintro e w6 h
      obtain ⟨rfl, hrs, hg⟩ := begin_new h (heap_lt0 HRF5.out) (by omega) (by omega)
      have HRS6 := hide_ hrs
      have HB6 := hide_ (later_of_grown HB5.out hg (by omega))
      have t0 := (hg.block _ (heap_lt0 HT5.out) (fun e => by have := Option.some.inj e; omega)).trans HT5.out
      have HT6 := hide_ t0
      have HU6 := hide_ ((hg.block _ (heap_lt0 HU5.out) (fun e => by have := Option.some.inj e; omega)).trans HU5.out)
      have p0 := cell_of_row _ _ 0 _ _ (0, 0) t0
      have p1 := cell_of_row _ _ 1 _ _ (0, 0) t0
      have p2 := cell_of_row _ _ 2 _ _ (0, 0) t0
      clear h hrs hg t0
      go_wp2_with fail
      have hal := later_alloc w6 (.cells #[.int .i64 t.1, .slice A1 n1 c1, .slice A2 n2 c2] 32)
      have hl7 := HB6.out.trans hal
      have hrow := txRow_one (heap_alloc_new w6 (.cells #[.int .i64 t.1, .slice A1 n1 c1, .slice A2 n2 c2] 32)) H1.out H2.out h3 h4 (HR.out.below hl7) (HC.out.below hl7)
      refine (rjudge_any (ct := 1) 100 200 (HRS6.out.below hal) hrow (by omega) (by simp) (by simp) (by omega)).mono ?_; rintro e w7 h
      obtain ⟨D, M, m, x, L', f', hJ, rfl, ho, hrs, hT, -, -, -⟩ := rj_good h (HRS6.out.below hal) rfl (by omega) ⟨by simp, by rw [List.all_cons, HS1.out]; rfl⟩
      have HRS7 := hide_ hrs
      have HB7 := hide_ (later_turns hl7 hT (by omega))
      have HU7 := hide_ ((hT.block (w.heap.size + 1) (by omega)).trans (later_row hal HU6.out))
      clear h hJ ho hrs hT hrow hal hl7 p0 p1 p2
      go_wp2_with fail
      obtain ⟨mv, tv, hat⟩ := HRS7.out.at_
      refine (begin_any (a + 2 + b) 120 hat).mono ?_; rintro e w8 h
      obtain ⟨rfl, hrs, hg⟩ := begin_more h (heap_lt0 hat) (by omega) (by omega) (by omega)
      have HRS8 := hide_ hrs
      have HB8 := hide_ (later_of_grown HB7.out hg (by omega))
      have HU8 := hide_ ((hg.block _ (heap_lt0 HU7.out) (fun e => by have := Option.some.inj e; omega)).trans HU7.out)
      clear h hrs hg hat
      go_wp2_with fail
      obtain ⟨mv, tv, hat⟩ := HRS8.out.at_
      refine (begin_any (a + 1) 100 hat).mono ?_; rintro e w9 h
      obtain ⟨rfl, -, hb9⟩ := begin_old h (by omega) (by omega) (by omega)
      have HRS9 := hide_ (HRS8.out.below hb9); have HB9 := hide_ (HB8.out.trans hb9); have HU9 := hide_ (later_row hb9 HU8.out)
      clear h hat hb9
      go_wp2_with fail
      obtain ⟨mv, tv, hat⟩ := HRS9.out.at_
      refine (begin_any (a + 2 + b) 500 hat).mono ?_; rintro e w10 h
      obtain ⟨rfl, -, hb10⟩ := begin_same h (by omega) (by omega) rfl
      have HRS10 := hide_ (HRS9.out.below hb10); have HB10 := hide_ (HB9.out.trans hb10)
      have u0 := later_row hb10 HU9.out
      have q0 := cell_of_row _ _ 0 _ _ (0, 0) u0
      have q1 := cell_of_row _ _ 1 _ _ (0, 0) u0
      have q2 := cell_of_row _ _ 2 _ _ (0, 0) u0
      clear h hat hb10 u0
      go_wp2_with fail
      have hal := later_alloc w10 (.cells #[.int .i64 150, .slice A3 n3 c3, .slice A4 n4 c4] 32)
      have hl11 := HB10.out.trans hal
      have hrow := txRow_one (heap_alloc_new w10 (.cells #[.int .i64 150, .slice A3 n3 c3, .slice A4 n4 c4] 32)) H1'.out H2'.out h3' h4' (HR'.out.below hl11) (HC'.out.below hl11)
      refine (rjudge_any (ct := 1) 120 160 (HRS10.out.below hal) hrow (by omega) (by simp) (by simp) (by omega)).mono ?_; rintro e w11 h
      obtain ⟨D2, M2, m2, x2, L2, f2, hJ2, rfl, ho2, hrs2, hT2, -, -, -⟩ := rj_good h (HRS10.out.below hal) rfl (by omega) ⟨by simp, by rw [List.all_cons, HS2.out]; rfl⟩
      obtain ⟨j, rfl, hjo⟩ := judgeAll_one hJ2
      obtain ⟨rfl, -⟩ := fine_of hjo (fine_new (by show (120 : Int) ≤ 150; omega) (by show (0 : Int) ≤ 150; omega))
      have HRS11 := hide_ hrs2; have HO11 := hide_ ho2
      have HB11 := hide_ (later_turns hl11 hT2 (by omega))
      obtain ⟨A, c, rfl⟩ := own_form ho2
      clear h hJ2 hjo ho2 hrs2 hT2 hrow hal hl11 q0 q1 q2
      go_wp2_with fail
      obtain ⟨mv, tv, hat⟩ := HRS11.out.at_
      refine (rends_any hat).mono ?_; rintro e w12 ⟨rfl, hb12⟩
      have HB12 := hide_ (HB11.out.trans hb12)
      obtain ⟨bv, ov, rfl, hcv⟩ := ints_cells (own_below HO11.out hb12) rfl (by simp)
      have v0 : w12.cell? ⟨bv, ov, none⟩ = some (.int .i64 1) := hcv 0 1 rfl
      clear hcv hb12 hat
      go_wp2_with fail
      go_ret
      exact ⟨rfl, HB12.out⟩
    · have hs2' : soundT (150, u.2.1, u.2.2) = false := by simpa using hs2
      rw [hs2']
      clear hb5 q0 q1 q2 hty hs2 hs2'
      go_wp2_with fail
      refine (rawake_yes _).mono ?_; rintro e w6 ⟨rfl, hb6⟩
      have HB6 := hide_ (HB5.out.trans hb6)
      clear hb6
      go_wp2_with fail
      go_ret
      exact ⟨rfl, HB6.out⟩
  · have hs1' : soundT (t.1, t.2.1, t.2.2) = false := by simpa using hs1
    rw [hs1']
    clear hb4 u0 p0 p1 p2 htx hs1 hs1'
    go_wp2_with fail
    refine (rawake_yes _).mono ?_; rintro e w5 ⟨rfl, hb5⟩
    have HB5 := hide_ (HB4.out.trans hb5)
    clear hb5
    go_wp2_with fail
    go_ret
    exact ⟨rfl, HB5.out⟩
set_option maxRecDepth 20000 in
theorem refereeEpochs_contract (H : Type) (enc : TypeId × Value → H) (W : World) (base : Nat) (args : Array Value) (ds : List (DataW H)) (before : List MemPlace)
    (hval : ∀ (j : Nat) t v, Try.f11.params[j]? = some t → args[j]? = some v → Value.okWide Try.prog W .any base t v)
    (hA : DataW.TrodAll enc Try.prog W 0 (fun _ => true) true Try.f11.params.toList args.toList ds before)
    (_hsz : (DataW.weightsEach Try.prog (Try.f11.params.toList ++ Rows.refereeEpochsSpec.plain.varTypes Try.prog) (ds ++ [])).all (· ≤ reachBytes) = true)
    (hk : Rows.uptoSmall H (ds ++ []) = true) :
    Calls Try.prog 11 args W fun e W' => e = .returned (.bool true) ∧ Below W.heap.size W W' := by
  rw [Try.params11] at hA hval
  obtain ⟨v0, vs0, d0, ds0, p0, q0, hargs, rfl, rfl, h0, r0⟩ := trodAll_cons hA
  obtain ⟨v1, vs1, d1, ds1, p1, q1, rfl, rfl, rfl, h1, r1⟩ := trodAll_cons r0
  obtain ⟨v2, vs2, d2, ds2, p2, q2, rfl, rfl, rfl, h2, r2⟩ := trodAll_cons r1
  obtain ⟨v3, vs3, d3, ds3, p3, q3, rfl, rfl, rfl, h3, r3⟩ := trodAll_cons r2
  obtain ⟨rfl, rfl, rfl⟩ := trodAll_nil r3
  obtain rfl : args = #[v0, v1, v2, v3] := by cases args; simp_all
  have hbb := bulk_bound hk
  have hb0 := bulk_mem (d := d0) (l := [d0, d1, d2, d3]) (by simp)
  have hb1 := bulk_mem (d := d1) (l := [d0, d1, d2, d3]) (by simp)
  obtain ⟨t, A1, A2, c1, c2, rfl, t3, t4, tR, tC⟩ := mopen_txn (hval 0 32 v0 rfl rfl) h0 (by omega)
  obtain ⟨u, A3, A4, c3, c4, rfl, u3, u4, uR, uC⟩ := mopen_txn (hval 1 32 v1 rfl rfl) h1 (by omega)
  obtain ⟨a, rfl, rfl, rfl, w2⟩ := open_int Try.underlying5 (hval 2 5 v2 rfl rfl) h2
  obtain ⟨b, rfl, rfl, rfl, w3⟩ := open_int Try.underlying5 (hval 3 5 v3 rfl rfl) h3
  have ha : 0 ≤ a ∧ a ≤ 255 := by simpa [Lit.wf, IntKind.min, IntKind.max, IntKind.signed, IntKind.bits] using w2
  have hb : 0 ≤ b ∧ b ≤ 255 := by simpa [Lit.wf, IntKind.min, IntKind.max, IntKind.signed, IntKind.bits] using w3
  exact refereeEpochs_walk t u A1 A2 A3 A4 _ c1 _ c2 _ c3 _ c4 rfl rfl t3 t4 tR tC rfl rfl u3 u4 uR uC a b ha hb

set_option maxRecDepth 100000 in
theorem refereeEpochs_lifted (os : Os) (started : os.Started) (H : Type) (enc : TypeId × Value → H) (F : Stop.Interp) :
    ReturnsInHanded {} Try.checked os 11 .any ((Rows.OpenSpec.upto Rows.refereeEpochsSpec).pre6 enc Try.prog Try.f11 Rows.refereeEpochsUptoRow.domain false) (((Rows.OpenSpec.upto Rows.refereeEpochsSpec).at F).post enc Try.prog Try.f11 false true false false) := by
  refine returnsInHanded_of_cond_sized (C := Try.checked) (s := Rows.OpenSpec.upto Rows.refereeEpochsSpec) (k := Rows.uptoSmall) rfl own started (by kernel_rfl) Try.func11
    (OpenSpec.witness (enc := enc) (C := Try.checked) (s := Rows.OpenSpec.upto Rows.refereeEpochsSpec) (k := Rows.uptoSmall) rfl false ⟨#[], #[.agg #[.int .i64 0, .slice none 0 0, .slice none 0 0], .agg #[.int .i64 0, .slice none 0 0, .slice none 0 0], .int .u8 0, .int .u8 0], []⟩ 8 (by kernel_rfl) (by kernel_rfl) (by kernel_rfl)
      (x := ([.agg [.lit (.int .i64 0), .nil, .nil], .agg [.lit (.int .i64 0), .nil, .nil], .lit (.int .u8 0), .lit (.int .u8 0)], [], [])) (by kernel_rfl) rfl (by kernel_rfl)) ?_
  intro W base args ds gs before hval hW _ hk hsz _
  have hW' := hW
  obtain ⟨p, q, hA0, hV, rfl, hfz, hnd⟩ := hW
  obtain ⟨rfl, rfl⟩ := trodVars_none hV
  have hA : DataW.TrodAll enc Try.prog W 0 (fun _ => true) true Try.f11.params.toList args.toList ds p := hA0
  refine (refereeEpochs_contract H enc W base args ds p hval hA hsz hk).mono fun e W' ⟨he, hb⟩ => ?_
  subst he
  have hds : ds.length = 4 := by
    rw [Try.params11] at hA
    obtain ⟨v0, vs0, d0, ds0, p0, q0, _, rfl, rfl, _, r0⟩ := trodAll_cons hA
    obtain ⟨v1, vs1, d1, ds1, p1, q1, _, rfl, rfl, _, r1⟩ := trodAll_cons r0
    obtain ⟨v2, vs2, d2, ds2, p2, q2, _, rfl, rfl, _, r2⟩ := trodAll_cons r1
    obtain ⟨v3, vs3, d3, ds3, p3, q3, _, rfl, rfl, _, r3⟩ := trodAll_cons r2
    obtain ⟨_, rfl, rfl⟩ := trodAll_nil r3
    rfl
  have hsh : ∃ d0 d1 d2 d3 : DataW H, ds = [d0, d1, d2, d3] := by
    match ds, hds with
    | [d0, d1, d2, d3], _ => exact ⟨d0, d1, d2, d3, rfl⟩
  obtain ⟨d0, d1, d2, d3, rfl⟩ := hsh
  exact ⟨_, rfl, post_law (s := Rows.refereeEpochsSpec) laidOut (by kernel_rfl) Try.underlying4 rfl (by kernel_rfl) hW' rfl rfl rfl hb⟩
theorem refereeEpochs_over : Rows.refereeEpochsUptoRow.holds Try.pinned (Rows.OpenSpec.upto Rows.refereeEpochsSpec) :=
  OpenClaim.holds_of_cond 11 Try.f11 rfl rfl rfl rfl rfl rfl rfl ⟨rfl, rfl, rfl, rfl, rfl⟩ rfl rfl rfl rfl rfl (by kernel_rfl) Try.func11 (by kernel_rfl)
    (of_decide_eq_true (by kernel_rfl)) (by unfold Func.isWrapper; first | (rw [if_pos (by decide +kernel)]; kernel_rfl) | (rw [if_neg (by decide +kernel)]; exact ⟨rfl, rfl⟩))
    (fun os started H enc _ F => refereeEpochs_lifted os started H enc F)
/-- The statement. -/
theorem refereeEpochs_holds : Rows.RefereeEpochsUptoSaid := refereeEpochs_over
end Go.Proofs.Ytidlkomgondkiaa
