/-
  ChangeParts: changes may be done in two parts, and two changes that name no key both in either order, of bulk at most 1048576; it writes nothing that was there.
  Conditions: none but the row's own.
-/
import Derived.Test.YtblljpdlmllceaaParts
import Derived.Test.YtblljpdlmllceaaRefMeet
import Derived.Test.YtblljpdlmllceaaShapeQ
import Derived.Test.YtblljpdlmllceaaSplit
namespace Go.Proofs.Ytblljpdlmllceaa
open Go.ChangeShapes Go.WideShapes Go.ChangeAt Go.RowKit
set_option linter.unusedVariables false
set_option linter.unusedSimpArgs false
theorem later_on {w w1 : World} {p : Addr} {u : Value} (l : ∀ W, Later w W → W.cell? p = some u) (h : Later w w1) : ∀ W, Later w1 W → W.cell? p = some u := fun W hW => l W (h.trans hW)
theorem row_al {w : World} {k : Nat} {o : Obj} (h : w.heap[k]? = some o) (ob : Obj) : (w.alloc ob).heap[k]? = some o := by
  rw [← h]; exact Below.heap_alloc w ob k (heap_lt0 h)
theorem later_alloc (w : World) (ob : Obj) : Later w (w.alloc ob) := (Below.refl _ _).alloc (Nat.le_refl _) _
theorem row_al_later {W W' : World} {Z : Obj} (h : Later (W.alloc Z) W') : W'.heap[W.heap.size]? = some Z := (h.block _ (by simp)).trans (heap_alloc_new W _)
theorem set_two {W0 W : World} {bk : Nat} {a b u v : Value} {t : TypeId} (h : Later W0 W) (hb : W0.heap.size ≤ bk) (hr : W.heap[bk]? = some (.cells #[a, b] t (0, 0))) :
    Later W0 ((W.setCell ⟨bk, 0, none⟩ u).setCell ⟨bk, 1, none⟩ v) ∧ ((W.setCell ⟨bk, 0, none⟩ u).setCell ⟨bk, 1, none⟩ v).cell? ⟨bk, 0, none⟩ = some u ∧ ((W.setCell ⟨bk, 0, none⟩ u).setCell ⟨bk, 1, none⟩ v).cell? ⟨bk, 1, none⟩ = some v := by
  have h1 := heap_setCell_same W bk 0 _ _ u hr
  have h2 := heap_setCell_same _ bk 1 _ _ v h1
  exact ⟨Below.setCell (Below.setCell h hb _) hb _, cell_of_row _ _ 0 _ _ (0, 0) h2, cell_of_row _ _ 1 _ _ (0, 0) h2⟩
theorem changeT : ElemT Try.prog 23 32 3 40 := elem_mk (z := .agg #[.int .i64 0, .string ByteArray.empty, .string ByteArray.empty]) Try.underlying23 (by kernel_rfl) rfl (by decide)
set_option maxHeartbeats 4000000 in
theorem changeParts_walk (A Aa Ab : Option Addr) (n c p ca q cb : Nat) (L : List Pr) (Ca Cb : List Chg) (x y : Chg) (w : World) (hr : Rd w 2 A n (prow L)) (hl : L.length = n) (hA : A = none → n = 0) (hra : Rd w 3 Aa p (crow Ca)) (hla : Ca.length = p) (hAa : Aa = none → p = 0) (hrb : Rd w 3 Ab q (crow Cb)) (hlb : Cb.length = q) (hAb : Ab = none → q = 0) (hn : n + p + q ≤ 1048576) (hx : x.2.1.size ≤ 4611686018427387904) (hy : y.2.1.size ≤ 4611686018427387904) :
    Calls Try.prog 4 #[.slice A n c, .slice Aa p ca, .slice Ab q cb, .agg #[.int .i64 x.1, .string x.2.1, .string x.2.2], .agg #[.int .i64 y.1, .string y.2.1, .string y.2.2]] w fun e w' => e = .returned (.bool true) ∧ Below w.heap.size w w' := by
  have HR := hide_ hr; have HL := hide_ hl; have HA := hide_ hA; have HRA := hide_ hra; have HLA := hide_ hla; have HAA := hide_ hAa; have HRB := hide_ hrb; have HLB := hide_ hlb; have HAB := hide_ hAb
  have hn2 : (n : Int) + p + q ≤ 1048576 := by omega
  clear hr hl hA hra hla hAa hrb hlb hAb
  obtain ⟨W0, hW0⟩ : ∃ W0, W0 = (w.alloc (.cells #[.int .i64 x.1, .string x.2.1, .string x.2.2] 32)).alloc (.cells #[.int .i64 y.1, .string y.2.1, .string y.2.2] 32) := ⟨_, rfl⟩
  have hbx : W0.heap[w.heap.size]? = some (.cells #[.int .i64 x.1, .string x.2.1, .string x.2.2] 32 (0, 0)) := by rw [hW0]; exact row_al (heap_alloc_new w _) _
  have hby : W0.heap[w.heap.size + 1]? = some (.cells #[.int .i64 y.1, .string y.2.1, .string y.2.2] 32 (0, 0)) := by
    rw [hW0]
    have h := heap_alloc_new (w.alloc (.cells #[.int .i64 x.1, .string x.2.1, .string x.2.2] 32)) (.cells #[.int .i64 y.1, .string y.2.1, .string y.2.2] 32)
    rwa [show (w.alloc (.cells #[.int .i64 x.1, .string x.2.1, .string x.2.2] 32)).heap.size = w.heap.size + 1 by simp] at h
  have hz0 : W0.heap.size = w.heap.size + 2 := by rw [hW0]; simp
  have HB0 := hide_ (show Later w W0 by rw [hW0]; exact ((Below.refl _ _).alloc (Nat.le_refl _) _).alloc (by simp) _)
  have HBX := hide_ hbx; have HBY := hide_ hby; have HZ0 := hide_ hz0
  have HW := hide_ hW0.symm
  have HO0 := hide_ (own_new W0 #[] 32 3 0 W0.heap.size rfl (Nat.zero_le _) (Nat.le_refl _))
  rw [hz0] at HO0
  have hRA0 := hide_ (HRA.out.below HB0.out)
  have hRB0 := hide_ (HRB.out.below HB0.out)
  clear hW0 hbx hby
  go_enter Try.func4, Try.ntmps4
  go_wp2_with (first
    | (rw [HW.out])
    | (at_builtin; (refine wpList_append_rd _ rfl (.tmp 24) (.tmp 25) 23 rfl (w.heap.size + 2) 32 3 40 changeT _ 0 [] rfl HO0.out _ p _ (crow Ca) rfl (hRA0.out.alloc _) (crow_one Ca) (by omega) (by unfold maxLen; omega) (by simp; omega) HAA.out ?_; intro v1 w1 ho hg hat; obtain ⟨A1, c1, rfl⟩ := own_form ho; have HB1 := hide_ (show Later W0 w1 from by have h := own_grown ((Below.refl (w.heap.size + 2) W0).alloc (by omega) _) HO0.out hg (by simp; omega); rwa [← hz0] at h); have HO1 := hide_ (show w1.ownsRow (w.heap.size + 2) 32 3 (.slice A1 p c1) p (crow Ca) by simpa using ho); clear ho hg hat))
    | (at_builtin; go_loud (refine wpList_append_rd _ rfl (.tmp 26) (.tmp 27) 23 rfl (w.heap.size + 2) 32 3 40 changeT _ p (crow Ca) rfl HO1.out _ q _ (crow Cb) rfl (hRB0.out.below HB1.out) (crow_one Cb) (by omega) (by unfold maxLen; omega) (by have := HB1.out.size; omega) HAB.out ?_; intro v2 w2 ho hg hat; obtain ⟨A2, c2, rfl⟩ := own_form ho; have HB2 := hide_ (show Later W0 w2 from by have h := HB1.out; unfold Later at h ⊢; rw [hz0] at h ⊢; exact own_grown h HO1.out hg (by have := HB1.out.size; omega)); have HO2 := hide_ (show w2.ownsRow (w.heap.size + 2) 32 3 (.slice A2 (p + q) c2) (p + q) (crow (Ca ++ Cb)) by simpa [crow] using ho); clear ho hg hat))
    )
  have HBW := hide_ (HB0.out.trans HB2.out)
  have hap1 := hide_ (apply_sum (c := c) (c' := c2) (HR.out.below HBW.out) HL.out HA.out (Rd.of_own HO2.out) (by rw [List.length_append, HLA.out, HLB.out]) (by omega))
  refine hap1.out.mono ?_; rintro e w3 ⟨⟨A3, c3, m3, M3, e3, rfl, hm3, hmn3, hA3, hcap3, hr3, hi3, hap3, _, hz3⟩, hb3⟩
  have HM3 := hide_ hm3; have HR3 := hide_ hr3; have HI3 := hide_ hi3; have HAP3 := hide_ hap3
  have HB3 := hide_ (HB2.out.trans hb3)
  have HBW3 := hide_ (HB0.out.trans HB3.out)
  clear hm3 hA3 hcap3 hr3 hi3 hap3 hz3 hb3 hap1 HB1 HO1 HO2 hRA0 hRB0 HO0
  have hap2 := hide_ (apply_sum (c := c) (c' := ca) (HR.out.below HBW3.out) HL.out HA.out (HRA.out.below HBW3.out) HLA.out (by omega))
  go_wp2_with fail
  refine hap2.out.mono ?_; rintro e w4 ⟨⟨A4, c4, m4, M4, e4, rfl, hm4, hmn4, hA4, hcap4, hr4, hi4, hap4, _, hz4⟩, hb4⟩
  have HM4 := hide_ hm4; have HR4 := hide_ hr4; have HI4 := hide_ hi4; have HAP4 := hide_ hap4
  have HB4 := hide_ (HB3.out.trans hb4)
  have HBW4 := hide_ (HB0.out.trans HB4.out)
  have HR34 := hide_ (HR3.out.below hb4)
  have hap5 := hide_ (apply_sum (c := c4) (c' := cb) hr4 hm4 hA4 (HRB.out.below HBW4.out) HLB.out (by omega))
  clear hm4 hA4 hcap4 hr4 hi4 hap4 hz4 hb4 hap2 HR3
  go_wp2_with fail
  refine hap5.out.mono ?_; rintro e w5 ⟨⟨A5, c5, m5, M5, e5, rfl, hm5, hmn5, hA5, hcap5, hr5, hi5, hap6, _, hz5⟩, hb5⟩
  have HM5 := hide_ hm5; have HI5 := hide_ hi5; have HAP5 := hide_ hap6; have HR5 := hide_ hr5
  have HB5 := hide_ (HB4.out.trans hb5)
  have HR35 := hide_ (HR34.out.below hb5)
  clear hm5 hA5 hcap5 hr5 hi5 hap6 hz5 hb5 hap5 HR34 HR4
  go_wp2_with fail
  refine (awake_yes w5).mono ?_; rintro e w6 ⟨rfl, hb6⟩
  have HB6 := hide_ (HB5.out.trans hb6)
  have HR36 := hide_ (HR35.out.below hb6)
  have HR56 := hide_ (HR5.out.below hb6)
  clear hb6 HR35 HR5
  have hspx := hide_ (fun W => rspan_any x.1 x.2.1 x.2.2 hx W)
  have hspy := hide_ (fun W => rspan_any y.1 y.2.1 y.2.2 hy W)
  have hmeet := hide_ (fun W => rmeet_any (spanC x.1 x.2.1 x.2.2) (spanC y.1 y.2.1 y.2.2) W)
  have hmi := hide_ (fun k => meet_in (spanC x.1 x.2.1 x.2.2) (spanC y.1 y.2.1 y.2.2) k)
  by_cases h3 : e3 = 0
  case' pos =>
    have h3' := HI3.out.1 h3
    have hc3 := (chkAll_append Ca Cb).1 h3'.1
    obtain rfl : e4 = 0 := HI4.out.2 ⟨hc3.1, h3'.2⟩
    have hs4 := snd_app h3'.2 hc3.1 (HAP4.out rfl)
    obtain rfl : e5 = 0 := HI5.out.2 ⟨hc3.2, hs4⟩
    obtain rfl : M5 = M3 := app_fun (app_append (HAP4.out rfl) (HAP5.out rfl)) (HAP3.out h3)
    obtain rfl : m5 = m3 := by rw [← HM5.out, HM3.out]
    subst h3
    clear h3' hc3 hs4
    have hpy := hide_ (fun W (hW : Later w6 W) => pairs_yes (c := c5) (c' := c3) (HR56.out.below hW) (HR36.out.below hW) HM5.out (by omega))
    go_wp2_with fail
    refine (hpy.out _ (Later.refl _)).mono ?_; rintro e w7 ⟨rfl, hb7⟩
    have HB7 := hide_ (HB6.out.trans hb7)
    clear hpy hb7
    go_wp2_with fail
  case' neg =>
    have h3b : (e3 == 0) = false := beq_eq_false_iff_ne.2 h3
    have HB7 := HB6
    go_wp2_with fail
    generalize w6 = w7 at *
  all_goals
    have ax0 := later_drew_cell (cell_of_row _ _ 0 _ _ (0, 0) ((HB7.out.block _ (heap_lt0 (by first | exact HBX.out | exact HBY.out))).trans HBX.out))
    have ax1 := later_drew_cell (cell_of_row _ _ 1 _ _ (0, 0) ((HB7.out.block _ (heap_lt0 (by first | exact HBX.out | exact HBY.out))).trans HBX.out))
    have ax2 := later_drew_cell (cell_of_row _ _ 2 _ _ (0, 0) ((HB7.out.block _ (heap_lt0 (by first | exact HBX.out | exact HBY.out))).trans HBX.out))
    have ay0 := later_drew_cell (cell_of_row _ _ 0 _ _ (0, 0) ((HB7.out.block _ (heap_lt0 (by first | exact HBX.out | exact HBY.out))).trans HBY.out))
    have ay1 := later_drew_cell (cell_of_row _ _ 1 _ _ (0, 0) ((HB7.out.block _ (heap_lt0 (by first | exact HBX.out | exact HBY.out))).trans HBY.out))
    have ay2 := later_drew_cell (cell_of_row _ _ 2 _ _ (0, 0) ((HB7.out.block _ (heap_lt0 (by first | exact HBX.out | exact HBY.out))).trans HBY.out))
    apply wp_cut (F := fun bk W => Later w7.drew W ∧ W.cell? ⟨bk, 0, none⟩ = some (.string (meetS (spanC x.1 x.2.1 x.2.2) (spanC y.1 y.2.1 y.2.2)).1) ∧ W.cell? ⟨bk, 1, none⟩ = some (.string (meetS (spanC x.1 x.2.1 x.2.2) (spanC y.1 y.2.1 y.2.2)).2))
    case h1 =>
      refine wp_region_l [6] (by kernel_rfl) ?_
      refine wpAnyL_take 0 (v := ?_) rfl (by kernel_rfl) (by kernel_rfl) (by kernel_rfl) (by kernel_rfl) (fun _ _ _ h => h) (by rfl) (by intro W hSw; go_simp; with_reducible rfl) ?_; try simp only [Act.put, List.setIfInBounds_toArray, List.set_cons_zero, List.set_cons_succ]
      refine wpAnyL_take 2 (v := ?_) rfl (by kernel_rfl) (by kernel_rfl) (by kernel_rfl) (by kernel_rfl) (fun _ _ _ h => h) (by rfl) (by intro W hSw; go_simp; with_reducible rfl) ?_; try simp only [Act.put, List.setIfInBounds_toArray, List.set_cons_zero, List.set_cons_succ]
      refine wpAnyL_two 1 5 (by kernel_rfl) rfl rfl (fun K hK => ?_) (fun K hK => ?_)
      · skip
        go_simp
        first | (with_reducible refine (hspx.out _).mono ?_; rintro e w11 ⟨rfl, hb11⟩) | (with_reducible refine (hspy.out _).mono ?_; rintro e w12 ⟨rfl, hb12⟩)
        first | refine hK.out _ _ (by assumption) ?_ | refine hK.out _ _ (Later.refl _) ?_ | refine hK.out _ _ (Below.alloc (Below.refl _ _) (Nat.le_refl _) _) ?_
        clear hK K; try simp only [Act.put, List.setIfInBounds_toArray, List.set_cons_zero, List.set_cons_succ]
        refine wpAnyL_two 3 5 (by kernel_rfl) rfl rfl (fun K hK => ?_) (fun K hK => ?_)
        · skip
          go_simp
          first | (with_reducible refine (hspx.out _).mono ?_; rintro e w11 ⟨rfl, hb11⟩) | (with_reducible refine (hspy.out _).mono ?_; rintro e w12 ⟨rfl, hb12⟩)
          first | refine hK.out _ _ (by assumption) ?_ | refine hK.out _ _ (Later.refl _) ?_ | refine hK.out _ _ (Below.alloc (Below.refl _ _) (Nat.le_refl _) _) ?_
          clear hK K; try simp only [Act.put, List.setIfInBounds_toArray, List.set_cons_zero, List.set_cons_succ]
          refine wpAnyL_two 4 5 (by kernel_rfl) rfl rfl (fun K hK => ?_) (fun K hK => ?_)
          · skip
            go_simp
            refine (rmeet_any _ _ _).mono ?_; rintro e w13 ⟨rfl, hb13⟩; first | (have zr := row_al_later hb13; have z0 := cell_of_row _ _ 0 _ _ (0, 0) zr; have z1 := cell_of_row _ _ 1 _ _ (0, 0) zr; have z2 := frozen_of_row _ _ 0 _ _ zr; have z3 := frozen_of_row _ _ 1 _ _ zr) | (have zr := row_al_later (hb12.trans hb13); have z0 := cell_of_row _ _ 0 _ _ (0, 0) zr; have z1 := cell_of_row _ _ 1 _ _ (0, 0) zr; have z2 := frozen_of_row _ _ 0 _ _ zr; have z3 := frozen_of_row _ _ 1 _ _ zr) | (have zr := row_al_later (hb11.trans (hb12.trans hb13)); have z0 := cell_of_row _ _ 0 _ _ (0, 0) zr; have z1 := cell_of_row _ _ 1 _ _ (0, 0) zr; have z2 := frozen_of_row _ _ 0 _ _ zr; have z3 := frozen_of_row _ _ 1 _ _ zr) | (have zr : w13.heap[w7.heap.size]? = some (.cells #[.string ByteArray.empty, .string ByteArray.empty] 34 (0, 0)) := row_al_later (W := w7.drew) (Z := (.cells #[.string ByteArray.empty, .string ByteArray.empty] 34)) (hb11.trans (hb12.trans hb13)); have z0 := cell_of_row _ _ 0 _ _ (0, 0) zr; have z1 := cell_of_row _ _ 1 _ _ (0, 0) zr; have z2 := frozen_of_row _ _ 0 _ _ zr; have z3 := frozen_of_row _ _ 1 _ _ zr) | skip
            first | refine hK.out _ _ (by assumption) ?_ | refine hK.out _ _ (Later.refl _) ?_ | refine hK.out _ _ (Below.alloc (Below.refl _ _) (Nat.le_refl _) _) ?_
            clear hK K; try simp only [Act.put, List.setIfInBounds_toArray, List.set_cons_zero, List.set_cons_succ]
            refine wpAnyL_one 5 (by kernel_rfl) rfl (fun K hK => ?_)
            go_simp
            first | refine hK.out _ _ (by assumption) ?_ | refine hK.out _ _ (Later.refl _) ?_ | refine hK.out _ _ (Below.alloc (Below.refl _ _) (Nat.le_refl _) _) ?_
            clear hK K; try simp only [Act.put, List.setIfInBounds_toArray, List.set_cons_zero, List.set_cons_succ]
            refine wpAnyL_loud 6 (by kernel_rfl) (by rfl) rfl (fun K hK => ?_)
            go_simp
            refine hK.out _ _ ?_
            clear hK K; try simp only [Act.put, List.setIfInBounds_toArray, List.set_cons_zero, List.set_cons_succ]
            refine wpAnyL_done (by kernel_rfl) ?_ _
            (first | (have hl := hb11.trans (hb12.trans hb13); generalize hbk : w13.heap.size = bk; exact cut_leaf bk rfl ⟨hl.trans ((Below.refl _ _).alloc (Nat.le_refl _) _), by rw [← hbk]; exact cell_of_row _ _ 0 _ _ (0, 0) (heap_alloc_new _ _), by rw [← hbk]; exact cell_of_row _ _ 1 _ _ (0, 0) (heap_alloc_new _ _)⟩) | (have hk := hb11.trans hb12; have hl := (hk.trans (later_alloc _ _)).trans hb13; have hgr := hk.size; generalize hbk : w12.heap.size = bk at *; exact cut_leaf bk rfl (set_two hl hgr zr)) | (have hl := (hb11.trans (later_alloc _ _)).trans (hb12.trans hb13); have hgr := hb11.size; generalize hbk : w11.heap.size = bk at *; exact cut_leaf bk rfl (set_two hl hgr zr)) | (have hl := ((later_alloc w7.drew (.cells #[.string ByteArray.empty, .string ByteArray.empty] 34)).trans hb11).trans (hb12.trans hb13); have hgr := Nat.le_refl w7.drew.heap.size; generalize hbk : w7.heap.size = bk at *; exact cut_leaf bk rfl (set_two hl (by have : w7.drew.heap.size = bk := hbk; omega) zr)))
          · skip
            go_simp
            first | refine hK.out _ _ (by assumption) ?_ | refine hK.out _ _ (Later.refl _) ?_ | refine hK.out _ _ (Below.alloc (Below.refl _ _) (Nat.le_refl _) _) ?_
            clear hK K; try simp only [Act.put, List.setIfInBounds_toArray, List.set_cons_zero, List.set_cons_succ]
            refine wpAnyL_one 4 (by kernel_rfl) rfl (fun K hK => ?_)
            go_simp
            refine (rmeet_any _ _ _).mono ?_; rintro e w13 ⟨rfl, hb13⟩; first | (have zr := row_al_later hb13; have z0 := cell_of_row _ _ 0 _ _ (0, 0) zr; have z1 := cell_of_row _ _ 1 _ _ (0, 0) zr; have z2 := frozen_of_row _ _ 0 _ _ zr; have z3 := frozen_of_row _ _ 1 _ _ zr) | (have zr := row_al_later (hb12.trans hb13); have z0 := cell_of_row _ _ 0 _ _ (0, 0) zr; have z1 := cell_of_row _ _ 1 _ _ (0, 0) zr; have z2 := frozen_of_row _ _ 0 _ _ zr; have z3 := frozen_of_row _ _ 1 _ _ zr) | (have zr := row_al_later (hb11.trans (hb12.trans hb13)); have z0 := cell_of_row _ _ 0 _ _ (0, 0) zr; have z1 := cell_of_row _ _ 1 _ _ (0, 0) zr; have z2 := frozen_of_row _ _ 0 _ _ zr; have z3 := frozen_of_row _ _ 1 _ _ zr) | (have zr : w13.heap[w7.heap.size]? = some (.cells #[.string ByteArray.empty, .string ByteArray.empty] 34 (0, 0)) := row_al_later (W := w7.drew) (Z := (.cells #[.string ByteArray.empty, .string ByteArray.empty] 34)) (hb11.trans (hb12.trans hb13)); have z0 := cell_of_row _ _ 0 _ _ (0, 0) zr; have z1 := cell_of_row _ _ 1 _ _ (0, 0) zr; have z2 := frozen_of_row _ _ 0 _ _ zr; have z3 := frozen_of_row _ _ 1 _ _ zr) | skip
            first | refine hK.out _ _ (by assumption) ?_ | refine hK.out _ _ (Later.refl _) ?_ | refine hK.out _ _ (Below.alloc (Below.refl _ _) (Nat.le_refl _) _) ?_
            clear hK K; try simp only [Act.put, List.setIfInBounds_toArray, List.set_cons_zero, List.set_cons_succ]
            refine wpAnyL_loud 6 (by kernel_rfl) (by rfl) rfl (fun K hK => ?_)
            go_simp
            refine hK.out _ _ ?_
            clear hK K; try simp only [Act.put, List.setIfInBounds_toArray, List.set_cons_zero, List.set_cons_succ]
            refine wpAnyL_done (by kernel_rfl) ?_ _
            (first | (have hl := hb11.trans (hb12.trans hb13); generalize hbk : w13.heap.size = bk; exact cut_leaf bk rfl ⟨hl.trans ((Below.refl _ _).alloc (Nat.le_refl _) _), by rw [← hbk]; exact cell_of_row _ _ 0 _ _ (0, 0) (heap_alloc_new _ _), by rw [← hbk]; exact cell_of_row _ _ 1 _ _ (0, 0) (heap_alloc_new _ _)⟩) | (have hk := hb11.trans hb12; have hl := (hk.trans (later_alloc _ _)).trans hb13; have hgr := hk.size; generalize hbk : w12.heap.size = bk at *; exact cut_leaf bk rfl (set_two hl hgr zr)) | (have hl := (hb11.trans (later_alloc _ _)).trans (hb12.trans hb13); have hgr := hb11.size; generalize hbk : w11.heap.size = bk at *; exact cut_leaf bk rfl (set_two hl hgr zr)) | (have hl := ((later_alloc w7.drew (.cells #[.string ByteArray.empty, .string ByteArray.empty] 34)).trans hb11).trans (hb12.trans hb13); have hgr := Nat.le_refl w7.drew.heap.size; generalize hbk : w7.heap.size = bk at *; exact cut_leaf bk rfl (set_two hl (by have : w7.drew.heap.size = bk := hbk; omega) zr)))
        · skip
          go_simp
          first | refine hK.out _ _ (by assumption) ?_ | refine hK.out _ _ (Later.refl _) ?_ | refine hK.out _ _ (Below.alloc (Below.refl _ _) (Nat.le_refl _) _) ?_
          clear hK K; try simp only [Act.put, List.setIfInBounds_toArray, List.set_cons_zero, List.set_cons_succ]
          refine wpAnyL_one 3 (by kernel_rfl) rfl (fun K hK => ?_)
          go_simp
          first | (with_reducible refine (hspx.out _).mono ?_; rintro e w11 ⟨rfl, hb11⟩) | (with_reducible refine (hspy.out _).mono ?_; rintro e w12 ⟨rfl, hb12⟩)
          first | refine hK.out _ _ (by assumption) ?_ | refine hK.out _ _ (Later.refl _) ?_ | refine hK.out _ _ (Below.alloc (Below.refl _ _) (Nat.le_refl _) _) ?_
          clear hK K; try simp only [Act.put, List.setIfInBounds_toArray, List.set_cons_zero, List.set_cons_succ]
          refine wpAnyL_one 4 (by kernel_rfl) rfl (fun K hK => ?_)
          go_simp
          refine (rmeet_any _ _ _).mono ?_; rintro e w13 ⟨rfl, hb13⟩; first | (have zr := row_al_later hb13; have z0 := cell_of_row _ _ 0 _ _ (0, 0) zr; have z1 := cell_of_row _ _ 1 _ _ (0, 0) zr; have z2 := frozen_of_row _ _ 0 _ _ zr; have z3 := frozen_of_row _ _ 1 _ _ zr) | (have zr := row_al_later (hb12.trans hb13); have z0 := cell_of_row _ _ 0 _ _ (0, 0) zr; have z1 := cell_of_row _ _ 1 _ _ (0, 0) zr; have z2 := frozen_of_row _ _ 0 _ _ zr; have z3 := frozen_of_row _ _ 1 _ _ zr) | (have zr := row_al_later (hb11.trans (hb12.trans hb13)); have z0 := cell_of_row _ _ 0 _ _ (0, 0) zr; have z1 := cell_of_row _ _ 1 _ _ (0, 0) zr; have z2 := frozen_of_row _ _ 0 _ _ zr; have z3 := frozen_of_row _ _ 1 _ _ zr) | (have zr : w13.heap[w7.heap.size]? = some (.cells #[.string ByteArray.empty, .string ByteArray.empty] 34 (0, 0)) := row_al_later (W := w7.drew) (Z := (.cells #[.string ByteArray.empty, .string ByteArray.empty] 34)) (hb11.trans (hb12.trans hb13)); have z0 := cell_of_row _ _ 0 _ _ (0, 0) zr; have z1 := cell_of_row _ _ 1 _ _ (0, 0) zr; have z2 := frozen_of_row _ _ 0 _ _ zr; have z3 := frozen_of_row _ _ 1 _ _ zr) | skip
          first | refine hK.out _ _ (by assumption) ?_ | refine hK.out _ _ (Later.refl _) ?_ | refine hK.out _ _ (Below.alloc (Below.refl _ _) (Nat.le_refl _) _) ?_
          clear hK K; try simp only [Act.put, List.setIfInBounds_toArray, List.set_cons_zero, List.set_cons_succ]
          refine wpAnyL_loud 6 (by kernel_rfl) (by rfl) rfl (fun K hK => ?_)
          go_simp
          refine hK.out _ _ ?_
          clear hK K; try simp only [Act.put, List.setIfInBounds_toArray, List.set_cons_zero, List.set_cons_succ]
          refine wpAnyL_done (by kernel_rfl) ?_ _
          (first | (have hl := hb11.trans (hb12.trans hb13); generalize hbk : w13.heap.size = bk; exact cut_leaf bk rfl ⟨hl.trans ((Below.refl _ _).alloc (Nat.le_refl _) _), by rw [← hbk]; exact cell_of_row _ _ 0 _ _ (0, 0) (heap_alloc_new _ _), by rw [← hbk]; exact cell_of_row _ _ 1 _ _ (0, 0) (heap_alloc_new _ _)⟩) | (have hk := hb11.trans hb12; have hl := (hk.trans (later_alloc _ _)).trans hb13; have hgr := hk.size; generalize hbk : w12.heap.size = bk at *; exact cut_leaf bk rfl (set_two hl hgr zr)) | (have hl := (hb11.trans (later_alloc _ _)).trans (hb12.trans hb13); have hgr := hb11.size; generalize hbk : w11.heap.size = bk at *; exact cut_leaf bk rfl (set_two hl hgr zr)) | (have hl := ((later_alloc w7.drew (.cells #[.string ByteArray.empty, .string ByteArray.empty] 34)).trans hb11).trans (hb12.trans hb13); have hgr := Nat.le_refl w7.drew.heap.size; generalize hbk : w7.heap.size = bk at *; exact cut_leaf bk rfl (set_two hl (by have : w7.drew.heap.size = bk := hbk; omega) zr)))
      · skip
        go_simp
        first | refine hK.out _ _ (by assumption) ?_ | refine hK.out _ _ (Later.refl _) ?_ | refine hK.out _ _ (Below.alloc (Below.refl _ _) (Nat.le_refl _) _) ?_
        clear hK K; try simp only [Act.put, List.setIfInBounds_toArray, List.set_cons_zero, List.set_cons_succ]
        refine wpAnyL_one 1 (by kernel_rfl) rfl (fun K hK => ?_)
        go_simp
        first | (with_reducible refine (hspx.out _).mono ?_; rintro e w11 ⟨rfl, hb11⟩) | (with_reducible refine (hspy.out _).mono ?_; rintro e w12 ⟨rfl, hb12⟩)
        first | refine hK.out _ _ (by assumption) ?_ | refine hK.out _ _ (Later.refl _) ?_ | refine hK.out _ _ (Below.alloc (Below.refl _ _) (Nat.le_refl _) _) ?_
        clear hK K; try simp only [Act.put, List.setIfInBounds_toArray, List.set_cons_zero, List.set_cons_succ]
        refine wpAnyL_one 3 (by kernel_rfl) rfl (fun K hK => ?_)
        go_simp
        first | (with_reducible refine (hspx.out _).mono ?_; rintro e w11 ⟨rfl, hb11⟩) | (with_reducible refine (hspy.out _).mono ?_; rintro e w12 ⟨rfl, hb12⟩)
        first | refine hK.out _ _ (by assumption) ?_ | refine hK.out _ _ (Later.refl _) ?_ | refine hK.out _ _ (Below.alloc (Below.refl _ _) (Nat.le_refl _) _) ?_
        clear hK K; try simp only [Act.put, List.setIfInBounds_toArray, List.set_cons_zero, List.set_cons_succ]
        refine wpAnyL_one 4 (by kernel_rfl) rfl (fun K hK => ?_)
        go_simp
        refine (rmeet_any _ _ _).mono ?_; rintro e w13 ⟨rfl, hb13⟩; first | (have zr := row_al_later hb13; have z0 := cell_of_row _ _ 0 _ _ (0, 0) zr; have z1 := cell_of_row _ _ 1 _ _ (0, 0) zr; have z2 := frozen_of_row _ _ 0 _ _ zr; have z3 := frozen_of_row _ _ 1 _ _ zr) | (have zr := row_al_later (hb12.trans hb13); have z0 := cell_of_row _ _ 0 _ _ (0, 0) zr; have z1 := cell_of_row _ _ 1 _ _ (0, 0) zr; have z2 := frozen_of_row _ _ 0 _ _ zr; have z3 := frozen_of_row _ _ 1 _ _ zr) | (have zr := row_al_later (hb11.trans (hb12.trans hb13)); have z0 := cell_of_row _ _ 0 _ _ (0, 0) zr; have z1 := cell_of_row _ _ 1 _ _ (0, 0) zr; have z2 := frozen_of_row _ _ 0 _ _ zr; have z3 := frozen_of_row _ _ 1 _ _ zr) | (have zr : w13.heap[w7.heap.size]? = some (.cells #[.string ByteArray.empty, .string ByteArray.empty] 34 (0, 0)) := row_al_later (W := w7.drew) (Z := (.cells #[.string ByteArray.empty, .string ByteArray.empty] 34)) (hb11.trans (hb12.trans hb13)); have z0 := cell_of_row _ _ 0 _ _ (0, 0) zr; have z1 := cell_of_row _ _ 1 _ _ (0, 0) zr; have z2 := frozen_of_row _ _ 0 _ _ zr; have z3 := frozen_of_row _ _ 1 _ _ zr) | skip
        first | refine hK.out _ _ (by assumption) ?_ | refine hK.out _ _ (Later.refl _) ?_ | refine hK.out _ _ (Below.alloc (Below.refl _ _) (Nat.le_refl _) _) ?_
        clear hK K; try simp only [Act.put, List.setIfInBounds_toArray, List.set_cons_zero, List.set_cons_succ]
        refine wpAnyL_loud 6 (by kernel_rfl) (by rfl) rfl (fun K hK => ?_)
        go_simp
        refine hK.out _ _ ?_
        clear hK K; try simp only [Act.put, List.setIfInBounds_toArray, List.set_cons_zero, List.set_cons_succ]
        refine wpAnyL_done (by kernel_rfl) ?_ _
        (first | (have hl := hb11.trans (hb12.trans hb13); generalize hbk : w13.heap.size = bk; exact cut_leaf bk rfl ⟨hl.trans ((Below.refl _ _).alloc (Nat.le_refl _) _), by rw [← hbk]; exact cell_of_row _ _ 0 _ _ (0, 0) (heap_alloc_new _ _), by rw [← hbk]; exact cell_of_row _ _ 1 _ _ (0, 0) (heap_alloc_new _ _)⟩) | (have hk := hb11.trans hb12; have hl := (hk.trans (later_alloc _ _)).trans hb13; have hgr := hk.size; generalize hbk : w12.heap.size = bk at *; exact cut_leaf bk rfl (set_two hl hgr zr)) | (have hl := (hb11.trans (later_alloc _ _)).trans (hb12.trans hb13); have hgr := hb11.size; generalize hbk : w11.heap.size = bk at *; exact cut_leaf bk rfl (set_two hl hgr zr)) | (have hl := ((later_alloc w7.drew (.cells #[.string ByteArray.empty, .string ByteArray.empty] 34)).trans hb11).trans (hb12.trans hb13); have hgr := Nat.le_refl w7.drew.heap.size; generalize hbk : w7.heap.size = bk at *; exact cut_leaf bk rfl (set_two hl (by have : w7.drew.heap.size = bk := hbk; omega) zr)))
    case h2 =>
      rintro bk W ⟨hFL, hm0, hm1⟩
      have HB8 := hide_ (HB7.out.trans (Later.trans ((Below.refl _ _).drew) hFL))
      by_cases hm : (meetS (spanC x.1 x.2.1 x.2.2) (spanC y.1 y.2.1 y.2.2)).1 < (meetS (spanC x.1 x.2.1 x.2.2) (spanC y.1 y.2.1 y.2.2)).2
      · have g1 := (bl _ _).trans (decide_eq_true hm)
        clear hm
        go_wp2_with fail
        go_ret
        exact ⟨rfl, HB0.out.trans HB8.out⟩
      · have g1 := (bl _ _).trans (decide_eq_false hm)
        have hapx := hide_ (fun (V : World) (hV : Later W0 V) (b1 : Nat) (hb : Rd V 3 (some ⟨b1, 0, none⟩) 2 (crow [x, y])) => apply_sum (c := c) (c' := 2) (HR.out.below (HB0.out.trans hV)) HL.out HA.out hb rfl (by omega))
        have hapy := hide_ (fun (V : World) (hV : Later W0 V) (b1 : Nat) (hb : Rd V 3 (some ⟨b1, 0, none⟩) 2 (crow [y, x])) => apply_sum (c := c) (c' := 2) (HR.out.below (HB0.out.trans hV)) HL.out HA.out hb rfl (by omega))
        have HD := hide_ (show ∀ k, ¬ (InS (spanC x.1 x.2.1 x.2.2) k ∧ InS (spanC y.1 y.2.1 y.2.2) k) from fun k hk => by have h9 := (hmi.out k).2 hk; unfold InS at h9; grind)
        clear hm
        go_wp2_with fail
        refine (hapx.out _ (HB8.out.trans (later_alloc _ _)) _ (Rd.new W _ _ 2 _ rfl)).mono ?_; rintro e w9 ⟨⟨A9, c9, m9, M9, e9, rfl, hm9, hmn9, hA9, hcap9, hr9, hi9, hap9, _, hz9⟩, hb9⟩
        have HB9 := hide_ (HB8.out.trans ((later_alloc _ _).trans hb9))
        have HM9 := hide_ hm9; have HR9 := hide_ hr9; have HAP9 := hide_ hap9
        have bx0 := cell_of_row _ _ 0 _ _ (0, 0) ((HB9.out.block _ (heap_lt0 HBX.out)).trans HBX.out)
        have bx1 := cell_of_row _ _ 1 _ _ (0, 0) ((HB9.out.block _ (heap_lt0 HBX.out)).trans HBX.out)
        have bx2 := cell_of_row _ _ 2 _ _ (0, 0) ((HB9.out.block _ (heap_lt0 HBX.out)).trans HBX.out)
        have by0 := cell_of_row _ _ 0 _ _ (0, 0) ((HB9.out.block _ (heap_lt0 HBY.out)).trans HBY.out)
        have by1 := cell_of_row _ _ 1 _ _ (0, 0) ((HB9.out.block _ (heap_lt0 HBY.out)).trans HBY.out)
        have by2 := cell_of_row _ _ 2 _ _ (0, 0) ((HB9.out.block _ (heap_lt0 HBY.out)).trans HBY.out)
        clear ax0 ax1 ax2 ay0 ay1 ay2 hm0 hm1 hFL hapx hm9 hA9 hcap9 hr9 hi9 hap9 hz9 hb9
        go_wp2_with fail
        refine (hapy.out _ (HB9.out.trans (later_alloc _ _)) _ (Rd.new w9 _ _ 2 _ rfl)).mono ?_; rintro e w10 ⟨⟨A10, c10, m10, M10, e10, rfl, hm10, hmn10, hA10, hcap10, hr10, hi10, hap10, _, hz10⟩, hb10⟩
        have HB10 := hide_ (HB9.out.trans ((later_alloc _ _).trans hb10))
        have HRR9 := hide_ ((HR9.out.alloc _).below hb10)
        have HM10 := hide_ hm10; have HR10 := hide_ hr10; have HAP10 := hide_ hap10
        clear bx0 bx1 bx2 by0 by1 by2 hapy hm10 hmn10 hA10 hcap10 hr10 hi10 hap10 hz10 hb10 HR9
        by_cases h9 : e9 = 0
        · subst h9
          by_cases h10 : e10 = 0
          · subst h10
            obtain ⟨N1, hn1, hn2'⟩ := app_two (HAP9.out rfl)
            obtain ⟨N2, hn3, hn4⟩ := app_two (HAP10.out rfl)
            obtain rfl : M9 = M10 := one_comm (fun k hk => HD.out k ⟨(named_has _ _ k).2 hk.1, (named_has _ _ k).2 hk.2⟩) hn1 hn2' hn3 hn4
            obtain rfl : m9 = m10 := by rw [← HM9.out, HM10.out]
            clear hn1 hn2' hn3 hn4
            go_wp2_with fail
            refine (pairs_yes (c := c9) (c' := c10) HRR9.out HR10.out HM9.out (by omega)).mono ?_; rintro e w11 ⟨rfl, hb11⟩
            have HB11 := hide_ (HB10.out.trans hb11)
            clear hb11
            go_wp2_with fail
            go_ret
            exact ⟨rfl, HB0.out.trans HB11.out⟩
          · go_wp2_with fail
            go_ret
            exact ⟨rfl, HB0.out.trans HB10.out⟩
        · go_wp2_with fail
          go_ret
          exact ⟨rfl, HB0.out.trans HB10.out⟩
section
variable {H : Type} {enc : TypeId × Value → H} {W : World} {b base : Nat} {held : Bool} {r : Reach}
set_option maxRecDepth 20000 in
theorem open_change_b {v : Value} {d : DataW H} {p : List MemPlace} (hv : Value.okWide Try.prog W r base 32 v) (h : DataW.Trod enc Try.prog W b (fun _ => true) held 32 v d p) :
    ∃ s : Chg, v = .agg #[.int .i64 s.1, .string s.2.1, .string s.2.2] ∧ s.2.1.size ≤ maxLen ∧ s.2.2.size ≤ maxLen ∧ s.2.1.size + s.2.2.size + 1 ≤ Rows.uptoBulk d := by
  obtain ⟨c0, c1, c2, y0, y1, y2, m, rfl, rfl, rfl, hy0, hy1, hy2⟩ := Joins.open_agg3 Try.underlying32 (by kernel_rfl) (by kernel_rfl) hv h
  obtain ⟨k, e0, rfl, _⟩ := DataW.trod_int Try.underlying3 hy0
  obtain ⟨s1, e1, rfl, w1⟩ := DataW.trod_string Try.underlying9 hy1
  obtain ⟨s2, e2, rfl, w2⟩ := DataW.trod_string Try.underlying9 hy2
  simp at e0 e1 e2
  subst e0 e1 e2
  refine ⟨(k, s1, s2), rfl, w1, w2, ?_⟩
  have e : ∀ s : ByteArray, s.data.toList.length = s.size := fun s => Array.length_toList
  simp only [Rows.uptoBulk, Rows.uptoBulkAll, e]
  omega
end
set_option maxRecDepth 20000 in
theorem changeParts_contract (H : Type) (enc : TypeId × Value → H) (W : World) (base : Nat) (args : Array Value) (ds : List (DataW H)) (before : List MemPlace)
    (hval : ∀ (j : Nat) t v, Try.f4.params[j]? = some t → args[j]? = some v → Value.okWide Try.prog W .any base t v)
    (hA : DataW.TrodAll enc Try.prog W 0 (fun _ => true) true Try.f4.params.toList args.toList ds before)
    (_hsz : (DataW.weightsEach Try.prog (Try.f4.params.toList ++ Rows.changePartsSpec.plain.varTypes Try.prog) (ds ++ [])).all (· ≤ reachBytes) = true)
    (hk : Rows.uptoSmall H (ds ++ []) = true) :
    Calls Try.prog 4 args W fun e W' => e = .returned (.bool true) ∧ Below W.heap.size W W' := by
  rw [Try.params4] at hA hval
  obtain ⟨v0, vs0, d0, ds0, p0, q0, hargs, rfl, rfl, h0, r0⟩ := trodAll_cons hA
  obtain ⟨v1, vs1, d1, ds1, p1, q1, rfl, rfl, rfl, h1, r1⟩ := trodAll_cons r0
  obtain ⟨v2, vs2, d2, ds2, p2, q2, rfl, rfl, rfl, h2, r2⟩ := trodAll_cons r1
  obtain ⟨v3, vs3, d3, ds3, p3, q3, rfl, rfl, rfl, h3, r3⟩ := trodAll_cons r2
  obtain ⟨v4, vs4, d4, ds4, p4, q4, rfl, rfl, rfl, h4, r4⟩ := trodAll_cons r3
  obtain ⟨rfl, rfl, rfl⟩ := trodAll_nil r4
  obtain rfl : args = #[v0, v1, v2, v3, v4] := by cases args; simp_all
  obtain ⟨A, c, L, rfl, _, _, hA1, hR, hb0⟩ := open_pairs (hval 0 22 v0 rfl rfl) h0
  obtain ⟨Aa, ca, Ca, rfl, _, _, hA2, hR2, hb1, _⟩ := open_changes (hval 1 23 v1 rfl rfl) h1
  obtain ⟨Ab, cb, Cb, rfl, _, _, hA3, hR3, hb2, _⟩ := open_changes (hval 2 23 v2 rfl rfl) h2
  obtain ⟨x, rfl, _, _, hb3⟩ := open_change_b (hval 3 32 v3 rfl rfl) h3
  obtain ⟨y, rfl, _, _, hb4⟩ := open_change_b (hval 4 32 v4 rfl rfl) h4
  have hb := bulk_bound hk
  have hs := sumM_length (fun a : Int × ByteArray × ByteArray => 0 + a.2.1.size + a.2.2.size + 3) Ca
  have hs2 := sumM_length (fun a : Int × ByteArray × ByteArray => 0 + a.2.1.size + a.2.2.size + 3) Cb
  simp only [Rows.uptoBulkAll] at hb
  exact changeParts_walk A Aa Ab L.length c Ca.length ca Cb.length cb L Ca Cb x y W hR rfl hA1 hR2 rfl hA2 hR3 rfl hA3 (by omega) (by omega) (by omega)

set_option maxRecDepth 100000 in
theorem changeParts_lifted (os : Os) (started : os.Started) (H : Type) (enc : TypeId × Value → H) (F : Stop.Interp) :
    ReturnsInHanded {} Try.checked os 4 .any ((Rows.OpenSpec.upto Rows.changePartsSpec).pre6 enc Try.prog Try.f4 Rows.changePartsUptoRow.domain false) (((Rows.OpenSpec.upto Rows.changePartsSpec).at F).post enc Try.prog Try.f4 false true false false) := by
  refine returnsInHanded_of_cond_sized (C := Try.checked) (s := Rows.OpenSpec.upto Rows.changePartsSpec) (k := Rows.uptoSmall) rfl own started (by kernel_rfl) Try.func4
    (OpenSpec.witness (enc := enc) (C := Try.checked) (s := Rows.OpenSpec.upto Rows.changePartsSpec) (k := Rows.uptoSmall) rfl false ⟨#[], #[.slice none 0 0, .slice none 0 0, .slice none 0 0, .agg #[.int .i64 0, .string ByteArray.empty, .string ByteArray.empty], .agg #[.int .i64 0, .string ByteArray.empty, .string ByteArray.empty]], []⟩ 8 (by kernel_rfl) (by kernel_rfl) (by kernel_rfl)
      (x := ([.nil, .nil, .nil, .agg [.lit (.int .i64 0), .lit (.string []), .lit (.string [])], .agg [.lit (.int .i64 0), .lit (.string []), .lit (.string [])]], [], [])) (by kernel_rfl) rfl (by kernel_rfl)) ?_
  intro W base args ds gs before hval hW _ hk hsz _
  have hW' := hW
  obtain ⟨p, q, hA0, hV, rfl, hfz, hnd⟩ := hW
  obtain ⟨rfl, rfl⟩ := trodVars_none hV
  have hA : DataW.TrodAll enc Try.prog W 0 (fun _ => true) true Try.f4.params.toList args.toList ds p := hA0
  refine (changeParts_contract H enc W base args ds p hval hA hsz hk).mono fun e W' ⟨he, hb⟩ => ?_
  subst he
  have hds : ds.length = 5 := by
    rw [Try.params4] at hA
    obtain ⟨v0, vs0, d0, ds0, p0, q0, _, rfl, rfl, _, r0⟩ := trodAll_cons hA
    obtain ⟨v1, vs1, d1, ds1, p1, q1, _, rfl, rfl, _, r1⟩ := trodAll_cons r0
    obtain ⟨v2, vs2, d2, ds2, p2, q2, _, rfl, rfl, _, r2⟩ := trodAll_cons r1
    obtain ⟨v3, vs3, d3, ds3, p3, q3, _, rfl, rfl, _, r3⟩ := trodAll_cons r2
    obtain ⟨v4, vs4, d4, ds4, p4, q4, _, rfl, rfl, _, r4⟩ := trodAll_cons r3
    obtain ⟨_, rfl, rfl⟩ := trodAll_nil r4
    rfl
  have hsh : ∃ d0 d1 d2 d3 d4 : DataW H, ds = [d0, d1, d2, d3, d4] := by
    match ds, hds with
    | [d0, d1, d2, d3, d4], _ => exact ⟨d0, d1, d2, d3, d4, rfl⟩
  obtain ⟨d0, d1, d2, d3, d4, rfl⟩ := hsh
  exact ⟨_, rfl, post_law (s := Rows.changePartsSpec) laidOut (by kernel_rfl) Try.underlying4 rfl (by kernel_rfl) hW' rfl rfl rfl hb⟩
theorem changeParts_over : Rows.changePartsUptoRow.holds Try.pinned (Rows.OpenSpec.upto Rows.changePartsSpec) :=
  OpenClaim.holds_of_cond 4 Try.f4 rfl rfl rfl rfl rfl rfl rfl ⟨rfl, rfl, rfl, rfl, rfl⟩ rfl rfl rfl rfl rfl (by kernel_rfl) Try.func4 (by kernel_rfl)
    (of_decide_eq_true (by kernel_rfl)) (by unfold Func.isWrapper; first | (rw [if_pos (by decide +kernel)]; kernel_rfl) | (rw [if_neg (by decide +kernel)]; exact ⟨rfl, rfl⟩))
    (fun os started H enc _ F => changeParts_lifted os started H enc F)
/-- The statement. -/
theorem changeParts_holds : Rows.ChangePartsUptoSaid := changeParts_over
end Go.Proofs.Ytblljpdlmllceaa
