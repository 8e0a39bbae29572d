/-
  The referee's Judge.
-/
import Derived.Test.YtidlkomgondkiaaKRMem
namespace Go.Proofs.Ytidlkomgondkiaa
open Go.RowKit
set_option linter.unusedVariables false
set_option linter.unusedSimpArgs false
/-- The sorts of a referee's blocks. -/
def isRef (t : TypeId) : Prop := t = 98 ∨ isMarks t
/-- Marks stay while a block ahead of them is written. -/
theorem MK.other {w w' : World} {B0 g : Nat} {L : List Mk} {f l : Int} (h : MK w B0 L f l) (hg : w.grownBy w' (some g)) (hlt : g < B0) : MK w' B0 L f l := by
  obtain ⟨A, n, c, h1, h2, h3⟩ := h
  refine ⟨A, n, c, (hg.block B0 (heap_lt0 h1) (fun e => by have := Option.some.inj e; omega)).trans h1, h2.kept hg (.inr fun h4 => ?_), h3⟩
  have := (h2.lt _ h4).1; omega
/-- A referee that judges, with what it told last, and its marks. -/
def RS (w : World) (R0 : Nat) (E V : Int) (J : Bool) (told : List Int) (L : List Mk) (f l : Int) : Prop :=
  ∃ B0 At n c, RefAt w R0 E V (.pointer (some ⟨B0, 0, none⟩)) J (.slice At n c) ∧ R0 < B0 ∧ MK w B0 L f l ∧ w.ownsRow (R0 + 1) 3 1 (.slice At n c) n (ints told) ∧ told.length = n ∧ Fit L l ∧ 0 ≤ f ∧ f ≤ V ∧ l ≤ V ∧ 1 ≤ E
theorem RS.below {w w' : World} {R0 : Nat} {E V : Int} {J : Bool} {told : List Int} {L : List Mk} {f l : Int} (h : RS w R0 E V J told L f l) (hb : Later w w') : RS w' R0 E V J told L f l := by
  obtain ⟨B0, At, n, c, h1, h2, h3, h4, h5⟩ := h
  exact ⟨B0, At, n, c, later_row hb h1, h2, h3.below hb, own_below h4 hb, h5⟩
theorem RS.at_ {w : World} {R0 : Nat} {E V : Int} {J : Bool} {told : List Int} {L : List Mk} {f l : Int} (h : RS w R0 E V J told L f l) : ∃ mv tv, RefAt w R0 E V mv J tv := by
  obtain ⟨B0, At, n, c, h1, _⟩ := h
  exact ⟨_, _, h1⟩
theorem RS.fit {w : World} {R0 : Nat} {E V : Int} {J : Bool} {told : List Int} {L : List Mk} {f l : Int} (h : RS w R0 E V J told L f l) : Fit L l ∧ 0 ≤ f ∧ f ≤ V ∧ l ≤ V ∧ 1 ≤ E := by
  obtain ⟨B0, At, n, c, h1, h2, h3, h4, h5, h6⟩ := h
  exact h6
theorem rs_begin {w w' : World} {R0 : Nat} {e v : Int} (h : RefAt w' R0 e v (.pointer (some ⟨w.heap.size, 0, none⟩)) false (.slice none 0 0)) (hR : R0 < w.heap.size) (hm : MK w' w.heap.size [] v 0) (h1 : ¬ (e < 1 ∨ v < 0)) : RS w' R0 e v false [] [] v 0 :=
  ⟨_, none, 0, 0, h, hR, hm, World.ownsRow_nil _ _ _ _, rfl, ⟨trivial, Int.le_refl _, fun k hk => (by cases hk)⟩, by omega, by omega, by omega, by omega⟩
set_option maxHeartbeats 1000000 in
/-- Of another epoch, or of none. -/
theorem rjudge_wrong {w : World} {R0 : Nat} {E V : Int} {mv tv x : Value} {J : Bool} (e p v : Int) (h : RefAt w R0 E V mv J tv) (hE : e ≠ E ∨ e = 0) :
    Calls Try.prog 30 #[.pointer (some ⟨R0, 0, none⟩), .int .i64 e, .int .i64 p, .int .i64 v, x] w fun en w' => en = .returned (.tuple #[.slice none 0 0, .int .i64 4]) ∧ Later w w' := by
  have m0 := cell_of_row _ _ 0 _ _ (0, 0) h
  clear h
  by_cases h1 : e = E
  · have h2 : e = 0 := hE.elim (fun h => absurd h1 h) id
    have q1 : (e != E) = false := by simp [h1]
    have q2 : (e == 0) = true := by simp [h2]
    clear hE h1 h2
    go_enter Try.func30, Try.ntmps30
    go_wp2_with fail
    go_ret2
    exact ⟨rfl, Later.refl _⟩
  · have q1 : (e == E) = false := by simpa using h1
    clear hE
    go_enter Try.func30, Try.ntmps30
    go_wp2_with fail
    go_ret2
    exact ⟨rfl, Later.refl _⟩
/-- What Judge answers, and leaves. -/
def RJPost (R0 : Nat) (E V : Int) (J : Bool) (told : List Int) (L : List Mk) (f l p v : Int) (T : List Tx) (w : World) (en : Ending) (w' : World) : Prop :=
  (v = V ∧ J = true ∧ (∃ x, en = .returned (.tuple #[x, .int .i64 0]) ∧ w'.ownsRow w.heap.size 3 1 x told.length (ints told)) ∧ Later w w') ∨
  (v < V ∧ en = .returned (.tuple #[.slice none 0 0, .int .i64 7]) ∧ Later w w') ∨
  (V ≤ v ∧ ¬ (v = V ∧ J = true) ∧ (p ≠ V ∨ v = V) ∧ en = .returned (.tuple #[.slice none 0 0, .int .i64 9]) ∧ Later w w') ∨
  (p = V ∧ V < v ∧ ¬ (T.length ≤ 4 ∧ T.all soundT = true) ∧ en = .returned (.tuple #[.slice none 0 0, .int .i64 2]) ∧ Later w w') ∨
  (p = V ∧ V < v ∧ T.length ≤ 4 ∧ T.all soundT = true ∧ ∃ D M m x, JudgeAll v f L l T D M m ∧ en = .returned (.tuple #[x, .int .i64 0]) ∧ w'.ownsRow w.heap.size 3 1 x D.length (ints D) ∧
    RS w' R0 E v true D (if v - 100 < f then M else M.filter (newer (v - 100))) (if v - 100 < f then f else v - 100) m ∧ Turns R0 isRef w w')
set_option maxRecDepth 100000 in
set_option maxHeartbeats 4000000 in
theorem rjudge_any {w : World} {R0 nt ct : Nat} {E V f l : Int} {J : Bool} {told : List Int} {L : List Mk} {At : Option Addr} {T : List Tx} (p v : Int) (h : RS w R0 E V J told L f l) (hT : TxRow w At nt T) (hnt : nt ≤ 1048576) (hn : L.length ≤ 1048000) (ht : told.length ≤ 1048576) (hv : v ≤ 9223372036854775807) :
    Calls Try.prog 30 #[.pointer (some ⟨R0, 0, none⟩), .int .i64 E, .int .i64 p, .int .i64 v, .slice At nt ct] w (RJPost R0 E V J told L f l p v T w) := by
  have HRS := hide_ h
  obtain ⟨B0, Ao, n, c, h1, h2, h3, h4, h5, h6, h7, h8, h9, h10⟩ := h
  have m0 := cell_of_row _ _ 0 _ _ (0, 0) h1
  have m1 := cell_of_row _ _ 1 _ _ (0, 0) h1
  have m3 := cell_of_row _ _ 3 _ _ (0, 0) h1
  have m4 := cell_of_row _ _ 4 _ _ (0, 0) h1
  have m2 := cell_of_row _ _ 2 _ _ (0, 0) h1
  have H1 := hide_ h1; have H3 := hide_ h3; have H4 := hide_ h4; have H5 := hide_ h5; have H6 := hide_ h6; have H2 := hide_ h2
  have hRB := heap_lt0 h1
  have e0 : (E == 0) = false := by rw [beq_eq_false_iff_ne]; omega
  have HT := hide_ hT
  clear h1 h3 h4 h5 h6 hT h2
  by_cases a1 : v = V
  · subst a1
    cases J
    · go_enter Try.func30, Try.ntmps30
      by_cases a2 : p = v
      · subst a2
        go_wp2_with fail
        go_ret2
        exact .inr (.inr (.inl ⟨Int.le_refl _, fun h => (nomatch h.2), .inr rfl, rfl, Later.refl _⟩))
      · have A2 := hide_ a2
        have q2 : (p == v) = false := by simpa using a2
        clear a2
        go_wp2_with fail
        go_ret2
        exact .inr (.inr (.inl ⟨Int.le_refl _, fun h => (nomatch h.2), .inr rfl, rfl, Later.refl _⟩))
    · go_enter Try.func30, Try.ntmps30
      go_wp2_with fail
      refine (iclone_any H4.out (by have := H5.out; omega)).mono ?_; rintro e w1 ⟨⟨x, rfl, ho⟩, hb⟩
      have HO := hide_ ho; have HB := hide_ hb
      clear ho hb
      go_wp2_with fail
      go_ret2
      exact .inl ⟨rfl, rfl, ⟨_, rfl, by rw [H5.out]; exact HO.out⟩, HB.out⟩
  · have q1 : (v == V) = false := by simpa using a1
    by_cases a2 : v < V
    · have A2 := hide_ a2
      clear a1
      go_enter Try.func30, Try.ntmps30
      go_wp2_with fail
      go_ret2
      exact .inr (.inl ⟨A2.out, rfl, Later.refl _⟩)
    · have A2 := hide_ (show V < v by omega)
      by_cases a3 : p = V
      · subst a3
        clear a1
        go_enter Try.func30, Try.ntmps30
        go_wp2_with fail
        obtain ⟨Am, nm, cm, hma, hmo, hml⟩ := H3.out
        have hst := HT.out.stayM hma
        refine (judges_any (ct := ct) v H3.out hn H6.out (by omega) hst (by omega)).mono ?_; rintro en w5 hj
        rcases hj with ⟨hx, _⟩ | ⟨_, hns, rfl, hb⟩ | ⟨_, hs1, hs2, Av, nv, cv, D, M, m, rfl, hJ, hV, hVo, hMK, hG⟩
        · exact absurd hx (by have := A2.out; omega)
        · have HNS := hide_ hns; have HB := hide_ hb
          clear hma hmo hml hst hns hb
          go_wp2_with fail
          go_ret2
          exact .inr (.inr (.inr (.inl ⟨rfl, A2.out, HNS.out, rfl, HB.out⟩)))
        · have HJ := hide_ hJ; have HV := hide_ hV; have HVO := hide_ hVo; have HMK := hide_ hMK; have HG := hide_ hG; have HS := hide_ (And.intro hs1 hs2); have hma_ := hide_ hma
          have hfa := fit_all hJ H6.out (by omega) (fun t2 h2 => (soundT_iff.1 (List.all_eq_true.1 hs2 t2 h2)).2.2.1)
          have HFA := hide_ hfa
          have hx := (hG.block R0 hRB (fun e => by have := Option.some.inj e; have := H2.out; omega)).trans H1.out
          have HX := hide_ hx
          have x1 := cell_of_row _ _ 1 _ _ (0, 0) hx
          have x2 := cell_of_row _ _ 2 _ _ (0, 0) hx
          have x3 := cell_of_row _ _ 3 _ _ (0, 0) hx
          have x4 := cell_of_row _ _ 4 _ _ (0, 0) hx
          have fz := fun k => frozen_of_row _ _ k _ _ hx
          have r1 : -100 ≤ v - 100 := by omega
          clear hma hmo hml hst hJ hV hVo hMK hG hfa hx hs1 hs2 m0 m1 m2 m3 m4
          go_wp2_with fail
          have hg6 : w5.grownBy (((w5.setCell ⟨R0, 1, none⟩ (.int .i64 v)).setCell ⟨R0, 3, none⟩ (.bool true)).setCell ⟨R0, 4, none⟩ (.slice Av nv cv)) (some R0) := grown_setCell (grown_setCell (grown_setCell (World.grownBy.refl w5 (some R0)) (.inl rfl) _) (.inl rfl) _) (.inl rfl) _
          have hx6 : (((w5.setCell ⟨R0, 1, none⟩ (.int .i64 v)).setCell ⟨R0, 3, none⟩ (.bool true)).setCell ⟨R0, 4, none⟩ (.slice Av nv cv)).heap[R0]? = some (.cells #[.int .i64 E, .int .i64 v, .pointer (some ⟨B0, 0, none⟩), .bool true, .slice Av nv cv] 98 (0, 0)) :=
            heap_setCell_same _ R0 4 _ _ _ (heap_setCell_same _ R0 3 _ _ _ (heap_setCell_same w5 R0 1 _ _ _ HX.out))
          have hsR : OfSort isRef w R0 := OfSort.of H1.out (.inl rfl)
          have hsB : OfSort isRef w B0 := OfSort.of hma_.out (.inr (.inl rfl))
          have HT6 := hide_ ((((Turns.grown HG.out (Nat.le_of_lt H2.out) (Nat.le_of_lt hRB) hsB).setCell (Nat.le_refl R0) hsR 1 (.int .i64 v)).setCell (Nat.le_refl R0) hsR 3 (.bool true)).setCell (Nat.le_refl R0) hsR 4 (.slice Av nv cv))
          have HMK6 := hide_ (HMK.out.other hg6 H2.out)
          have HVO6 := hide_ (HVO.out.kept hg6 (.inr fun h4 => by have := (HVO.out.lt _ h4).1; omega))
          have HX6 := hide_ hx6
          obtain ⟨W6, hW6⟩ : ∃ W6, W6 = (((w5.setCell ⟨R0, 1, none⟩ (.int .i64 v)).setCell ⟨R0, 3, none⟩ (.bool true)).setCell ⟨R0, 4, none⟩ (.slice Av nv cv)) := ⟨_, rfl⟩
          rw [← hW6] at HT6 HMK6 HVO6 HX6 ⊢
          clear hg6 hx6 hsR hsB hW6 x1 x2 x3 x4 fz
          have hML : M.length ≤ 1048576 := by have := HFA.out.2.2.2; have := HS.out.1; omega
          refine (forget_any (v - 100) HMK6.out hML).mono ?_; rintro en w7 ⟨h7, hT7⟩
          have hlen : D.length = nv := HV.out
          have HVO7 := hide_ (hT7.own HVO6.out (by unfold isMarks; decide))
          have HX7 := hide_ ((hT7.block R0 H2.out).trans HX6.out)
          have HT7 := hide_ (HT6.out.trans (hT7.mono (Nat.le_of_lt H2.out) (fun t ht => .inr ht)))
          have HRS7 := hide_ (show RS w7 R0 E v true D (if v - 100 < f then M else M.filter (newer (v - 100))) (if v - 100 < f then f else v - 100) m by
            have hF := HFA.out
            have hfm : MK w7 B0 (if v - 100 < f then M else M.filter (newer (v - 100))) (if v - 100 < f then f else v - 100) m := by
              rcases h7 with ⟨hlt, _, hm⟩ | ⟨hge, _, hm⟩
              · rw [if_pos hlt, if_pos hlt]; exact hm
              · rw [if_neg (by omega), if_neg (by omega)]; exact hm
            refine ⟨B0, Av, nv, cv, HX7.out, H2.out, hfm, own_base HVO7.out (by omega), hlen, ?_, by split <;> omega, by have := A2.out; split <;> omega, hF.2.1, h10⟩
            split
            · exact hF.1
            · exact ⟨marked_filter hF.1.1 _, hF.1.2.1, fun k hk => hF.1.2.2 k (List.mem_filter.1 hk).1⟩)
          have hen : ∃ x : Value, en = .returned x := by
            rcases h7 with ⟨_, rfl, _⟩ | ⟨_, rfl, _⟩ <;> exact ⟨_, rfl⟩
          obtain ⟨x, rfl⟩ := hen
          clear h7 hT7
          go_wp2_with fail
          refine (iclone_any HVO7.out (by have := judgeAll_length HJ.out; have := HS.out.1; omega)).mono ?_; rintro e w8 ⟨⟨y, rfl, ho⟩, hb⟩
          have HO := hide_ (show w8.ownsRow w.heap.size 3 1 y D.length (ints D) by rw [hlen]; exact own_base ho HT7.out.size)
          have HRS8 := hide_ (HRS7.out.below hb)
          have HT8 := hide_ (HT7.out.trans (Turns.later hb (Nat.le_trans (Nat.le_of_lt hRB) HT7.out.size)))
          clear ho hb
          go_wp2_with fail
          go_ret2
          exact .inr (.inr (.inr (.inr ⟨rfl, A2.out, HS.out.1, HS.out.2, D, M, m, y, HJ.out, rfl, HO.out, HRS8.out, HT8.out⟩)))
      · have A3 := hide_ a3
        have q2 : (p == V) = false := by simpa using a3
        have q3 : (p != V) = true := by simpa using a3
        have A1 := hide_ a1
        clear a1 a3
        go_enter Try.func30, Try.ntmps30
        go_wp2_with fail
        go_ret2
        exact .inr (.inr (.inl ⟨Int.le_of_lt A2.out, fun h => A1.out h.1, .inl A3.out, rfl, Later.refl _⟩))

end Go.Proofs.Ytidlkomgondkiaa
