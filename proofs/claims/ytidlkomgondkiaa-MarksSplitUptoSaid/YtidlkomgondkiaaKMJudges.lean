/-
  The program's Judge: verdicts on several transactions.
-/
import Derived.Test.YtidlkomgondkiaaKMarkJudge
namespace Go.Proofs.Ytidlkomgondkiaa
open Go.RowKit
set_option linter.unusedVariables false
set_option linter.unusedSimpArgs false
/-- Marks stand here, with their list. -/
def MK (w : World) (B0 : Nat) (L : List Mk) (f l : Int) : Prop := ∃ A n c, MarksAt w B0 (.slice A n c) f l ∧ w.ownsRow (B0 + 1) 91 3 (.slice A n c) n (mrow L) ∧ L.length = n
theorem MK.lt {w : World} {B0 : Nat} {L : List Mk} {f l : Int} (h : MK w B0 L f l) : B0 < w.heap.size := by obtain ⟨A, n, c, h1, _⟩ := h; exact heap_lt0 h1
theorem MK.below {w w' : World} {B0 : Nat} {L : List Mk} {f l : Int} (h : MK w B0 L f l) (hb : Later w w') : MK w' B0 L f l := by
  obtain ⟨A, n, c, h1, h2, h3⟩ := h
  exact ⟨A, n, c, (hb.block B0 (heap_lt0 h1)).trans h1, own_below h2 hb, h3⟩
theorem mk_new {w w' : World} {f : Int} (hm : MarksAt w' w.heap.size (.slice none 0 0) f 0) : MK w' w.heap.size [] f 0 := ⟨none, 0, 0, hm, World.ownsRow_nil w' _ _ _, rfl⟩
theorem srow_str {L : List Spn} : ∀ u, u ∈ srow L → ∃ s, u = .string s := by
  intro u hu
  obtain ⟨x, _, hu⟩ := List.mem_flatMap.1 hu
  simp only [encS, List.mem_cons, List.not_mem_nil, or_false] at hu
  rcases hu with rfl | rfl <;> exact ⟨_, rfl⟩
/-- Spans do not lie where Marks lie. -/
theorem rd_grown {w w' : World} {B0 n : Nat} {A A1 : Option Addr} {n1 c1 : Nat} {R : List Spn} {f l : Int} (h : Rd w 2 A n (srow R)) (hm : MarksAt w B0 (.slice A1 n1 c1) f l) (hg : w.grownBy w' (some B0)) : Rd w' 2 A n (srow R) := by
  refine ⟨h.1, fun hn => ?_⟩
  obtain ⟨b, o, e, hc⟩ := h.2 hn
  refine ⟨b, o, e, fun j u hu => ?_⟩
  have h1 := hc j u hu
  have hlt := cell_lt h1
  have hb : b ≠ B0 := by
    rintro rfl
    have h2 := cell_of_row w b (o + j) _ _ (0, 0) hm
    rw [h2] at h1
    obtain ⟨s, rfl⟩ := srow_str u (List.mem_of_getElem? hu)
    match o + j, h1 with
    | 0, h1 => cases h1
    | 1, h1 => cases h1
    | 2, h1 => cases h1
    | k + 3, h1 => exact absurd h1 (by simp)
  rw [World.cell?_of_block (hg.block b hlt (fun e => hb (Option.some.inj e)))]
  exact h1
theorem neIM : (91 : TypeId) ≠ 3 := by decide
/-- Marks stay while a row of other things grows. -/
theorem mk_kept {w w' : World} {B0 base n size : Nat} {v : Value} {xs : List Value} {L : List Mk} {f l : Int} (h : MK w B0 L f l) (ho : w.ownsRow base 3 size v n xs) (hg : w.grownBy w' v.ownBlock) (hB : B0 < base) : MK w' B0 L f l := by
  obtain ⟨A, n, c, h1, h2, h3⟩ := h
  refine ⟨A, n, c, (hg.block B0 (heap_lt0 h1) fun e => ?_).trans h1, own_kept h2 ho neIM hg, h3⟩
  have := (ho.lt B0 e.symm).1; omega
def ints (V : List Int) : List Value := V.map (Value.int .i64)
theorem ints_one (V : List Int) : ∀ u ∈ ints V, u.oneCell' = true := by
  intro u hu
  obtain ⟨x, _, rfl⟩ := List.mem_map.1 hu
  rfl
theorem ints_snoc (V : List Int) (j : Int) : ints (V ++ [j]) = ints V ++ [.int .i64 j] := by simp [ints]
theorem intT : ElemT Try.prog 35 3 1 8 := elem_mk (z := .int .i64 0) Try.underlying35 (by kernel_rfl) rfl (by decide)
/-- What Judge answers, and leaves. -/
def JudgePost (B0 : Nat) (L : List Mk) (f l : Int) (T : List Tx) (v : Int) (w : World) (e : Ending) (w' : World) : Prop :=
  (v ≤ max f l ∧ e = .returned (.tuple #[.slice none 0 0, .int .i64 9]) ∧ Later w w') ∨
  (max f l < v ∧ ¬ (T.length ≤ 4 ∧ T.all soundT = true) ∧ e = .returned (.tuple #[.slice none 0 0, .int .i64 2]) ∧ Later w w') ∨
  (max f l < v ∧ T.length ≤ 4 ∧ T.all soundT = true ∧ ∃ Av nv cv V M m, e = .returned (.tuple #[.slice Av nv cv, .int .i64 0]) ∧ JudgeAll v f L l T V M m ∧ V.length = nv ∧ w'.ownsRow w.heap.size 3 1 (.slice Av nv cv) nv (ints V) ∧ MK w' B0 M f m ∧ w.grownBy w' (some B0))
set_option maxHeartbeats 4000000 in
theorem judges_any {w : World} {B0 nt ct : Nat} {At : Option Addr} {L : List Mk} {T : List Tx} {f l : Int} (v : Int) (hm : MK w B0 L f l) (hn : L.length ≤ 1048000) (hfit : Fit L l) (hf : 0 ≤ f)
    (hT : TxStay w B0 At nt T) (hnt : nt ≤ 4398046511104) :
    Calls Try.prog 17 #[.pointer (some ⟨B0, 0, none⟩), .int .i64 v, .slice At nt ct] w (JudgePost B0 L f l T v w) := by
  have HTL := hide_ hT.1
  have HT := hide_ hT
  have HMK := hide_ hm
  have HFIT := hide_ hfit
  obtain ⟨A, n, c, hma, ho, hl⟩ := hm
  have m1 := cell_of_row _ _ 1 _ _ (0, 0) hma
  have m2 := cell_of_row _ _ 2 _ _ (0, 0) hma
  have HBL := hide_ (heap_lt0 hma)
  have k1 := later_drew_cell m1
  have k2 := later_drew_cell m2
  have hnt2 : (nt : Int) ≤ 4398046511104 := by omega
  have hbad := hide_ (fun W (h : Later w W) => badTany_any (c := ct) (hT.row (grown_later h _)) hnt)
  clear hT hma ho hl hfit
  by_cases e0 : v ≤ max f l
  · have E0 := hide_ e0
    go_enter Try.func17, Try.ntmps17
    go_wp2_with fail
    refine wp_region_k (by kernel_rfl) ?_
    refine wpAnyK_take 0 (v := ?_) rfl (by kernel_rfl) (by kernel_rfl) (by kernel_rfl) (fun _ _ _ h => h) (by rfl) (by intro W hSw; go_simp; with_reducible rfl) ?_; try simp only [Act.put, List.setIfInBounds_toArray, List.set_cons_zero, List.set_cons_succ]
    refine wpAnyK_take 1 (v := ?_) rfl (by kernel_rfl) (by kernel_rfl) (by kernel_rfl) (fun _ _ _ h => h) (by rfl) (by intro W hSw; go_simp; with_reducible rfl) ?_; try simp only [Act.put, List.setIfInBounds_toArray, List.set_cons_zero, List.set_cons_succ]
    refine wpAnyK_take 2 (v := ?_) rfl (by kernel_rfl) (by kernel_rfl) (by kernel_rfl) (fun _ _ _ h => h) (by rfl) (by intro W hSw; go_simp; with_reducible rfl) ?_; try simp only [Act.put, List.setIfInBounds_toArray, List.set_cons_zero, List.set_cons_succ]
    refine wpAnyK_take 3 (v := ?_) rfl (by kernel_rfl) (by kernel_rfl) (by kernel_rfl) (fun _ _ _ h => h) (by rfl) (by intro W hSw; go_simp; with_reducible rfl) ?_; try simp only [Act.put, List.setIfInBounds_toArray, List.set_cons_zero, List.set_cons_succ]
    refine wpAnyK_take 4 (v := ?_) rfl (by kernel_rfl) (by kernel_rfl) (by kernel_rfl) (fun _ _ _ h => h) (by rfl) (by intro W hSw; go_simp; with_reducible rfl) ?_; try simp only [Act.put, List.setIfInBounds_toArray, List.set_cons_zero, List.set_cons_succ]
    refine wpAnyK_take 5 (v := ?_) rfl (by kernel_rfl) (by kernel_rfl) (by kernel_rfl) (fun _ _ _ h => h) (by rfl) (by intro W hSw; go_simp; with_reducible rfl) ?_; try simp only [Act.put, List.setIfInBounds_toArray, List.set_cons_zero, List.set_cons_succ]
    refine wpAnyK_take 6 (v := ?_) rfl (by kernel_rfl) (by kernel_rfl) (by kernel_rfl) (fun _ _ _ h => h) (by rfl) (by intro W hSw; go_simp; with_reducible rfl) ?_; try simp only [Act.put, List.setIfInBounds_toArray, List.set_cons_zero, List.set_cons_succ]
    refine wpAnyK_take 7 (v := ?_) rfl (by kernel_rfl) (by kernel_rfl) (by kernel_rfl) (fun _ _ _ h => h) (by rfl) (by intro W hSw; go_simp; with_reducible rfl) ?_; try simp only [Act.put, List.setIfInBounds_toArray, List.set_cons_zero, List.set_cons_succ]
    refine wpAnyK_take 8 (v := ?_) rfl (by kernel_rfl) (by kernel_rfl) (by kernel_rfl) (fun _ _ _ h => h) (by rfl) (by intro W hSw; go_simp; with_reducible rfl) ?_; try simp only [Act.put, List.setIfInBounds_toArray, List.set_cons_zero, List.set_cons_succ]
    refine wpAnyK_one 9 (by kernel_rfl) rfl (fun K hK => ?_)
    go_simp
    refine hK.out _ _ (Later.refl _) ?_
    clear hK K; try simp only [Act.put, List.setIfInBounds_toArray, List.set_cons_zero, List.set_cons_succ]
    refine wpAnyK_take 10 (v := ?_) rfl (by kernel_rfl) (by kernel_rfl) (by kernel_rfl) (fun _ _ _ h => h) (by rfl) (by intro W hSw; go_simp; with_reducible rfl) ?_; try simp only [Act.put, List.setIfInBounds_toArray, List.set_cons_zero, List.set_cons_succ]
    refine wpAnyK_take 11 (v := ?_) rfl (by kernel_rfl) (by kernel_rfl) (by kernel_rfl) (fun _ _ _ h => h) (by rfl) (by intro W hSw; go_simp; with_reducible rfl) ?_; try simp only [Act.put, List.setIfInBounds_toArray, List.set_cons_zero, List.set_cons_succ]
    refine wpAnyK_done (by kernel_rfl) ?_ _
    go_wp2_with fail
    go_ret2
    exact .inl ⟨E0.out, rfl, below_drewN (Later.refl w) 1⟩
  · have e1 : max f l < v := by omega
    have E0 := hide_ e1
    by_cases e4 : nt ≤ 4
    · have p4 : (nt : Int) ≤ 4 := by omega
      have p4' : ¬ (4 : Int) < (nt : Int) := by omega
      have HB0 := hide_ (show Later w w.drew from below_drewN (Later.refl w) 1)
      by_cases es : T.all soundT = true
      · have ES := hide_ es
        go_enter Try.func17, Try.ntmps17
        go_wp2_with fail
        refine wp_region_k (by kernel_rfl) ?_
        refine wpAnyK_take 0 (v := ?_) rfl (by kernel_rfl) (by kernel_rfl) (by kernel_rfl) (fun _ _ _ h => h) (by rfl) (by intro W hSw; go_simp; with_reducible rfl) ?_; try simp only [Act.put, List.setIfInBounds_toArray, List.set_cons_zero, List.set_cons_succ]
        refine wpAnyK_take 1 (v := ?_) rfl (by kernel_rfl) (by kernel_rfl) (by kernel_rfl) (fun _ _ _ h => h) (by rfl) (by intro W hSw; go_simp; with_reducible rfl) ?_; try simp only [Act.put, List.setIfInBounds_toArray, List.set_cons_zero, List.set_cons_succ]
        refine wpAnyK_take 2 (v := ?_) rfl (by kernel_rfl) (by kernel_rfl) (by kernel_rfl) (fun _ _ _ h => h) (by rfl) (by intro W hSw; go_simp; with_reducible rfl) ?_; try simp only [Act.put, List.setIfInBounds_toArray, List.set_cons_zero, List.set_cons_succ]
        refine wpAnyK_take 3 (v := ?_) rfl (by kernel_rfl) (by kernel_rfl) (by kernel_rfl) (fun _ _ _ h => h) (by rfl) (by intro W hSw; go_simp; with_reducible rfl) ?_; try simp only [Act.put, List.setIfInBounds_toArray, List.set_cons_zero, List.set_cons_succ]
        refine wpAnyK_take 4 (v := ?_) rfl (by kernel_rfl) (by kernel_rfl) (by kernel_rfl) (fun _ _ _ h => h) (by rfl) (by intro W hSw; go_simp; with_reducible rfl) ?_; try simp only [Act.put, List.setIfInBounds_toArray, List.set_cons_zero, List.set_cons_succ]
        refine wpAnyK_take 5 (v := ?_) rfl (by kernel_rfl) (by kernel_rfl) (by kernel_rfl) (fun _ _ _ h => h) (by rfl) (by intro W hSw; go_simp; with_reducible rfl) ?_; try simp only [Act.put, List.setIfInBounds_toArray, List.set_cons_zero, List.set_cons_succ]
        refine wpAnyK_take 6 (v := ?_) rfl (by kernel_rfl) (by kernel_rfl) (by kernel_rfl) (fun _ _ _ h => h) (by rfl) (by intro W hSw; go_simp; with_reducible rfl) ?_; try simp only [Act.put, List.setIfInBounds_toArray, List.set_cons_zero, List.set_cons_succ]
        refine wpAnyK_take 7 (v := ?_) rfl (by kernel_rfl) (by kernel_rfl) (by kernel_rfl) (fun _ _ _ h => h) (by rfl) (by intro W hSw; go_simp; with_reducible rfl) ?_; try simp only [Act.put, List.setIfInBounds_toArray, List.set_cons_zero, List.set_cons_succ]
        refine wpAnyK_take 8 (v := ?_) rfl (by kernel_rfl) (by kernel_rfl) (by kernel_rfl) (fun _ _ _ h => h) (by rfl) (by intro W hSw; go_simp; with_reducible rfl) ?_; try simp only [Act.put, List.setIfInBounds_toArray, List.set_cons_zero, List.set_cons_succ]
        refine wpAnyK_one 9 (by kernel_rfl) rfl (fun K hK => ?_)
        go_simp
        refine hK.out _ _ (Later.refl _) ?_
        clear hK K; try simp only [Act.put, List.setIfInBounds_toArray, List.set_cons_zero, List.set_cons_succ]
        refine wpAnyK_take 10 (v := ?_) rfl (by kernel_rfl) (by kernel_rfl) (by kernel_rfl) (fun _ _ _ h => h) (by rfl) (by intro W hSw; go_simp; with_reducible rfl) ?_; try simp only [Act.put, List.setIfInBounds_toArray, List.set_cons_zero, List.set_cons_succ]
        refine wpAnyK_take 11 (v := ?_) rfl (by kernel_rfl) (by kernel_rfl) (by kernel_rfl) (fun _ _ _ h => h) (by rfl) (by intro W hSw; go_simp; with_reducible rfl) ?_; try simp only [Act.put, List.setIfInBounds_toArray, List.set_cons_zero, List.set_cons_succ]
        refine wpAnyK_done (by kernel_rfl) ?_ _
        clear k1 k2 m1 m2
        go_wp2_with fail
        refine (hbad.out _ HB0.out).mono ?_; rintro e w2 ⟨rfl, hb2⟩
        rw [ES.out]
        have HB2 := hide_ (Later.trans HB0.out hb2)
        have HO2 := hide_ (World.ownsRow_nil w2 w.heap.size 3 1)
        have HMK2 := hide_ (HMK.out.below HB2.out)
        clear hb2 hbad es
        go_wp2_with fail
        have HST := hide_ (show JudgeAll v f L l (T.take 0) [] L l from ⟨rfl, rfl, rfl⟩)
        go_loopw [8, 41] (fun s8 s41 wr => ∃ (k : Nat) (V : List Int) (M : List Mk) (m : Int), k ≤ nt ∧ s41 = .int .i64 k ∧ Hid (JudgeAll v f L l (T.take k) V M m) ∧ Hid (wr.ownsRow w.heap.size 3 1 s8 k (ints V)) ∧ Hid (MK wr B0 M f m) ∧ Hid (w.grownBy wr (some B0))) (fun _ i _ => nt - (intOf i).toNat)
        case atStart => exact ⟨0, [], L, l, Nat.zero_le _, rfl, HST, HO2, HMK2, hide_ (grown_later HB2.out _)⟩
        case round =>
          obtain ⟨k, V, M, m, hk, rfl, HJ, HO, HMKr, HG⟩ := hrel
          obtain ⟨A8, c8, rfl⟩ := own_form HO.out
          by_cases hlt : k < nt
          · have q1 : (k : Int) < (nt : Int) := by omega
            obtain ⟨t, ht⟩ : ∃ t, T[k]? = some t := ⟨_, List.getElem?_eq_getElem (by rw [HTL.out]; exact hlt)⟩
            obtain ⟨b, o, A1, A2, m1, c1, m2, c2, hAt, l3, l4, l5, l6, hst⟩ := HT.out.2 k t ht
            obtain rfl := hAt
            obtain ⟨l0, l1, l2, l7, l8⟩ := hst wr HG.out
            have hso := soundT_iff.1 (List.all_eq_true.1 ES.out t (List.mem_of_getElem? ht))
            have HSO := hide_ hso
            have hfa := fit_all HJ.out HFIT.out (by have := E0.out; omega) (fun t2 h2 => (soundT_iff.1 (List.all_eq_true.1 ES.out t2 (List.mem_of_mem_take h2))).2.2.1)
            have hkl : (T.take k).length ≤ 4 := by rw [List.length_take]; omega
            have hML : M.length ≤ 1048192 := by have := hfa.2.2.2; omega
            have HFA := hide_ hfa
            have HTK := hide_ (take_snoc ht)
            have HST := hide_ hst; have HC2 := hide_ l4
            obtain ⟨An, nn, cn, hma, hmo, hml⟩ := HMKr.out
            have ha := later_alloc wr (.cells #[.int .i64 t.1, .slice A1 m1 c1, .slice A2 m2 c2] 32)
            have hju := hide_ (judge_any (c := cn) (A3 := A2) (p := m2) (c3 := c2) (c2 := c1) (r := t.1) ((ha.block B0 (heap_lt0 hma)).trans hma) ((Rd.of_own hmo).below ha) hml (by omega) (l7.below ha) l3 l5 hso.1)
            have HA := hide_ ha
            clear ht hso hfa hkl hma hmo hml ha l3 l4 l7 l8 hst
            go_wp2_with fail
            refine hju.out.mono ?_; rintro e w5 ⟨rfl, hb5⟩
            have HX5 := hide_ ((hb5.block wr.heap.size (by simp)).trans (heap_alloc_new wr (.cells #[.int .i64 t.1, .slice A1 m1 c1, .slice A2 m2 c2] 32)))
            have hb6 := Later.trans HA.out hb5
            have HMK5 := hide_ (HMKr.out.below hb6)
            have HO5 := hide_ (own_below HO.out hb6)
            have HG5 := hide_ (grown_trans HG.out (grown_later hb6 (some B0)) (.inl rfl))
            have HLT5 := hide_ (show wr.heap.size < w5.heap.size from heap_lt0 HX5.out)
            generalize hj : judgeV M f t.1 t.2.1 = j at hju ⊢
            have HJV := hide_ hj
            clear hj hju hb5 hb6 l0 l1 l2
            by_cases j1 : j = 1
            · subst j1
              go_wp2_with (at_builtin; go_loud (refine wpList_append_rd _ rfl (.tmp 48) (.tmp 50) 35 rfl w.heap.size 3 1 8 intT _ k (ints V) rfl (HO5.out.alloc _) _ 1 1 [.int .i64 1] rfl (Rd.newAt _ #[.int .i64 1] 3 1 1 _ (0, 0) rfl (by simp)) (ints_one [1]) (by omega) (by unfold maxLen; omega) (by have := Below.size (show Below 0 w w5 from ⟨HG5.out.os, HG5.out.tape, HG5.out.output, HG5.out.size, fun k hk => absurd hk (Nat.not_lt_zero k)⟩); simp; omega) (fun h => nomatch h) ?_; intro v8 w8 hown8 hg8 hat8; have HO8 := hide_ (show w8.ownsRow w.heap.size 3 1 v8 (k + 1) (ints (V ++ [1])) by rw [ints_snoc]; exact hown8); have HLT8 := hide_ hg8.size; have HX8 := hide_ ((hg8.block wr.heap.size (by have := HLT5.out; simp; omega) (fun h => by have := (HO.out.lt _ h.symm).2; omega)).trans (row_al HX5.out _)); have HMK8 := hide_ (mk_kept (HMK5.out.below (later_alloc _ _)) (HO5.out.alloc _) hg8 HBL.out); have HG8 := hide_ (grown_trans (grown_trans HG5.out (World.grownBy_alloc w5 (.cells #[.int .i64 1] 3) (some B0)) (.inl rfl)) hg8 (.inr fun bb hbb => (HO5.out.lt bb hbb).1)); have x2 := cell_of_row _ _ 2 _ _ (0, 0) HX8.out; clear hown8 hg8 hat8))
              obtain ⟨A9, c9, rfl⟩ := own_form HO8.out
              obtain ⟨s0, s1, s2, s3, s4⟩ := HST.out w8 HG8.out
              have hsp := hide_ (spans_any (c := c2) s4 HC2.out (by omega))
              clear s0 s1 s2 s3 s4
              go_wp2_with fail
              refine hsp.out.mono ?_; rintro e w9 ⟨h9, hb9⟩
              obtain ⟨hno, -⟩ | ⟨-, A', R, q, rfl, hRl, hq, hAq, hRd, hRc, hRk⟩ := h9
              · exact absurd HSO.out.2.2.2.1 hno
              have HQ9 := hide_ hRl; have HRC := hide_ hRc; have HRK := hide_ hRk; have HRD9 := hide_ hRd
              have HQP := hide_ hq
              have hq24 : q ≤ 24 := by have := HSO.out.2.2.1; have := HC2.out; omega
              have HMK9 := hide_ (HMK8.out.below hb9)
              have HO9 := hide_ (own_below HO8.out hb9)
              have HG9 := hide_ (grown_trans HG8.out (grown_later hb9 (some B0)) (.inl rfl))
              have HW9 := hide_ (show WrittenL M (R.take 0) v M from writtenL_nil HFA.out.1.1 v)
              have HM9 := hide_ (show m = if R.take 0 = [] then m else v from rfl)
              clear hRl hAq hRd hRc hRk hb9 hsp x2 hq
              obtain ⟨wo, e3⟩ : ∃ wo, wo = wr := ⟨_, rfl⟩
              subst e3
              go_wp2_with fail
              go_loopw [62] (fun s62 W => ∃ (u : Nat) (M' : List Mk) (m' : Int), u ≤ q ∧ s62 = .int .i64 u ∧ Hid (WrittenL M (R.take u) v M') ∧ Hid (m' = if R.take u = [] then m else v) ∧ Hid (MK W B0 M' f m') ∧ Hid (W.ownsRow w.heap.size 3 1 (.slice A9 (k + 1) c9) (k + 1) (ints (V ++ [1]))) ∧ Hid (w.grownBy W (some B0)) ∧ Hid (Rd W 2 A' q (srow R))) (fun i _ => q - (intOf i).toNat)
              case atStart => exact ⟨0, M, m, Nat.zero_le _, rfl, HW9, HM9, HMK9, HO9, HG9, HRD9⟩
              case round =>
                obtain ⟨u, M', m', hu, rfl, HWu, HMu, HMKu, HOu, HGu, HRDu⟩ := hrel
                by_cases hlt2 : u < q
                · have q2 : (u : Int) < (q : Int) := by omega
                  have q3 : (0 : Int) ≤ (u : Int) := by omega
                  obtain ⟨s, hs⟩ : ∃ s, R[u]? = some s := ⟨_, List.getElem?_eq_getElem (by rw [HQ9.out]; exact hlt2)⟩
                  obtain ⟨b3, o3, rfl, t0, t1⟩ := HRDu.out.span hs
                  have HS := hide_ hs
                  obtain ⟨An, nn, cn, hma, hmo, hml⟩ := HMKu.out
                  have HMA := hide_ hma
                  have HBU := hide_ (heap_lt0 hma)
                  have hwr := hide_ (write_any (c := cn) s v ((later_alloc wr (.cells #[.string s.1, .string s.2] 24)).block B0 (heap_lt0 hma) |>.trans hma) ((Rd.of_own hmo).below (later_alloc wr _)) hml (by have := HWu.out.2.2.2; have : (R.take u).length = u := (by rw [List.length_take, HQ9.out]; omega); omega) HWu.out.1 (HRC.out.mem s (List.mem_of_getElem? hs)) (by have := E0.out; omega))
                  clear hs hma hmo
                  go_wp2_with fail
                  refine hwr.out.mono ?_; rintro e w6 ⟨rfl, ⟨A7, n7, c7, L7, hm7, hl7, hn7, hw7, ho7⟩, hg7⟩
                  have hal := later_alloc wr (.cells #[.string s.1, .string s.2] 24)
                  have HMK7 := hide_ (show MK w6 B0 L7 f v from ⟨A7, n7, c7, by have e7 : max m' v = v := (by have h1 := HMu.out; have h2 := HFA.out.2.1; split at h1 <;> omega); rwa [e7] at hm7, own_base ho7 (by have := HBU.out; simp; omega), hl7⟩)
                  have HO7 := hide_ ((HOu.out.alloc _).kept hg7 (.inr fun h2 => by have := (HOu.out.lt _ h2).1; have := HBL.out; omega))
                  have HG7 := hide_ (grown_trans (grown_trans HGu.out (grown_later hal (some B0)) (.inl rfl)) hg7 (.inl rfl))
                  have HRD7 := hide_ (rd_grown (HRDu.out.below hal) ((hal.block B0 (heap_lt0 HMA.out)).trans HMA.out) hg7)
                  have HTS := hide_ (take_snoc HS.out)
                  have HW7 := hide_ (show WrittenL M (R.take (u + 1)) v L7 by rw [HTS.out]; exact writtenL_snoc HWu.out hw7 (by omega))
                  have HM7 := hide_ (show v = if R.take (u + 1) = [] then m else v by rw [HTS.out]; simp)
                  clear hm7 hl7 hn7 hw7 ho7 hg7 hal hwr
                  go_wp2_with fail
                  go_roundw
                  case rel => exact ⟨u + 1, L7, v, by omega, by go_num, HW7, HM7, HMK7, HO7, HG7, HRD7⟩
                  case measure => simp [intOf]; omega
                · have q2 : ¬ (u : Int) < (q : Int) := by omega
                  obtain rfl : u = q := by omega
                  have HF := hide_ (show R.take u = R by rw [← HQ9.out, List.take_length])
                  go_wp2_with fail
                  go_roundw
                  case rel => exact ⟨k + 1, V ++ [1], M', m', by omega, by go_num, hide_ (by rw [HTK.out]; exact judgeAll_snoc HJ.out ⟨HJV.out.symm, by rw [if_pos rfl]; exact ⟨R, HRC.out, HRK.out, by rw [HQ9.out, HC2.out]; exact HQP.out, by have h := HWu.out; rwa [HF.out] at h, by have h := HMu.out; rwa [HF.out] at h⟩⟩), HOu, HMKu, HGu⟩
                  case measure => simp [intOf]; omega
            · have j2 : (j != 1) = true := by simpa using j1
              have J1 := hide_ j1
              go_wp2_with (at_builtin; go_loud (refine wpList_append_rd _ rfl (.tmp 48) (.tmp 50) 35 rfl w.heap.size 3 1 8 intT _ k (ints V) rfl (HO5.out.alloc _) _ 1 1 [.int .i64 j] rfl (Rd.newAt _ #[.int .i64 j] 3 1 1 _ (0, 0) rfl (by simp)) (ints_one [j]) (by omega) (by unfold maxLen; omega) (by have := Below.size (show Below 0 w w5 from ⟨HG5.out.os, HG5.out.tape, HG5.out.output, HG5.out.size, fun k hk => absurd hk (Nat.not_lt_zero k)⟩); simp; omega) (fun h => nomatch h) ?_; intro v8 w8 hown8 hg8 hat8; have HO8 := hide_ (show w8.ownsRow w.heap.size 3 1 v8 (k + 1) (ints (V ++ [j])) by rw [ints_snoc]; exact hown8); have HLT8 := hide_ hg8.size; have HX8 := hide_ ((hg8.block wr.heap.size (by have := HLT5.out; simp; omega) (fun h => by have := (HO.out.lt _ h.symm).2; omega)).trans (row_al HX5.out _)); have HMK8 := hide_ (mk_kept (HMK5.out.below (later_alloc _ _)) (HO5.out.alloc _) hg8 HBL.out); have HG8 := hide_ (grown_trans (grown_trans HG5.out (World.grownBy_alloc w5 (.cells #[.int .i64 j] 3) (some B0)) (.inl rfl)) hg8 (.inr fun bb hbb => (HO5.out.lt bb hbb).1)); clear hown8 hg8 hat8))
              obtain ⟨A9, c9, rfl⟩ := own_form HO8.out
              go_roundw
              case rel => exact ⟨k + 1, V ++ [j], M, m, by omega, by go_num, hide_ (by rw [HTK.out]; exact judgeAll_snoc HJ.out ⟨HJV.out.symm, by rw [if_neg J1.out]; exact ⟨rfl, rfl⟩⟩), HO8, HMK8, HG8⟩
              case measure => simp [intOf]; omega
          · obtain rfl : k = nt := by omega
            have HF := hide_ (show T.take k = T by rw [← HTL.out, List.take_length])
            go_wp2_with fail
            go_ret2
            exact .inr (.inr ⟨E0.out, by rw [HTL.out]; exact e4, ES.out, A8, k, c8, V, M, m, rfl, by have h := HJ.out; rwa [HF.out] at h, by rw [judgeAll_length HJ.out, HF.out, HTL.out], HO.out, HMKr.out, HG.out⟩)
      · have es' : T.all soundT = false := by simpa using es
        have ES := hide_ es'
        go_enter Try.func17, Try.ntmps17
        go_wp2_with fail
        refine wp_region_k (by kernel_rfl) ?_
        refine wpAnyK_take 0 (v := ?_) rfl (by kernel_rfl) (by kernel_rfl) (by kernel_rfl) (fun _ _ _ h => h) (by rfl) (by intro W hSw; go_simp; with_reducible rfl) ?_; try simp only [Act.put, List.setIfInBounds_toArray, List.set_cons_zero, List.set_cons_succ]
        refine wpAnyK_take 1 (v := ?_) rfl (by kernel_rfl) (by kernel_rfl) (by kernel_rfl) (fun _ _ _ h => h) (by rfl) (by intro W hSw; go_simp; with_reducible rfl) ?_; try simp only [Act.put, List.setIfInBounds_toArray, List.set_cons_zero, List.set_cons_succ]
        refine wpAnyK_take 2 (v := ?_) rfl (by kernel_rfl) (by kernel_rfl) (by kernel_rfl) (fun _ _ _ h => h) (by rfl) (by intro W hSw; go_simp; with_reducible rfl) ?_; try simp only [Act.put, List.setIfInBounds_toArray, List.set_cons_zero, List.set_cons_succ]
        refine wpAnyK_take 3 (v := ?_) rfl (by kernel_rfl) (by kernel_rfl) (by kernel_rfl) (fun _ _ _ h => h) (by rfl) (by intro W hSw; go_simp; with_reducible rfl) ?_; try simp only [Act.put, List.setIfInBounds_toArray, List.set_cons_zero, List.set_cons_succ]
        refine wpAnyK_take 4 (v := ?_) rfl (by kernel_rfl) (by kernel_rfl) (by kernel_rfl) (fun _ _ _ h => h) (by rfl) (by intro W hSw; go_simp; with_reducible rfl) ?_; try simp only [Act.put, List.setIfInBounds_toArray, List.set_cons_zero, List.set_cons_succ]
        refine wpAnyK_take 5 (v := ?_) rfl (by kernel_rfl) (by kernel_rfl) (by kernel_rfl) (fun _ _ _ h => h) (by rfl) (by intro W hSw; go_simp; with_reducible rfl) ?_; try simp only [Act.put, List.setIfInBounds_toArray, List.set_cons_zero, List.set_cons_succ]
        refine wpAnyK_take 6 (v := ?_) rfl (by kernel_rfl) (by kernel_rfl) (by kernel_rfl) (fun _ _ _ h => h) (by rfl) (by intro W hSw; go_simp; with_reducible rfl) ?_; try simp only [Act.put, List.setIfInBounds_toArray, List.set_cons_zero, List.set_cons_succ]
        refine wpAnyK_take 7 (v := ?_) rfl (by kernel_rfl) (by kernel_rfl) (by kernel_rfl) (fun _ _ _ h => h) (by rfl) (by intro W hSw; go_simp; with_reducible rfl) ?_; try simp only [Act.put, List.setIfInBounds_toArray, List.set_cons_zero, List.set_cons_succ]
        refine wpAnyK_take 8 (v := ?_) rfl (by kernel_rfl) (by kernel_rfl) (by kernel_rfl) (fun _ _ _ h => h) (by rfl) (by intro W hSw; go_simp; with_reducible rfl) ?_; try simp only [Act.put, List.setIfInBounds_toArray, List.set_cons_zero, List.set_cons_succ]
        refine wpAnyK_one 9 (by kernel_rfl) rfl (fun K hK => ?_)
        go_simp
        refine hK.out _ _ (Later.refl _) ?_
        clear hK K; try simp only [Act.put, List.setIfInBounds_toArray, List.set_cons_zero, List.set_cons_succ]
        refine wpAnyK_take 10 (v := ?_) rfl (by kernel_rfl) (by kernel_rfl) (by kernel_rfl) (fun _ _ _ h => h) (by rfl) (by intro W hSw; go_simp; with_reducible rfl) ?_; try simp only [Act.put, List.setIfInBounds_toArray, List.set_cons_zero, List.set_cons_succ]
        refine wpAnyK_take 11 (v := ?_) rfl (by kernel_rfl) (by kernel_rfl) (by kernel_rfl) (fun _ _ _ h => h) (by rfl) (by intro W hSw; go_simp; with_reducible rfl) ?_; try simp only [Act.put, List.setIfInBounds_toArray, List.set_cons_zero, List.set_cons_succ]
        refine wpAnyK_done (by kernel_rfl) ?_ _
        clear k1 k2 m1 m2
        go_wp2_with fail
        refine (hbad.out _ HB0.out).mono ?_; rintro e w2 ⟨rfl, hb2⟩
        rw [ES.out]
        have HB2 := hide_ (Later.trans HB0.out hb2)
        clear hb2 hbad es es'
        go_wp2_with fail
        go_ret2
        exact .inr (.inl ⟨E0.out, fun h => (by rw [ES.out] at h; cases h.2), rfl, HB2.out⟩)
    · have p4 : (4 : Int) < (nt : Int) := by omega
      have E4 := hide_ e4
      go_enter Try.func17, Try.ntmps17
      go_wp2_with fail
      refine wp_region_k (by kernel_rfl) ?_
      refine wpAnyK_take 0 (v := ?_) rfl (by kernel_rfl) (by kernel_rfl) (by kernel_rfl) (fun _ _ _ h => h) (by rfl) (by intro W hSw; go_simp; with_reducible rfl) ?_; try simp only [Act.put, List.setIfInBounds_toArray, List.set_cons_zero, List.set_cons_succ]
      refine wpAnyK_take 1 (v := ?_) rfl (by kernel_rfl) (by kernel_rfl) (by kernel_rfl) (fun _ _ _ h => h) (by rfl) (by intro W hSw; go_simp; with_reducible rfl) ?_; try simp only [Act.put, List.setIfInBounds_toArray, List.set_cons_zero, List.set_cons_succ]
      refine wpAnyK_take 2 (v := ?_) rfl (by kernel_rfl) (by kernel_rfl) (by kernel_rfl) (fun _ _ _ h => h) (by rfl) (by intro W hSw; go_simp; with_reducible rfl) ?_; try simp only [Act.put, List.setIfInBounds_toArray, List.set_cons_zero, List.set_cons_succ]
      refine wpAnyK_take 3 (v := ?_) rfl (by kernel_rfl) (by kernel_rfl) (by kernel_rfl) (fun _ _ _ h => h) (by rfl) (by intro W hSw; go_simp; with_reducible rfl) ?_; try simp only [Act.put, List.setIfInBounds_toArray, List.set_cons_zero, List.set_cons_succ]
      refine wpAnyK_take 4 (v := ?_) rfl (by kernel_rfl) (by kernel_rfl) (by kernel_rfl) (fun _ _ _ h => h) (by rfl) (by intro W hSw; go_simp; with_reducible rfl) ?_; try simp only [Act.put, List.setIfInBounds_toArray, List.set_cons_zero, List.set_cons_succ]
      refine wpAnyK_take 5 (v := ?_) rfl (by kernel_rfl) (by kernel_rfl) (by kernel_rfl) (fun _ _ _ h => h) (by rfl) (by intro W hSw; go_simp; with_reducible rfl) ?_; try simp only [Act.put, List.setIfInBounds_toArray, List.set_cons_zero, List.set_cons_succ]
      refine wpAnyK_take 6 (v := ?_) rfl (by kernel_rfl) (by kernel_rfl) (by kernel_rfl) (fun _ _ _ h => h) (by rfl) (by intro W hSw; go_simp; with_reducible rfl) ?_; try simp only [Act.put, List.setIfInBounds_toArray, List.set_cons_zero, List.set_cons_succ]
      refine wpAnyK_take 7 (v := ?_) rfl (by kernel_rfl) (by kernel_rfl) (by kernel_rfl) (fun _ _ _ h => h) (by rfl) (by intro W hSw; go_simp; with_reducible rfl) ?_; try simp only [Act.put, List.setIfInBounds_toArray, List.set_cons_zero, List.set_cons_succ]
      refine wpAnyK_take 8 (v := ?_) rfl (by kernel_rfl) (by kernel_rfl) (by kernel_rfl) (fun _ _ _ h => h) (by rfl) (by intro W hSw; go_simp; with_reducible rfl) ?_; try simp only [Act.put, List.setIfInBounds_toArray, List.set_cons_zero, List.set_cons_succ]
      refine wpAnyK_one 9 (by kernel_rfl) rfl (fun K hK => ?_)
      go_simp
      refine hK.out _ _ (Later.refl _) ?_
      clear hK K; try simp only [Act.put, List.setIfInBounds_toArray, List.set_cons_zero, List.set_cons_succ]
      refine wpAnyK_take 10 (v := ?_) rfl (by kernel_rfl) (by kernel_rfl) (by kernel_rfl) (fun _ _ _ h => h) (by rfl) (by intro W hSw; go_simp; with_reducible rfl) ?_; try simp only [Act.put, List.setIfInBounds_toArray, List.set_cons_zero, List.set_cons_succ]
      refine wpAnyK_take 11 (v := ?_) rfl (by kernel_rfl) (by kernel_rfl) (by kernel_rfl) (fun _ _ _ h => h) (by rfl) (by intro W hSw; go_simp; with_reducible rfl) ?_; try simp only [Act.put, List.setIfInBounds_toArray, List.set_cons_zero, List.set_cons_succ]
      refine wpAnyK_done (by kernel_rfl) ?_ _
      clear k1 k2 m1 m2
      go_wp2_with fail
      go_ret2
      exact .inr (.inl ⟨E0.out, fun h => E4.out (by rw [← HTL.out]; exact h.1), rfl, below_drewN (Later.refl w) 1⟩)

end Go.Proofs.Ytidlkomgondkiaa
