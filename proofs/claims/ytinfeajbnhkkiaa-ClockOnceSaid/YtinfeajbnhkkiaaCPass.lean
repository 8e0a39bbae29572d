/-
  The clock's Pass.
-/
import Derived.Test.YtinfeajbnhkkiaaCOrder
import Derived.Shelf.SlSortCmp.NoneTotal
namespace Go.Proofs.Ytinfeajbnhkkiaa
open Go.RowKit Go.Maps
set_option linter.unusedVariables false
set_option linter.unusedSimpArgs false
def keyI (b : Int) : Lit := .int .i64 b
/-- What has been collected. -/
def Col (D : DataW Unit) (left : Lit → Bool) (t : Int) (P : List (Fin 4096)) : Prop := P.Nodup ∧ ∀ x : Fin 4096, x ∈ P ↔ Maps.has D (keyI x.val) = true ∧ left (keyI x.val) = false ∧ whenD D x.val ≤ t
theorem col_start (D : DataW Unit) (t : Int) : Col D (Maps.has D) t [] :=
  ⟨List.Pairwise.nil, fun x => ⟨fun h => (by cases h), fun ⟨h1, h2, _⟩ => by rw [h1] at h2; cases h2⟩⟩
theorem when_of {D : DataW Unit} {b c : Int} (h : ∀ z, D.atKey (.int .i64 b) z = .lit (.int .i64 c)) : whenD D b = c := by unfold whenD; rw [h]
theorem fin_of {b : Int} (h0 : 0 ≤ b) (h1 : b < 4096) : ∃ x : Fin 4096, (x.val : Int) = b := ⟨⟨b.toNat, by omega⟩, by show (b.toNat : Int) = b; omega⟩
theorem col_step {D : DataW Unit} {L : List Bel} {left : Lit → Bool} {t c : Int} {P : List (Fin 4096)} {x : Fin 4096} (h : Col D left t P) (hl : left (keyI x.val) = true) (hat : ∀ z, D.atKey (.int .i64 (x.val : Int)) z = .lit (.int .i64 c)) :
    (c ≤ t → Col D (fun z => left z && !z.sameKey (keyI x.val)) t (P ++ [x])) ∧ (t < c → Col D (fun z => left z && !z.sameKey (keyI x.val)) t P) := by
  have hh : Maps.has D (keyI x.val) = true := has_true_of_atKey hat
  have hw := when_of hat
  have hxP : x ∉ P := fun hx => by have := ((h.2 x).1 hx).2.1; rw [hl] at this; cases this
  have hself : (keyI x.val).sameKey (keyI x.val) = true := WideAt.sameKey_self ikey_lit
  have hoth : ∀ y : Fin 4096, y ≠ x → (keyI y.val).sameKey (keyI x.val) = false := fun y hy => sameKey_ne (ilit_ne fun e => hy (Fin.ext (by omega)))
  refine ⟨fun hc => ⟨?_, fun y => ?_⟩, fun hc => ⟨h.1, fun y => ?_⟩⟩
  · rw [List.nodup_append]
    refine ⟨h.1, by simp, fun a ha b hb e => ?_⟩
    rw [List.mem_singleton.1 hb] at e
    exact hxP (e ▸ ha)
  · rw [List.mem_append, List.mem_singleton, h.2 y]
    by_cases hy : y = x
    · subst hy
      simp only [hl, hh, hself, hw, hc]; simp
    · simp only [hoth y hy, hy]; simp
  · rw [h.2 y]
    by_cases hy : y = x
    · subst hy
      simp only [hl, hh, hself, hw]; simp; omega
    · simp only [hoth y hy]; simp
theorem map_bells {D : DataW Unit} {L : List Bel} (h : MapIs D L) (hL : Bells L) {x : Fin 4096} : Maps.has D (keyI x.val) = true ↔ belD D x ∈ L := by
  constructor
  · intro hh
    obtain ⟨y, hy, e⟩ := h.no _ hh
    have e1 : (x.val : Int) = y.1 := by unfold keyI at e; injection e
    have e2 : whenD D x.val = y.2 := by rw [e1]; exact when_of (h.yes y hy).2
    have : belD D x = y := Prod.ext e1 e2
    rw [this]; exact hy
  · intro hx
    exact (h.yes _ hx).1
/-- What is told: the bells that are due, in order. -/
theorem pass_plain {D : DataW Unit} {L : List Bel} {left : Lit → Bool} {t : Int} {P Q : List (Fin 4096)} (h : MapIs D L) (hL : Bells L) (hc : Col D left t P) (hl : ∀ k, left k = false) (hp : Q.Perm P)
    (ho : ∀ (i j : Nat) (x y : Fin 4096), i < j → Q[i]? = some x → Q[j]? = some y → ¬ bless (belD D y) (belD D x)) : Q.map (belD D) = dueB t L := by
  have hinj : ∀ x y : Fin 4096, belD D x = belD D y → x = y := fun x y e => Fin.ext (by have := congrArg Prod.fst e; simp only [belD] at this; omega)
  have hQn : Q.Nodup := hp.nodup_iff.2 hc.1
  refine sorted_same ?_ (hL.due t).sorted fun b => ?_
  · rw [List.pairwise_map, List.pairwise_iff_getElem]
    intro i j hi hj hij
    have h1 := ho i j Q[i] Q[j] hij (List.getElem?_eq_getElem hi) (List.getElem?_eq_getElem hj)
    have h2 : Q[i] ≠ Q[j] := (List.pairwise_iff_getElem.1 hQn) i j hi hj hij
    exact (bless_total (fun e => h2 (hinj _ _ e))).resolve_right h1
  · rw [due_mem hL.sorted, List.mem_map]
    constructor
    · rintro ⟨x, hx, rfl⟩
      have h1 := (hc.2 x).1 (hp.mem_iff.1 hx)
      exact ⟨(map_bells h hL).1 h1.1, h1.2.2⟩
    · rintro ⟨hb, ht⟩
      have hr := hL.range b hb
      obtain ⟨x, hx⟩ := fin_of hr.1 hr.2
      have e : belD D x = b := by
        refine Prod.ext hx ?_
        show whenD D x.val = b.2
        rw [hx]; exact when_of (h.yes b hb).2
      exact ⟨x, hp.mem_iff.2 ((hc.2 x).2 ⟨(map_bells h hL).2 (e ▸ hb), hl _, by show whenD D x.val ≤ t; have := congrArg Prod.snd e; simp only [belD] at this; omega⟩), e⟩
theorem drop_but {L : List Bel} (h : Bells L) {j : Nat} {x : Bel} (hx : L[j]? = some x) : ∀ y, y ∈ butB x.1 (L.drop j) ↔ y ∈ L.drop (j + 1) := by
  have hj := (List.getElem?_eq_some_iff.1 hx)
  have e : L.drop j = x :: L.drop (j + 1) := by rw [List.drop_eq_getElem_cons hj.1, hj.2]
  have hs := h.sorted.sublist (List.drop_sublist j L)
  rw [e] at hs
  intro y
  rw [mem_butB, e, List.mem_cons]
  constructor
  · rintro ⟨rfl | hy, hne⟩
    · exact absurd rfl hne
    · exact hy
  · intro hy
    refine ⟨.inr hy, fun e2 => ?_⟩
    have h1 := (List.pairwise_cons.1 hs).1 y hy
    have h2 := h.apart x y (List.mem_of_getElem? hx) (List.mem_of_mem_drop hy) e2.symm
    subst h2
    exact bless_irrefl _ h1
theorem due_drop (t : Int) (L : List Bel) : L.drop (dueB t L).length = restB t L := by
  have h := due_rest t L
  conv => lhs; arg 2; rw [← h]
  simp
theorem due_at {t : Int} {L : List Bel} {j : Nat} {x : Bel} (h : (dueB t L)[j]? = some x) : L[j]? = some x := by
  have e := due_rest t L
  rw [← e, List.getElem?_append_left (List.getElem?_eq_some_iff.1 h).1]; exact h
def PassPost (C n : Nat) (t k : Int) (L : List Bel) (w : World) (e : Ending) (w' : World) : Prop :=
  (k < 0 ∧ e = .returned (.tuple #[.slice none 0 0, .int .i64 1]) ∧ Later w w') ∨ (0 ≤ k ∧ 1099511627776 - t < k ∧ e = .returned (.tuple #[.slice none 0 0, .int .i64 5]) ∧ Later w w') ∨
  (0 ≤ k ∧ k ≤ 1099511627776 - t ∧ ∃ A m c, e = .returned (.tuple #[.slice A m c, .int .i64 0]) ∧ (dueB (t + k) L).length = m ∧ w'.ownsRow w.heap.size 3 1 (.slice A m c) m (ints ((dueB (t + k) L).map (·.1))) ∧ CK w' C n (t + k) (restB (t + k) L) ∧ CTurn C w w')
theorem sort_ints_any {w : World} {base m c bx C B n : Nat} {A : Option Addr} {t : Int} {D : DataW Unit} {L : List (Fin 4096)} (ho : w.ownsRow base 3 1 (.slice A m c) m (L.map encF)) (hl : L.length = m) (hn : m ≤ 1048576)
    (hbx : w.heap[bx]? = some (.cells #[.pointer (some ⟨C, 0, none⟩)] 23 (0, 0))) (hc : CkAt w C B t) (hm : w.ownsMap Try.prog 3 (plainElem Try.prog 3) B n D) :
    Calls Try.prog 18 #[.slice A m c, .func (.func 19) #[] #[.pointer (some ⟨bx, 0, none⟩)]] w fun e w' => e = .returned (.tuple #[]) ∧
      ∃ L' : List (Fin 4096), L'.length = m ∧ L'.Perm L ∧ (∀ (i j : Nat) (x y : Fin 4096), i < j → L'[i]? = some x → L'[j]? = some y → ¬ bless (belD D y) (belD D x)) ∧ w'.ownsRow base 3 1 (.slice A m c) m (L'.map encF) ∧ w.grownBy w' (Value.slice A m c).ownBlock := by
  subst hl
  rcases ho.2 with ⟨hv, h0⟩ | ⟨g, cap, cur, hv, _⟩
  · injection hv with h1 h2 h3
    subst h1; subst h3
    obtain rfl : L = [] := List.eq_nil_of_length_eq_zero h2
    have hcon := AnyF.slices_SortFunc_none { sortInts with } none 0 (.func (.func 19) #[] #[.pointer (some ⟨bx, 0, none⟩)]) w
    change Calls Try.prog 18 _ w _ at hcon
    refine hcon.mono fun e w' ⟨he, hw⟩ => ?_
    subst hw
    exact ⟨he, [], rfl, List.Perm.refl _, fun i j x y _ hx => by simp at hx, ho, World.grownBy.refl _ _⟩
  · injection hv with h1 h2 h3
    subst h1; subst h3
    refine (csort_any ho (by omega) hbx hc hm).mono fun e w' ⟨he, L', g1, g2, g3, g4, g5⟩ => ⟨he, L', g1, g2, g3, g4, g5⟩
theorem fin_len {P : List (Fin 4096)} (h : P.Nodup) : P.length ≤ 4096 := by
  have := List.Nodup.length_le_of_subset h (fun x _ => List.mem_finRange x)
  simpa using this
theorem own_keep {w w' : World} {base size n g : Nat} {e : TypeId} {v : Value} {xs : List Value} (h : w.ownsRow base e size v n xs) (hg : w.grownBy w' (some g)) (hlt : g < base) : w'.ownsRow base e size v n xs :=
  h.kept hg (.inr fun h4 => by have := (h.lt _ h4).1; omega)
theorem own_ne {w : World} {base size n g : Nat} {e : TypeId} {v : Value} {xs : List Value} (h : w.ownsRow base e size v n xs) (hlt : g < base) : some g ≠ v.ownBlock := fun e => by have := (h.lt g e.symm).1; omega
theorem encF_ints (L : List (Fin 4096)) : L.map encF = ints (L.map fun x => (x.val : Int)) := by simp [ints, encF]
theorem belD_fst (D : DataW Unit) (Q : List (Fin 4096)) : (Q.map (belD D)).map (·.1) = Q.map fun x => (x.val : Int) := by simp [belD]
set_option maxRecDepth 100000 in
set_option maxHeartbeats 8000000 in
theorem ckpass_any {w : World} {C n : Nat} {t : Int} {L : List Bel} (k : Int) (h : CK w C n t L) (hk : k ≤ 9223372036854775807) :
    Calls Try.prog 10 #[.pointer (some ⟨C, 0, none⟩), .int .i64 k] w (PassPost C n t k L w) := by
  obtain ⟨B, h1, ⟨D, h2, h3⟩, h4, h5, h6, h7⟩ := h
  obtain ⟨W0, hW0⟩ : ∃ W0, W0 = w.alloc (.cells #[.pointer (some ⟨C, 0, none⟩)] 23) := ⟨_, rfl⟩
  have hbx : W0.heap[w.heap.size]? = some (.cells #[.pointer (some ⟨C, 0, none⟩)] 23 (0, 0)) := by rw [hW0]; exact heap_alloc_new w _
  have hl0 : Later w W0 := by rw [hW0]; exact later_alloc _ _
  have HW := hide_ hW0.symm
  have hs0 : W0.heap.size = w.heap.size + 1 := by rw [hW0]; simp
  have hCw := h1.lt
  have hBw := h2.lt
  have hc0 := (hl0.block C h1.lt).trans h1
  have b0 := cell_of_row _ _ 0 _ _ (0, 0) hbx
  have m0 := cell_of_row _ _ 0 _ _ (0, 0) hc0
  have f0 := frozen_of_row _ _ 0 _ _ hc0
  have HBX := hide_ hbx; have HL0 := hide_ hl0; have HC := hide_ h1; have HM := hide_ h2; have HI := hide_ h3; have HBe := hide_ h4; have H7 := hide_ h7
  have HNE := hide_ (ck_ne h1 h2)
  have HC0 := hide_ (show CkAt W0 C B t from hc0)
  have HM0 := hide_ (map_later h2 hl0)
  have HS0 := hide_ hs0
  clear hW0 hbx hl0 h1 h2 h3 h4 h7 hc0 hs0
  by_cases e1 : k < 0
  · go_enter Try.func10, Try.ntmps10
    go_wp2_with (rw [HW.out])
    go_ret2
    exact .inl ⟨e1, rfl, HL0.out⟩
  · by_cases e2 : 1099511627776 - t < k
    · go_enter Try.func10, Try.ntmps10
      go_wp2_with (rw [HW.out])
      go_ret2
      exact .inr (.inl ⟨by omega, e2, rfl, HL0.out⟩)
    · have e3 : 0 ≤ k := by omega
      have e4 : k ≤ 1099511627776 - t := by omega
      obtain ⟨W1, hW1⟩ : ∃ W1, W1 = W0.setCell ⟨C, 0, none⟩ (.int .i64 (t + k)) := ⟨_, rfl⟩
      have HW1 := hide_ hW1.symm
      have hc1 : CkAt W1 C B (t + k) := by rw [hW1]; unfold CkAt; have := heap_setCell_same W0 C 0 _ _ (.int .i64 (t + k)) HC0.out; simpa using this
      have hm1 : W1.ownsMap Try.prog 3 (plainElem Try.prog 3) B n D := by rw [hW1]; exact HM0.out.setCell (a := ⟨C, 0, none⟩) HNE.out _
      have hbx1 : W1.heap[w.heap.size]? = some (.cells #[.pointer (some ⟨C, 0, none⟩)] 23 (0, 0)) := by rw [hW1]; exact (Below.heap_setCell _ _ _ _ (fun e => by have e : w.heap.size = C := e; omega)).trans HBX.out
      have hs1 : W1.heap.size = w.heap.size + 1 := by rw [hW1]; simp [World.setCell, HS0.out]
      have hk1 : W1.os = w.os ∧ W1.tape = w.tape ∧ W1.output = w.output ∧ ∀ j, j < w.heap.size → j ≠ C → W1.heap[j]? = w.heap[j]? := by
        rw [hW1]
        exact ⟨HL0.out.os, HL0.out.tape, HL0.out.output, fun j hj hne => (Below.heap_setCell _ _ _ _ (fun e => hne e)).trans (HL0.out.block j hj)⟩
      have c1 := cell_of_row _ _ 1 _ _ (0, 0) hc1
      have HC1 := hide_ hc1; have HM1 := hide_ hm1; have HBX1 := hide_ hbx1; have HK1 := hide_ hk1; have HS1 := hide_ hs1
      have b1 := cell_of_row _ _ 0 _ _ (0, 0) hbx1
      have hsw : w.heap.size + 1 ≤ W1.heap.size := by omega
      have t1 : t + k ≤ 1099511627776 := by omega
      have t0 : 0 ≤ t + k := by omega
      clear hW1 hc1 hm1 hbx1 hk1 hs1
      go_enter Try.func10, Try.ntmps10
      go_wp2_with (first | (rw [HW.out]) | (rw [HW1.out]) | (at_range; go_loud (refine wpList_range_own _ rfl _ 47 rfl 3 3 klaw Try.underlying47 _ B n _ rfl HM1.out ?_; intro w2 hrg2 hg2 hs2)))
      try go_frame
      have HR2 := hide_ hrg2
      have HL2 := hide_ (show Later W1 w2 from ⟨hg2.os, hg2.tape, hg2.output, hg2.size, fun j hj => hg2.block j hj (by simp)⟩)
      have hsz2 : w2.heap.size = W1.heap.size + 1 := hs2
      clear hrg2 hg2 hs2 m0 f0 b0
      go_loopw [6] (fun s6 wr => ∃ (left : Lit → Bool) (cnt q : Nat) (P : List (Fin 4096)), q ≤ 4096 ∧ Hid (P.length = q) ∧ Hid (Col D left (t + k) P) ∧ Hid (wr.ownsRow (W1.heap.size + 1) 3 1 s6 q (P.map encF)) ∧ Hid (wr.ranges Try.prog 3 (plainElem Try.prog 3) B W1.heap.size n D left cnt) ∧ Hid (Later W1 wr) ∧ W1.heap.size + 1 ≤ wr.heap.size) (fun _ wr => wr.rangeLeft B W1.heap.size)
      case atStart => exact ⟨_, _, 0, [], by omega, hide_ rfl, hide_ (col_start D (t + k)), hide_ (World.ownsRow_nil _ _ _ _), HR2, HL2, by omega⟩
      case round =>
        obtain ⟨left, cnt, q, P, hq, HPL, HCo, HO, HR, HL, hsz⟩ := hrel
        obtain ⟨A6, c6, rfl⟩ := own_form HO.out
        go_wp2_with (at_next; go_loud (refine wpList_next_ranges_ii _ rfl _ rfl 3 3 .i64 .i64 klaw Try.underlying3 Try.underlying3 B W1.heap.size n _ _ _ rfl HR.out ?_ ?_))
        · intro _ hl0
          have HLF := hide_ hl0
          clear hl0
          have hcr := (HL.out.block C HC1.out.lt).trans HC1.out
          have hbr := (HL.out.block w.heap.size (theap_lt HBX1.out)).trans HBX1.out
          have HSO := hide_ (sort_ints_any HO.out HPL.out (by omega) hbr hcr HR.out.owns)
          have HCr := hide_ hcr; have HBr := hide_ hbr
          clear hcr hbr b1 c1
          go_wp2_with fail
          refine HSO.out.mono ?_; rintro e w3 ⟨rfl, Q, hQl, hQp, hQo, hO3, hG3⟩
          have HL3 := hide_ (own_grown HL.out (own_base HO.out (by omega)) hG3 (by omega))
          have hm3 := HR.out.owns.kept hG3 (own_ne HO.out (by omega))
          have HD := hide_ (pass_plain HI.out HBe.out HCo.out HLF.out hQp hQo)
          have HQL := hide_ hQl; have HM3 := hide_ hm3; have HO3 := hide_ hO3
          have hsz3 : W1.heap.size + 1 ≤ w3.heap.size := Nat.le_trans hsz hG3.size
          have HC3 := hide_ ((HL3.out.block C HC1.out.lt).trans HC1.out)
          have HB3 := hide_ ((HL3.out.block w.heap.size (theap_lt HBX1.out)).trans HBX1.out)
          have HI3 := hide_ (show MapIs D (L.drop 0) from HI.out)
          have hqn : (q : Int) ≤ 4096 := by omega
          clear hQl hQp hQo hO3 hG3 hm3 HSO
          go_wp2_with fail
          go_loopw [59] (fun s59 wi => ∃ (j : Nat) (D' : DataW Unit), j ≤ q ∧ s59 = .int .i64 j ∧ Hid (wi.ownsMap Try.prog 3 (plainElem Try.prog 3) B n D') ∧ Hid (MapIs D' (L.drop j)) ∧ Hid (w3.grownBy wi (some B))) (fun s59 _ => q - (intOf s59).toNat)
          case atStart => exact ⟨0, D, by omega, rfl, HM3, HI3, hide_ (World.grownBy.refl _ _)⟩
          case round =>
            obtain ⟨j, D', hj, rfl, HMj, HIj, HGj⟩ := hrel
            have r2 : (j : Int) ≤ 4096 := by omega
            have r3 : (0 : Int) ≤ (j : Int) := by omega
            by_cases hlt : j < q
            · have r1 : (j : Int) < (q : Int) := by omega
              obtain ⟨x, hx⟩ : ∃ x, Q[j]? = some x := ⟨_, List.getElem?_eq_getElem (by rw [HQL.out]; exact hlt)⟩
              have hdx : (dueB (t + k) L)[j]? = some (belD D x) := by rw [← HD.out, List.getElem?_map, hx]; rfl
              have HLJ := hide_ (due_at hdx)
              have ho := own_keep HO3.out HGj.out (by omega)
              obtain ⟨b, o, hA, hcl⟩ := (Rd.of_own ho).2 (by rw [List.length_map, HQL.out]; omega)
              subst hA
              have l0 : wr.cell? ⟨b, o + j, none⟩ = some (.int .i64 x.val) := hcl j _ (by rw [List.getElem?_map, hx]; rfl)
              have l1 : wr.cell? ⟨b, o + j * 1, none⟩ = some (.int .i64 x.val) := by rw [Nat.mul_one]; exact l0
              have c1 := cell_of_row _ _ 1 _ _ (0, 0) ((HGj.out.block C (theap_lt HC3.out) (fun e => HNE.out (Option.some.inj e).symm)).trans HC3.out)
              have b1 := cell_of_row _ _ 0 _ _ (0, 0) ((HGj.out.block w.heap.size (theap_lt HB3.out) (fun e => by have := Option.some.inj e; omega)).trans HB3.out)
              have HFX := hide_ (fin_i64 x)
              clear hx hdx ho hcl
              go_wp2_with (at_delete; go_loud (refine wpList_delete_own _ rfl _ _ 47 3 rfl 3 klaw Try.underlying47 _ B n D' rfl HMj.out _ _ rfl (ikey HFX.out) ?_; intro w4 hown4 hturn4))
              have hmi : MapIs (D'.del (.int .i64 (x.val : Int))) (L.drop (j + 1)) := (HIj.out.del (x.val : Int)).same fun y => drop_but HBe.out HLJ.out y
              have HMI := hide_ hmi; have HM4 := hide_ hown4
              have HG4 := hide_ (HGj.out.andThen hturn4.grown (fun i hi => .inr hi))
              clear hmi hown4 hturn4 c1 b1 l0 l1
              try go_frame
              go_roundw
              case rel => exact ⟨j + 1, _, by omega, by go_num, HM4, HMI, HG4⟩
              case measure => simp [intOf]; omega
            · have r1 : ¬ (j : Int) < (q : Int) := by omega
              obtain rfl : j = q := by omega
              have hlen : (dueB (t + k) L).length = j := by rw [← HD.out, List.length_map]; exact HQL.out
              have HLN := hide_ hlen
              clear hlen
              go_wp2_with fail
              go_ret2
              refine .inr (.inr ⟨e3, e4, A6, j, c6, rfl, HLN.out, ?_, ⟨B, (HGj.out.block C (theap_lt HC3.out) (fun e => HNE.out (Option.some.inj e).symm)).trans HC3.out, ⟨D', HMj.out, ?_⟩, HBe.out.rest _, t0, t1, fun x hx => H7.out x ((rest_mem HBe.out).1 hx).1⟩, B, t, t + k, HC.out, (HGj.out.block C (theap_lt HC3.out) (fun e => HNE.out (Option.some.inj e).symm)).trans HC3.out, ?_⟩)
              · rw [← HD.out, belD_fst, ← encF_ints]
                exact own_base (own_keep HO3.out HGj.out (by omega)) (by omega)
              · have h := HIj.out
                rw [← HLN.out, due_drop] at h
                exact h
              · have hk1 := HK1.out
                refine ⟨HGj.out.os.trans (HL3.out.os.trans hk1.1), HGj.out.tape.trans (HL3.out.tape.trans hk1.2.1), HGj.out.output.trans (HL3.out.output.trans hk1.2.2.1), Nat.le_trans (by omega) HGj.out.size, fun i hi h1 h2 => ?_⟩
                exact (HGj.out.block i (by omega) (fun e => h2 (Option.some.inj e))).trans ((HL3.out.block i (by omega)).trans (hk1.2.2.2 i hi h1))
        · intro x c w3 cnt3 hwx hwc hlx hat hrg3 hlt3 hg3 hs3 hen
          obtain ⟨y, hy, hye⟩ := HI.out.no _ (has_true_of_atKey hat)
          have hye : x = y.1 := by injection hye
          have hry := HBe.out.range y hy
          obtain ⟨xf, hxf⟩ := fin_of (b := x) (by omega) (by omega)
          subst hxf
          have HCS := hide_ (col_step (L := L) HCo.out hlx hat)
          have HR3 := hide_ hrg3
          have HL3 := hide_ (show Later W1 w3 from ⟨hg3.os.trans HL.out.os, hg3.tape.trans HL.out.tape, hg3.output.trans HL.out.output, Nat.le_trans HL.out.size hg3.size, fun j hj => (hg3.block j (by omega) (fun e => by have := Option.some.inj e; omega)).trans (HL.out.block j hj)⟩)
          have HO3 := hide_ (own_keep HO.out hg3 (by omega))
          have b0 := cell_of_row _ _ 0 _ _ (0, 0) ((HL3.out.block w.heap.size (theap_lt HBX1.out)).trans HBX1.out)
          have m0 := cell_of_row _ _ 0 _ _ (0, 0) ((HL3.out.block C HC1.out.lt).trans HC1.out)
          have HLT := hide_ hlt3
          have hsz3 : W1.heap.size + 1 ≤ w3.heap.size := by omega
          clear hwx hwc hlx hat hrg3 hlt3 hg3 hy hye hry hs3
          by_cases hct : c ≤ t + k
          · have HCC := hide_ (HCS.out.1 hct)
            have hq2 : q + 1 ≤ 4096 := by have := fin_len HCC.out.1; rw [List.length_append, HPL.out] at this; simpa using this
            have p1 : (q + 1) * 8 ≤ 140737488355328 := by omega
            have p2 : q + 1 ≤ maxLen := by unfold maxLen; omega
            have p3 : ∀ o, W1.heap.size + 1 ≤ (w3.alloc o).heap.size := fun o => by simp; omega
            go_wp2_with (at_builtin; go_loud (refine wpList_append_rd _ rfl (.tmp 50) (.tmp 52) 30 rfl (W1.heap.size + 1) 3 1 8 intT _ q (P.map encF) rfl (HO3.out.alloc _) _ 1 1 [.int .i64 xf.val] rfl (Rd.newAt _ #[.int .i64 xf.val] 3 1 1 _ (0, 0) rfl rfl) (ints_one [(xf.val : Int)]) p1 p2 (p3 _) (fun h => nomatch h) ?_; intro v8 w8 hown8 hg8 hat8; have HW8 := hide_ hown8; have HG8 := hide_ hg8; clear hown8 hg8 hat8))
            have HO8 := hide_ (show w8.ownsRow (W1.heap.size + 1) 3 1 v8 (q + 1) ((P ++ [xf]).map encF) by rw [List.map_append]; exact HW8.out)
            have HR8 := hide_ ((HR3.out.alloc _).kept HG8.out (own_ne HO3.out (by omega)) (own_ne HO3.out (by omega)))
            have HL8 := hide_ (own_grown (Below.alloc HL3.out (by omega) _) (own_base (HO3.out.alloc _) (by omega)) HG8.out (by have := p3 (.cells #[.int .i64 xf.val] 3); omega))
            have hsz8 : W1.heap.size + 1 ≤ w8.heap.size := (Nat.le_trans (p3 _) HG8.out.size)
            go_roundw
            case rel => exact ⟨_, cnt3, q + 1, P ++ [xf], hq2, hide_ (by rw [List.length_append, HPL.out]; rfl), HCC, HO8, HR8, HL8, hsz8⟩
            case measure => rw [HR8.out.left_eq, HR.out.left_eq]; exact HLT.out
          · have HCC := hide_ (HCS.out.2 (by omega))
            go_wp2_with fail
            go_roundw
            case rel => exact ⟨_, cnt3, q, P, hq, HPL, HCC, HO3, HR3, HL3, hsz3⟩
            case measure => rw [HR3.out.left_eq, HR.out.left_eq]; exact HLT.out

end Go.Proofs.Ytinfeajbnhkkiaa
