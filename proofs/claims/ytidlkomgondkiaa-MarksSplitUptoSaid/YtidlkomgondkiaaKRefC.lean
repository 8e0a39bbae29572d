/-
  The document's answer: build.
-/
import Derived.Test.YtidlkomgondkiaaKRefB
import Derived.Test.YtidlkomgondkiaaG2
namespace Go.Proofs.Ytidlkomgondkiaa
open Go.RowKit
set_option linter.unusedVariables false
set_option linter.unusedSimpArgs false
/-- The keys of one list, but for those of another one. -/
def But (H G : List Spn) (k : ByteArray) : Prop := InL H k ∧ ¬ InL G k
/-- How far the building is. -/
def Built (H G : List Spn) (E : List ByteArray) (j : Nat) (O : List Spn) : Prop :=
  (∀ lo, E[j]? = some lo → BuildInv (But H G) lo O) ∧ (E = [] → O = [])
theorem ends_of {H G : List Spn} {E : List ByteArray} (h : EndsOf (H ++ G) E) : (∀ s, s ∈ H → s.1 ∈ E ∧ s.2 ∈ E) ∧ ∀ s, s ∈ G → s.1 ∈ E ∧ s.2 ∈ E :=
  ⟨fun s hs => ⟨(h.2 _).2 ⟨s, by simp [hs], .inl rfl⟩, (h.2 _).2 ⟨s, by simp [hs], .inr rfl⟩⟩, fun s hs => ⟨(h.2 _).2 ⟨s, by simp [hs], .inl rfl⟩, (h.2 _).2 ⟨s, by simp [hs], .inr rfl⟩⟩⟩
theorem built_start {H G : List Spn} {E : List ByteArray} (h : EndsOf (H ++ G) E) : Built H G E 0 [] := by
  refine ⟨fun lo hlo => build_start fun k hk hM => ?_, fun _ => rfl⟩
  cases E with
  | nil => simp at hlo
  | cons a B =>
    simp at hlo
    subst hlo
    exact below_first h.1 (fun s hs => ((ends_of h).1 s hs).1) hk hM.1
theorem cut_at {E : List ByteArray} {j : Nat} {lo hi : ByteArray} (h1 : E[j]? = some lo) (h2 : E[j + 1]? = some hi) : E = E.take j ++ lo :: hi :: E.drop (j + 2) := by
  have e1 := (List.getElem?_eq_some_iff.1 h1)
  have e2 := (List.getElem?_eq_some_iff.1 h2)
  conv => lhs; rw [← List.take_append_drop j E]
  rw [List.drop_eq_getElem_cons e1.1, e1.2, List.drop_eq_getElem_cons e2.1, e2.2]
theorem but_gap {H G : List Spn} {E : List ByteArray} (h : EndsOf (H ++ G) E) {j : Nat} {lo hi : ByteArray} (h1 : E[j]? = some lo) (h2 : E[j + 1]? = some hi) :
    lo < hi ∧ ∀ k, lo ≤ k → k < hi → (But H G k ↔ But H G lo) := by
  have hc := cut_at h1 h2
  have hu := h.1
  rw [hc] at hu
  refine ⟨((Up.append.1 hu).2.1.1 hi (by simp)), fun k hl hh => ?_⟩
  have a := gap_inl hu (L := H) (fun s hs => by rw [← hc]; exact (ends_of h).1 s hs) hl hh
  have b := gap_inl hu (L := G) (fun s hs => by rw [← hc]; exact (ends_of h).2 s hs) hl hh
  unfold But
  rw [a, b]
theorem built_end {H G : List Spn} {E : List ByteArray} (h : EndsOf (H ++ G) E) {j : Nat} {O : List Spn} (hb : Built H G E j O) (hj : E.length ≤ j + 1) (hj2 : E = [] ∨ j < E.length) : Canon O ∧ ∀ k, InL O k ↔ But H G k := by
  rcases hj2 with he | hlt
  · rw [hb.2 he]
    refine ⟨trivial, fun k => ⟨fun h => absurd h InL.nil, fun hk => ?_⟩⟩
    obtain ⟨s, hs, _⟩ := hk.1
    have := ((ends_of h).1 s hs).1
    rw [he] at this; cases this
  · obtain ⟨lo, hlo⟩ : ∃ lo, E[j]? = some lo := ⟨_, List.getElem?_eq_getElem hlt⟩
    have hi := hb.1 lo hlo
    refine ⟨hi.1, fun k => ?_⟩
    rw [hi.2.1]
    constructor
    · exact fun h => h.1
    · intro hk
      refine ⟨hk, ?_⟩
      have hE : E = E.take j ++ [lo] := by
        have e1 := (List.getElem?_eq_some_iff.1 hlo)
        conv => lhs; rw [← List.take_append_drop j E]
        rw [List.drop_eq_getElem_cons e1.1, e1.2, List.drop_of_length_le (by omega)]
      by_cases hkl : lo ≤ k
      · have hu := h.1
        rw [hE] at hu
        exact absurd hk.1 (behind_last hu (L := H) (fun s hs => by rw [← hE]; exact ((ends_of h).1 s hs).2) hkl)
      · grind
theorem built_next {H G : List Spn} {E : List ByteArray} {j : Nat} {hi : ByteArray} {O : List Spn} (h1 : E[j + 1]? = some hi) (hne : ¬ E = []) (h : BuildInv (But H G) hi O) : Built H G E (j + 1) O :=
  ⟨fun lo hlo => by rw [h1] at hlo; injection hlo with hlo; subst hlo; exact h, fun he => absurd he hne⟩
/-- What build leaves. -/
def BuildPost (H G : List Spn) (w : World) (e : Ending) (w' : World) : Prop :=
  (∃ (v : Value) (R : List Spn) (q : Nat), e = .returned v ∧ R.length = q ∧ Canon R ∧ (∀ k, InL R k ↔ But H G k) ∧ w'.ownsRow w.heap.size 24 2 v q (srow R)) ∧ Later w w'
set_option maxHeartbeats 4000000 in
theorem build_any {w : World} {A A' : Option Addr} {n n' c c' : Nat} {H G : List Spn} (hr : Rd w 2 A n (srow H)) (hl : H.length = n) (hA : A = none → n = 0) (hn : n ≤ 1048576) (hr' : Rd w 2 A' n' (srow G)) (hl' : G.length = n') (hA' : A' = none → n' = 0) (hn' : n' ≤ 1048576) :
    Calls Try.prog 74 #[.slice A n c, .slice A' n' c'] w (BuildPost H G w) := by
  have HR := hide_ hr
  have HR' := hide_ hr'
  have HA := hide_ hA
  have HA' := hide_ hA'
  have HL := hide_ hl
  have HL' := hide_ hl'
  have HO0 := hide_ (own_new w #[] 24 2 0 w.heap.size rfl (Nat.zero_le _) (Nat.le_refl _))
  clear hr hr' hA hA' hl hl'
  go_enter Try.func74, Try.ntmps74
  go_wp2_with (first | (at_builtin; (refine wpList_append_rd _ rfl (.tmp 9) (.tmp 10) 29 rfl w.heap.size 24 2 32 spanT _ 0 [] rfl HO0.out _ n _ (srow H) rfl (HR.out.alloc _) (srow_one _) (by omega) (by unfold maxLen; omega) (by simp) HA.out ?_; intro v2 w2 ho2 hg2 hat2; have hb2 := own_grown ((Below.refl w.heap.size w).alloc (Nat.le_refl _) _) HO0.out hg2 (by simp); obtain ⟨A2, c2, rfl⟩ := own_form ho2; simp only [Nat.zero_add, List.nil_append] at ho2; have HO2 := hide_ ho2; have HB2 := hide_ hb2; clear ho2 hb2 hg2 hat2)) | (at_builtin; (refine wpList_append_rd _ rfl (.tmp 11) (.tmp 12) 29 rfl w.heap.size 24 2 32 spanT _ n (srow H) rfl HO2.out _ n' _ (srow G) rfl (HR'.out.below HB2.out) (srow_one _) (by omega) (by unfold maxLen; omega) HB2.out.size HA'.out ?_; intro v3 w3 ho3 hg3 hat3; have hb3 := own_grown HB2.out HO2.out hg3 HB2.out.size; obtain ⟨A3, c3, rfl⟩ := own_form ho3; have HO3 := hide_ ho3; have HB3 := hide_ hb3; clear ho3 hb3 hg3 hat3)))
  refine (ends_any (L := H ++ G) (by have := Rd.of_own HO3.out; simpa [srow] using this) (by rw [List.length_append, HL.out, HL'.out]) (by omega)).mono ?_
  rintro e w4 ⟨⟨v4, E, q, rfl, hq, hq2, hE, ho4⟩, hb4⟩
  obtain ⟨A4, c4, rfl⟩ := own_form ho4
  have hq3 : q ≤ 4194304 := by rw [List.length_append, HL.out, HL'.out] at hq2; omega
  have HQ := hide_ hq
  have HE := hide_ hE
  have HRE := hide_ (Rd.of_own ho4)
  have HB4 := hide_ (Later.trans (show Later w w3 from HB3.out) hb4)
  have HR4 := hide_ (HR.out.below HB4.out)
  have HR4' := hide_ (HR'.out.below HB4.out)
  have HO5 := hide_ (own_new w4 #[] 24 2 0 w4.heap.size rfl (Nat.zero_le _) (Nat.le_refl _))
  clear hq hq2 hE ho4 hb4
  go_wp2_with fail
  go_loopw [6, 7, 8] (fun s6 s7 _ wr => ∃ (j p : Nat) (O : List Spn), s7 = .int .i64 ((j + 1 : Nat) : Int) ∧ (q = 0 ∨ j < q) ∧ j ≤ q ∧ p ≤ j ∧ Hid (O.length = p) ∧ Hid (Built H G E j O) ∧ Hid (wr.ownsRow w4.heap.size 24 2 s6 p (srow O)) ∧ Hid (Later w4 wr)) (fun _ i _ _ => q - (intOf i).toNat)
  case atStart => exact ⟨0, 0, [], rfl, by omega, Nat.zero_le _, Nat.le_refl _, rfl, built_start HE.out, HO5.out, (Below.refl _ _).alloc (Nat.le_refl _) _⟩
  case round =>
    obtain ⟨j, p, O, rfl, hjq, hj, hpj, HP, HBI, HO, HB⟩ := hrel
    obtain ⟨A5, c5, rfl⟩ := own_form HO.out
    by_cases hlt : j + 1 < q
    · have q1 : (j : Int) + 1 < (q : Int) := by omega
      have q2 : (j : Int) ≤ 4194304 := by omega
      have q3 : (0 : Int) ≤ (j : Int) := by omega
      have q4 : (j : Int) < (q : Int) := by omega
      have q5 : j < q := by omega
      obtain ⟨lo, hlo⟩ : ∃ x, E[j]? = some x := ⟨_, List.getElem?_eq_getElem (by rw [HQ.out]; omega)⟩
      obtain ⟨hi, hhi⟩ : ∃ x, E[j + 1]? = some x := ⟨_, List.getElem?_eq_getElem (by rw [HQ.out]; omega)⟩
      have HGAP := hide_ (but_gap HE.out hlo hhi)
      have HINV := hide_ (HBI.out.1 lo hlo)
      have HNE := hide_ (show ¬ E = [] by rintro rfl; simp at hlo)
      have HHI := hide_ hhi
      obtain ⟨bE, oE, rfl, c1⟩ := HRE.out.str hlo
      have HC1 := hide_ c1
      have HC2 := hide_ (show w4.cell? ⟨bE, oE + (j + 1), none⟩ = some (.string hi) by obtain ⟨b', o', h1, h2⟩ := HRE.out.str hhi; injection h1 with h1; injection h1 with h1 h3; subst h1; subst h3; exact h2)
      have c2 := (HB.out.cell (p := ⟨bE, oE + j, none⟩) (cell_lt c1)).trans c1
      clear hlo hhi c1
      go_wp2_with fail
      refine (in_any lo (HR4.out.below HB.out) HL.out (by omega)).mono ?_
      rintro e w5 ⟨⟨r1, rfl, hr1⟩, hb5⟩
      cases r1 with
      | false =>
        have HB5 := hide_ (Later.trans HB.out hb5)
        have HO5' := hide_ (own_below HO.out hb5)
        have HN := hide_ (show ¬ But H G lo from fun h => by have := hr1.2 h.1; cases this)
        clear hr1 hb5 c2
        go_wp2_with fail
        go_roundw
        case rel => exact ⟨j + 1, p, O, by go_num, by omega, by omega, by omega, HP, built_next HHI.out HNE.out (build_no HINV.out HGAP.out.1 HGAP.out.2 HN.out), HO5'.out, HB5.out⟩
        case measure => simp [intOf]; omega
      | true =>
        have HB5 := hide_ (Later.trans HB.out hb5)
        have HO5' := hide_ (own_below HO.out hb5)
        have hinH := hr1.1 rfl
        have d2 := (HB5.out.cell (p := ⟨bE, oE + (j + 1), none⟩) (cell_lt HC2.out)).trans HC2.out
        have d1 := (HB5.out.cell (p := ⟨bE, oE + j, none⟩) (cell_lt HC1.out)).trans HC1.out
        have HINH := hide_ hinH
        clear hr1 hb5 c2 hinH
        go_wp2_with fail
        refine (in_any lo (HR4'.out.below HB5.out) HL'.out (by omega)).mono ?_
        rintro e w6 ⟨⟨r2, rfl, hr2⟩, hb6⟩
        have HB6 := hide_ (Later.trans HB5.out hb6)
        have HO6 := hide_ (own_below HO5'.out hb6)
        have d1 := (hb6.cell (p := ⟨bE, oE + j, none⟩) (cell_lt d1)).trans d1
        have d2 := (hb6.cell (p := ⟨bE, oE + (j + 1), none⟩) (cell_lt d2)).trans d2
        cases r2 with
        | true =>
          have HN := hide_ (show ¬ But H G lo from fun h => h.2 (hr2.1 rfl))
          clear hr2 hb6 d1 d2
          go_wp2_with fail
          go_roundw
          case rel => exact ⟨j + 1, p, O, by go_num, by omega, by omega, by omega, HP, built_next HHI.out HNE.out (build_no HINV.out HGAP.out.1 HGAP.out.2 HN.out), HO6.out, HB6.out⟩
          case measure => simp [intOf]; omega
        | false =>
          have HM := hide_ (show But H G lo from ⟨HINH.out, fun h => by have := hr2.2 h; cases this⟩)
          clear hr2 hb6
          rcases Nat.eq_zero_or_pos p with hp | hp
          · subst hp
            obtain rfl : O = [] := List.eq_nil_of_length_eq_zero HP.out
            go_wp2_with fail
            go_quiet (fail)
            go_wp2_with fail
            obtain ⟨W7, hW7⟩ : ∃ W7, W7 = w6.drewN nq := ⟨_, rfl⟩
            rw [← hW7]
            have e1 := later_drew_cell (show W7.cell? ⟨bE, oE + j, none⟩ = some (.string lo) by rw [hW7]; exact d1)
            have e2 := later_drew_cell (show W7.cell? ⟨bE, oE + (j + 1), none⟩ = some (.string hi) by rw [hW7]; exact d2)
            have HO7 := hide_ (show W7.drew.ownsRow w4.heap.size 24 2 (.slice A5 0 c5) 0 (srow []) by rw [hW7]; exact HO6.out)
            have HB7 := hide_ (show Later w4 W7.drew by rw [hW7]; exact (below_drewN HB6.out nq).drew)
            clear hW7
            have k1 : IntKind.i64.wrap (j : Int) = (j : Int) := IntWalk.i64_in _ (by omega)
            have k3 : IntKind.i64.wrap ((j : Int) + 1) = (j : Int) + 1 := IntWalk.i64_in _ (by omega)
            have k4 : ((j : Int) + 1).toNat = j + 1 := by omega
            have k5 : (0 : Int) ≤ (j : Int) + 1 := by omega
            refine wp_region_l [12] (by kernel_rfl) ?_
            refine wpAnyL_pure 0 (v := ?_) rfl (by kernel_rfl) (by kernel_rfl) (by kernel_rfl) (fun _ _ _ h => h) (by rfl) (by intro W; go_simp; with_reducible rfl) ?_; try simp only [Act.put, List.setIfInBounds_toArray, List.set_cons_zero, List.set_cons_succ]
            refine wpAnyL_pure 1 (v := ?_) rfl (by kernel_rfl) (by kernel_rfl) (by kernel_rfl) (fun _ _ _ h => h) (by rfl) (by intro W; go_simp; with_reducible rfl) ?_; try simp only [Act.put, List.setIfInBounds_toArray, List.set_cons_zero, List.set_cons_succ]
            refine wpAnyL_pure 2 (v := ?_) rfl (by kernel_rfl) (by kernel_rfl) (by kernel_rfl) (fun _ _ _ h => h) (by rfl) (by intro W; go_simp; with_reducible rfl) ?_; try simp only [Act.put, List.setIfInBounds_toArray, List.set_cons_zero, List.set_cons_succ]
            refine wpAnyL_take 3 (v := ?_) rfl (by kernel_rfl) (by kernel_rfl) (by kernel_rfl) (by kernel_rfl) (fun _ _ _ h => h) (by rfl) (by intro W hSw; go_simp; with_reducible rfl) ?_; try simp only [Act.put, List.setIfInBounds_toArray, List.set_cons_zero, List.set_cons_succ]
            refine wpAnyL_pure 4 (v := ?_) rfl (by kernel_rfl) (by kernel_rfl) (by kernel_rfl) (fun _ _ _ h => h) (by rfl) (by intro W; go_simp; with_reducible rfl) ?_; try simp only [Act.put, List.setIfInBounds_toArray, List.set_cons_zero, List.set_cons_succ]
            refine wpAnyL_take 5 (v := ?_) rfl (by kernel_rfl) (by kernel_rfl) (by kernel_rfl) (by kernel_rfl) (fun _ _ _ h => h) (by rfl) (by intro W hSw; go_simp; with_reducible rfl) ?_; try simp only [Act.put, List.setIfInBounds_toArray, List.set_cons_zero, List.set_cons_succ]
            refine wpAnyL_pure 6 (v := ?_) rfl (by kernel_rfl) (by kernel_rfl) (by kernel_rfl) (fun _ _ _ h => h) (by rfl) (by intro W; go_simp; with_reducible rfl) ?_; try simp only [Act.put, List.setIfInBounds_toArray, List.set_cons_zero, List.set_cons_succ]
            refine wpAnyL_pure 7 (v := ?_) rfl (by kernel_rfl) (by kernel_rfl) (by kernel_rfl) (fun _ _ _ h => h) (by rfl) (by intro W; go_simp; with_reducible rfl) ?_; try simp only [Act.put, List.setIfInBounds_toArray, List.set_cons_zero, List.set_cons_succ]
            refine wpAnyL_pure 8 (v := ?_) rfl (by kernel_rfl) (by kernel_rfl) (by kernel_rfl) (fun _ _ _ h => h) (by rfl) (by intro W; go_simp; with_reducible rfl) ?_; try simp only [Act.put, List.setIfInBounds_toArray, List.set_cons_zero, List.set_cons_succ]
            refine wpAnyL_take 9 (v := ?_) rfl (by kernel_rfl) (by kernel_rfl) (by kernel_rfl) (by kernel_rfl) (fun _ _ _ h => h) (by rfl) (by intro W hSw; go_simp; with_reducible rfl) ?_; try simp only [Act.put, List.setIfInBounds_toArray, List.set_cons_zero, List.set_cons_succ]
            refine wpAnyL_pure 10 (v := ?_) rfl (by kernel_rfl) (by kernel_rfl) (by kernel_rfl) (fun _ _ _ h => h) (by rfl) (by intro W; go_simp; with_reducible rfl) ?_; try simp only [Act.put, List.setIfInBounds_toArray, List.set_cons_zero, List.set_cons_succ]
            refine wpAnyL_one 11 (by kernel_rfl) rfl (fun K hK => ?_)
            go_simp
            first | refine hK.out _ _ (by assumption) ?_ | refine hK.out _ _ (Later.refl _) ?_ | refine hK.out _ _ (Below.alloc (Below.refl _ _) (Nat.le_refl _) _) ?_
            clear hK K; try simp only [Act.put, List.setIfInBounds_toArray, List.set_cons_zero, List.set_cons_succ]
            refine wpAnyL_loud 12 (by kernel_rfl) (by rfl) rfl (fun K hK => ?_)
            refine step_append_rd (by rfl) (.tmp 66) (.tmp 77) 29 rfl w4.heap.size 24 2 32 spanT _ 0 (srow []) rfl (HO7.out.alloc _) _ 1 1 (encS (lo, hi)) rfl (Rd.newAt _ #[.string lo, .string hi] 24 1 2 _ (0, 0) rfl (by simp)) (encS_one _) (by omega) (by unfold maxLen; omega) (by have := Below.size HB7.out; simp at this ⊢; omega) (fun h => nomatch h) ?_; intro v8 w8 hown8 hg8 hat8; have HO8 := hide_ hown8; have HB8 := hide_ (show Later w4 w8 from own_grown (Below.alloc HB7.out (Below.size HB7.out) _) (HO7.out.alloc _) hg8 (by have := Below.size HB7.out; simp at this ⊢; omega)); clear hown8 hg8 hat8
            refine hK.out _ _ ?_
            clear hK K; try simp only [Act.put, List.setIfInBounds_toArray, List.set_cons_zero, List.set_cons_succ]
            refine wpAnyL_pure 13 (v := ?_) rfl (by kernel_rfl) (by kernel_rfl) (by kernel_rfl) (fun _ _ _ h => h) (by rfl) (by intro W; go_simp; with_reducible rfl) ?_; try simp only [Act.put, List.setIfInBounds_toArray, List.set_cons_zero, List.set_cons_succ]
            refine wpAnyL_done (by kernel_rfl) ?_ _
            clear k1 k3 k4 k5
            go_wp2_with fail
            go_roundw
            case rel =>
              exact ⟨j + 1, 0 + 1, [] ++ [(lo, hi)], by go_num, by omega, by omega, by omega, hide_ (by simp), built_next HHI.out HNE.out (build_yes HINV.out HGAP.out.1 HGAP.out.2 HM.out (fun L p h => by simp at h)), hide_ (by have := HO8.out; simpa [srow] using this), HB8.out⟩
            case measure => simp [intOf]; omega
          · obtain ⟨m, rfl⟩ : ∃ m, p = m + 1 := ⟨p - 1, by omega⟩
            obtain ⟨O', s, hOs⟩ : ∃ O' s, O = O' ++ [s] := by
              rcases List.eq_nil_or_concat O with h | ⟨O', s, h⟩
              · have := HP.out; rw [h] at this; simp at this
              · exact ⟨O', s, by simpa using h⟩
            subst hOs
            have HJ := hide_ (show O'.length = m by have := HP.out; simpa using this)
            have hpj : (O' ++ [s])[m]? = some s := by rw [← HJ.out]; simp
            obtain ⟨g5, rfl⟩ : ∃ g, A5 = some ⟨g, 0, none⟩ := by
              rcases sown_cases HO.out with ⟨_, h, _⟩ | h
              · omega
              · exact h
            have s2 := (HO6.out.cellAt (m * 2 + 1) (by omega)).trans (srow_snd hpj)
            have m1 : (0 : Int) ≤ (m : Int) := by omega
            have m2 : (m : Int) ≤ 4194304 := by omega
            have m3 : m < m + 1 := by omega
            clear hpj
            by_cases heq : s.2 = lo
            · have t1 : (s.2.toList == lo.toList) = true := by rw [beq_ba]; simpa using heq
              have HEQ := hide_ heq
              clear heq
              obtain ⟨cur, _, hgc, _⟩ := own_row HO6.out
              have f1 := fun nq => (show (w6.drewN nq).frozen? ⟨g5, m * 2 + 1, none⟩ = false from frozen_of_row _ _ (m * 2 + 1) _ _ hgc)
              clear hgc
              go_wp2_with fail
              go_quiet (fail)
              go_wp2_with fail
              go_roundw
              case rel =>
                refine ⟨j + 1, m + 1, O' ++ [(s.1, hi)], by go_num, by omega, by omega, by omega, hide_ (by simp [HJ.out]), built_next HHI.out HNE.out (build_on HINV.out HGAP.out.1 HGAP.out.2 HM.out HEQ.out), ?_, ?_⟩
                · rw [last_set HJ.out]
                  exact own_setCell (show (w6.drewN nq).ownsRow w4.heap.size 24 2 (.slice (some ⟨g5, 0, none⟩) (m + 1) c5) (m + 1) (srow (O' ++ [s])) from HO6.out) _ _
                · exact (below_drewN HB6.out nq).setCell (HO6.out.lt g5 rfl).1 _
              case measure => simp [intOf]; omega
            · have t1 : (s.2.toList == lo.toList) = false := by rw [beq_ba]; simpa using heq
              have HEQ := hide_ heq
              clear heq
              go_wp2_with fail
              go_quiet (fail)
              go_wp2_with fail
              obtain ⟨W7, hW7⟩ : ∃ W7, W7 = w6.drewN nq := ⟨_, rfl⟩
              rw [← hW7]
              have e1 := later_drew_cell (show W7.cell? ⟨bE, oE + j, none⟩ = some (.string lo) by rw [hW7]; exact d1)
              have e2 := later_drew_cell (show W7.cell? ⟨bE, oE + (j + 1), none⟩ = some (.string hi) by rw [hW7]; exact d2)
              have HO7 := hide_ (show W7.drew.ownsRow w4.heap.size 24 2 (.slice (some ⟨g5, 0, none⟩) (m + 1) c5) (m + 1) (srow (O' ++ [s])) by rw [hW7]; exact HO6.out)
              have HB7 := hide_ (show Later w4 W7.drew by rw [hW7]; exact (below_drewN HB6.out nq).drew)
              clear hW7
              have k1 : IntKind.i64.wrap (j : Int) = (j : Int) := IntWalk.i64_in _ (by omega)
              have k3 : IntKind.i64.wrap ((j : Int) + 1) = (j : Int) + 1 := IntWalk.i64_in _ (by omega)
              have k4 : ((j : Int) + 1).toNat = j + 1 := by omega
              have k5 : (0 : Int) ≤ (j : Int) + 1 := by omega
              refine wp_region_l [12] (by kernel_rfl) ?_
              refine wpAnyL_pure 0 (v := ?_) rfl (by kernel_rfl) (by kernel_rfl) (by kernel_rfl) (fun _ _ _ h => h) (by rfl) (by intro W; go_simp; with_reducible rfl) ?_; try simp only [Act.put, List.setIfInBounds_toArray, List.set_cons_zero, List.set_cons_succ]
              refine wpAnyL_pure 1 (v := ?_) rfl (by kernel_rfl) (by kernel_rfl) (by kernel_rfl) (fun _ _ _ h => h) (by rfl) (by intro W; go_simp; with_reducible rfl) ?_; try simp only [Act.put, List.setIfInBounds_toArray, List.set_cons_zero, List.set_cons_succ]
              refine wpAnyL_pure 2 (v := ?_) rfl (by kernel_rfl) (by kernel_rfl) (by kernel_rfl) (fun _ _ _ h => h) (by rfl) (by intro W; go_simp; with_reducible rfl) ?_; try simp only [Act.put, List.setIfInBounds_toArray, List.set_cons_zero, List.set_cons_succ]
              refine wpAnyL_take 3 (v := ?_) rfl (by kernel_rfl) (by kernel_rfl) (by kernel_rfl) (by kernel_rfl) (fun _ _ _ h => h) (by rfl) (by intro W hSw; go_simp; with_reducible rfl) ?_; try simp only [Act.put, List.setIfInBounds_toArray, List.set_cons_zero, List.set_cons_succ]
              refine wpAnyL_pure 4 (v := ?_) rfl (by kernel_rfl) (by kernel_rfl) (by kernel_rfl) (fun _ _ _ h => h) (by rfl) (by intro W; go_simp; with_reducible rfl) ?_; try simp only [Act.put, List.setIfInBounds_toArray, List.set_cons_zero, List.set_cons_succ]
              refine wpAnyL_take 5 (v := ?_) rfl (by kernel_rfl) (by kernel_rfl) (by kernel_rfl) (by kernel_rfl) (fun _ _ _ h => h) (by rfl) (by intro W hSw; go_simp; with_reducible rfl) ?_; try simp only [Act.put, List.setIfInBounds_toArray, List.set_cons_zero, List.set_cons_succ]
              refine wpAnyL_pure 6 (v := ?_) rfl (by kernel_rfl) (by kernel_rfl) (by kernel_rfl) (fun _ _ _ h => h) (by rfl) (by intro W; go_simp; with_reducible rfl) ?_; try simp only [Act.put, List.setIfInBounds_toArray, List.set_cons_zero, List.set_cons_succ]
              refine wpAnyL_pure 7 (v := ?_) rfl (by kernel_rfl) (by kernel_rfl) (by kernel_rfl) (fun _ _ _ h => h) (by rfl) (by intro W; go_simp; with_reducible rfl) ?_; try simp only [Act.put, List.setIfInBounds_toArray, List.set_cons_zero, List.set_cons_succ]
              refine wpAnyL_pure 8 (v := ?_) rfl (by kernel_rfl) (by kernel_rfl) (by kernel_rfl) (fun _ _ _ h => h) (by rfl) (by intro W; go_simp; with_reducible rfl) ?_; try simp only [Act.put, List.setIfInBounds_toArray, List.set_cons_zero, List.set_cons_succ]
              refine wpAnyL_take 9 (v := ?_) rfl (by kernel_rfl) (by kernel_rfl) (by kernel_rfl) (by kernel_rfl) (fun _ _ _ h => h) (by rfl) (by intro W hSw; go_simp; with_reducible rfl) ?_; try simp only [Act.put, List.setIfInBounds_toArray, List.set_cons_zero, List.set_cons_succ]
              refine wpAnyL_pure 10 (v := ?_) rfl (by kernel_rfl) (by kernel_rfl) (by kernel_rfl) (fun _ _ _ h => h) (by rfl) (by intro W; go_simp; with_reducible rfl) ?_; try simp only [Act.put, List.setIfInBounds_toArray, List.set_cons_zero, List.set_cons_succ]
              refine wpAnyL_one 11 (by kernel_rfl) rfl (fun K hK => ?_)
              go_simp
              first | refine hK.out _ _ (by assumption) ?_ | refine hK.out _ _ (Later.refl _) ?_ | refine hK.out _ _ (Below.alloc (Below.refl _ _) (Nat.le_refl _) _) ?_
              clear hK K; try simp only [Act.put, List.setIfInBounds_toArray, List.set_cons_zero, List.set_cons_succ]
              refine wpAnyL_loud 12 (by kernel_rfl) (by rfl) rfl (fun K hK => ?_)
              refine step_append_rd (by rfl) (.tmp 66) (.tmp 77) 29 rfl w4.heap.size 24 2 32 spanT _ (m + 1) (srow (O' ++ [s])) rfl (HO7.out.alloc _) _ 1 1 (encS (lo, hi)) rfl (Rd.newAt _ #[.string lo, .string hi] 24 1 2 _ (0, 0) rfl (by simp)) (encS_one _) (by omega) (by unfold maxLen; omega) (by have := Below.size HB7.out; simp at this ⊢; omega) (fun h => nomatch h) ?_; intro v8 w8 hown8 hg8 hat8; have HO8 := hide_ hown8; have HB8 := hide_ (show Later w4 w8 from own_grown (Below.alloc HB7.out (Below.size HB7.out) _) (HO7.out.alloc _) hg8 (by have := Below.size HB7.out; simp at this ⊢; omega)); clear hown8 hg8 hat8
              refine hK.out _ _ ?_
              clear hK K; try simp only [Act.put, List.setIfInBounds_toArray, List.set_cons_zero, List.set_cons_succ]
              refine wpAnyL_pure 13 (v := ?_) rfl (by kernel_rfl) (by kernel_rfl) (by kernel_rfl) (fun _ _ _ h => h) (by rfl) (by intro W; go_simp; with_reducible rfl) ?_; try simp only [Act.put, List.setIfInBounds_toArray, List.set_cons_zero, List.set_cons_succ]
              refine wpAnyL_done (by kernel_rfl) ?_ _
              clear k1 k3 k4 k5
              go_wp2_with fail
              go_roundw
              case rel =>
                exact ⟨j + 1, (m + 1) + 1, (O' ++ [s]) ++ [(lo, hi)], by go_num, by omega, by omega, by omega, hide_ (by simp [HJ.out]), built_next HHI.out HNE.out (build_yes HINV.out HGAP.out.1 HGAP.out.2 HM.out (fun L p h => by have h2 := (List.append_inj' h rfl).2; injection h2 with h2; rw [← h2]; exact HEQ.out)), hide_ (by have := HO8.out; simpa [srow] using this), HB8.out⟩
              case measure => simp [intOf]; omega
    · have hin : q ≤ j + 1 := by omega
      have hge : ¬ (j : Int) + 1 < (q : Int) := by omega
      have hend := hide_ (built_end HE.out HBI.out (by rw [HQ.out]; exact hin) (by rcases hjq with h | h; exact .inl (List.eq_nil_of_length_eq_zero (by rw [HQ.out]; exact h)); exact .inr (by rw [HQ.out]; exact h)))
      clear hin
      go_wp2_with fail
      go_ret
      exact ⟨⟨_, O, p, rfl, HP.out, hend.out.1, hend.out.2, own_base HO.out (Below.size HB4.out)⟩, Later.trans HB4.out HB.out⟩

end Go.Proofs.Ytidlkomgondkiaa
