/-
  The program's clock in memory: New, Now, bell, Set, Stop.
-/
import Derived.Test.YtinfeajbnhkkiaaProg
import Derived.Test.YtinfeajbnhkkiaaClockMath
import Derived.Test.YtinfeajbnhkkiaaCWords
import Derived.IntWalk
import Derived.Maps.OwnOps
import Derived.Maps.OwnSet
import Derived.Maps.RangeWalk
namespace Go.Proofs.Ytinfeajbnhkkiaa
open Go.RowKit Go.Maps
set_option linter.unusedVariables false
set_option linter.unusedSimpArgs false
theorem klaw : Keyed Try.prog 3 := int_keyed Try.underlying3
theorem zeroI (w : World) : (zeroValue 3).run Try.prog w = .ok (.int .i64 0) w := by kernel_rfl
/-- A number that an int holds. -/
def I64 (a : Int) : Prop := (Lit.int .i64 a).wf = true
theorem i64_iff {a : Int} : I64 a ↔ -9223372036854775808 ≤ a ∧ a ≤ 9223372036854775807 := by
  unfold I64; simp [Lit.wf, IntKind.min, IntKind.max, IntKind.signed, IntKind.bits]
theorem ikey {b : Int} (h : I64 b) : keyOf Try.prog 3 (.int .i64 b) = some (.int .i64 b) := keyOf_int_mk Try.underlying3 h
theorem ikey_lit {b : Int} : WideAt.IsKeyLit (.int .i64 b) := by simp [WideAt.IsKeyLit]
theorem ilit_ne {a b : Int} (h : a ≠ b) : (Lit.int .i64 a) ≠ .int .i64 b := fun e => h (by injection e)
/-- The map says these bells. -/
structure MapIs (D : DataW Unit) (L : List Bel) : Prop where
  yes : ∀ x, x ∈ L → Maps.has D (.int .i64 x.1) = true ∧ ∀ z, D.atKey (.int .i64 x.1) z = .lit (.int .i64 x.2)
  no : ∀ k, Maps.has D k = true → ∃ x, x ∈ L ∧ k = .int .i64 x.1
theorem MapIs.has_not {D : DataW Unit} {L : List Bel} (h : MapIs D L) {b : Int} (hb : ∀ x, x ∈ L → x.1 ≠ b) : Maps.has D (.int .i64 b) = false := by
  cases hc : Maps.has D (.int .i64 b) with
  | false => rfl
  | true =>
    obtain ⟨x, hx, e⟩ := h.no _ hc
    injection e with _ e
    exact absurd e.symm (hb x hx)
theorem MapIs.empty : MapIs (.map []) [] := ⟨fun x h => (by cases h), fun k h => (by cases h)⟩
theorem MapIs.set {D : DataW Unit} {L : List Bel} (h : MapIs D L) (hD : IsMap D) (b at_ : Int) : MapIs (D.put (.int .i64 b) (.lit (.int .i64 at_))) (setB b at_ L) := by
  refine ⟨fun x hx => ?_, fun k hk => ?_⟩
  · rcases mem_setB.1 hx with rfl | ⟨hx, hne⟩
    · exact ⟨has_put_same hD ikey_lit _, fun z => atKey_put_same hD ikey_lit _ z⟩
    · have h1 := h.yes x hx
      exact ⟨(has_put_other (ilit_ne hne) _).trans h1.1, fun z => (atKey_put_other (ilit_ne hne) _ z).trans (h1.2 z)⟩
  · by_cases e : k = .int .i64 b
    · exact ⟨(b, at_), mem_setB.2 (.inl rfl), e⟩
    · rw [has_put_other e] at hk
      obtain ⟨x, hx, rfl⟩ := h.no k hk
      exact ⟨x, mem_setB.2 (.inr ⟨hx, fun e2 => e (by rw [e2])⟩), rfl⟩
theorem MapIs.del {D : DataW Unit} {L : List Bel} (h : MapIs D L) (b : Int) : MapIs (D.del (.int .i64 b)) (butB b L) := by
  refine ⟨fun x hx => ?_, fun k hk => ?_⟩
  · obtain ⟨hx, hne⟩ := mem_butB.1 hx
    have h1 := h.yes x hx
    exact ⟨(has_del_other (ilit_ne hne)).trans h1.1, fun z => (atKey_del_other (ilit_ne hne) z).trans (h1.2 z)⟩
  · by_cases e : k = .int .i64 b
    · subst e; rw [has_del_same] at hk; cases hk
    · rw [has_del_other e] at hk
      obtain ⟨x, hx, rfl⟩ := h.no k hk
      exact ⟨x, mem_butB.2 ⟨hx, fun e2 => e (by rw [e2])⟩, rfl⟩
theorem MapIs.same {D : DataW Unit} {L M : List Bel} (h : MapIs D L) (hm : ∀ x, x ∈ L ↔ x ∈ M) : MapIs D M :=
  ⟨fun x hx => h.yes x ((hm x).2 hx), fun k hk => by obtain ⟨x, hx, e⟩ := h.no k hk; exact ⟨x, (hm x).1 hx, e⟩⟩
/-- A block that is the map of these bells, filled so many times. -/
def MapOf (w : World) (B n : Nat) (L : List Bel) : Prop := ∃ D : DataW Unit, w.ownsMap Try.prog 3 (plainElem Try.prog 3) B n D ∧ MapIs D L
def CkAt (w : World) (C B : Nat) (t : Int) : Prop := w.heap[C]? = some (.cells #[.int .i64 t, .map (some B)] 49 (0, 0))
/-- The clock stands here. -/
def CK (w : World) (C n : Nat) (t : Int) (L : List Bel) : Prop := ∃ B, CkAt w C B t ∧ MapOf w B n L ∧ Bells L ∧ 0 ≤ t ∧ t ≤ 1099511627776 ∧ ∀ x, x ∈ L → 0 ≤ x.2 ∧ x.2 ≤ 1099511627776
theorem ck_ne {w : World} {C B n : Nat} {t : Int} {D : DataW Unit} (h : CkAt w C B t) (hm : w.ownsMap Try.prog 3 (plainElem Try.prog 3) B n D) : B ≠ C := by
  rintro rfl
  obtain ⟨es, clock, hb, _⟩ := hm
  unfold CkAt at h
  rw [h] at hb
  cases hb
theorem CkAt.lt {w : World} {C B : Nat} {t : Int} (h : CkAt w C B t) : C < w.heap.size := theap_lt h
theorem CK.lt {w : World} {C n : Nat} {t : Int} {L : List Bel} (h : CK w C n t L) : C < w.heap.size := by obtain ⟨B, h1, _⟩ := h; exact h1.lt
theorem map_later {w w' : World} {B n : Nat} {D : DataW Unit} (h : w.ownsMap Try.prog 3 (plainElem Try.prog 3) B n D) (hb : Later w w') : w'.ownsMap Try.prog 3 (plainElem Try.prog 3) B n D :=
  h.kept (row := none) (grown_later hb none) (by simp)
theorem CK.later {w w' : World} {C n : Nat} {t : Int} {L : List Bel} (h : CK w C n t L) (hb : Later w w') : CK w' C n t L := by
  obtain ⟨B, h1, ⟨D, h2, h3⟩, h4⟩ := h
  exact ⟨B, (hb.block C h1.lt).trans h1, ⟨D, map_later h2 hb, h3⟩, h4⟩
/-- The sorts of a clock's blocks: what a call may turn, by number: the clock's block and its map. -/
def CTurn (C : Nat) (w w' : World) : Prop := ∃ B t t', CkAt w C B t ∧ CkAt w' C B t' ∧ w'.os = w.os ∧ w'.tape = w.tape ∧ w'.output = w.output ∧ w.heap.size ≤ w'.heap.size ∧ ∀ k, k < w.heap.size → k ≠ C → k ≠ B → w'.heap[k]? = w.heap[k]?
/-- The clock's blocks lie from here on. -/
def CB (base : Nat) (w : World) (C : Nat) : Prop := base ≤ C ∧ ∀ B t, CkAt w C B t → base ≤ B
theorem ckAt_uniq {w : World} {C B B' : Nat} {t t' : Int} (h : CkAt w C B t) (k : CkAt w C B' t') : B = B' := by
  unfold CkAt at h k; rw [h] at k; injection k with k; injection k with k; injection k with k; injection k with _ k; injection k with k; injection k with k; injection k
theorem CB.later {base : Nat} {w w' : World} {C : Nat} (h : CB base w C) (hC : C < w.heap.size) (hb : Later w w') : CB base w' C :=
  ⟨h.1, fun B t hk => h.2 B t ((hb.block C hC).symm.trans hk)⟩
theorem CB.turn {base : Nat} {w w' : World} {C : Nat} (h : CB base w C) (ht : CTurn C w w') : CB base w' C := by
  obtain ⟨B, t, t', h1, h2, _⟩ := ht
  exact ⟨h.1, fun B' s hk => by rw [← ckAt_uniq h2 hk]; exact h.2 B t h1⟩
theorem CTurn.later {w0 w w' : World} {C : Nat} (ht : CTurn C w w') (h0 : Later w0 w) (hb : CB w0.heap.size w C) : Later w0 w' := by
  obtain ⟨B, t, t', h1, h2, h3, h4, h5, h6, h7⟩ := ht
  have hB := hb.2 B t h1
  have hs : w0.heap.size ≤ w.heap.size := h0.size
  exact ⟨h3.trans h0.os, h4.trans h0.tape, h5.trans h0.output, Nat.le_trans hs h6, fun k hk => (h7 k (by omega) (by have := hb.1; omega) (by omega)).trans (h0.block k hk)⟩
set_option maxHeartbeats 1000000 in
theorem bell_any (C : Nat) (b : Int) (w : World) : Calls Try.prog 17 #[.pointer (some ⟨C, 0, none⟩), .int .i64 b] w fun e w' => e = .returned (.int .i64 (if b < 0 ∨ 4096 ≤ b then 1 else 0)) ∧ w = w' := by
  by_cases h1 : b < 0
  · have HE := hide_ h1
    go_enter Try.func17, Try.ntmps17
    go_wp2_with fail
    go_ret
    exact ⟨rfl, rfl⟩
  · by_cases h2 : 4096 ≤ b
    · have HE := hide_ (show (if b < 0 ∨ 4096 ≤ b then (1 : Int) else 0) = 1 from if_pos (.inr h2))
      go_enter Try.func17, Try.ntmps17
      go_wp2_with fail
      go_ret
      exact ⟨rfl, rfl⟩
    · have HE := hide_ (show (if b < 0 ∨ 4096 ≤ b then (1 : Int) else 0) = 0 from if_neg (by omega))
      have h3 : b < 4096 := by omega
      go_enter Try.func17, Try.ntmps17
      go_wp2_with fail
      go_ret
      exact ⟨rfl, rfl⟩
theorem cnow_any {w : World} {C n : Nat} {t : Int} {L : List Bel} (h : CK w C n t L) : Calls Try.prog 11 #[.pointer (some ⟨C, 0, none⟩)] w fun e w' => e = .returned (.int .i64 t) ∧ w = w' := by
  obtain ⟨B, h1, _⟩ := h
  have m0 := cell_of_row _ _ 0 _ _ (0, 0) h1
  clear h1
  go_enter Try.func11, Try.ntmps11
  go_wp2_with fail
  go_ret
  exact ⟨rfl, rfl⟩
set_option maxHeartbeats 1000000 in
theorem cknew_any (w : World) : Calls Try.prog 7 #[] w fun e w' => e = .returned (.pointer (some ⟨w.heap.size + 1, 0, none⟩)) ∧ CK w' (w.heap.size + 1) 0 0 [] ∧ CB w.heap.size w' (w.heap.size + 1) ∧ Later w w' := by
  have hmm := @run_makeMap Try.prog
  have ho := (World.ownsMap_made (H := Unit) w Try.prog 3 (plainElem Try.prog 3)).alloc (.cells #[.int .i64 0, .map (some w.heap.size)] 49)
  have HO := hide_ ho
  clear ho
  go_enter Try.func7, Try.ntmps7
  go_wp2_with fail
  go_ret
  refine ⟨rfl, ⟨w.heap.size, row_new2 _ _ _, ⟨_, HO.out, MapIs.empty⟩, Bells.nil, by omega, by omega, fun x h => (by cases h)⟩, ⟨by omega, fun B t hk => by rw [← ckAt_uniq (show CkAt _ _ w.heap.size 0 from row_new2 _ _ _) hk]; omega⟩, (later_alloc _ _).trans (later_alloc _ _)⟩
/-- What Set answers, and leaves. -/
def SetPost (C n : Nat) (t b at_ : Int) (L : List Bel) (w : World) (e : Ending) (w' : World) : Prop :=
  ((b < 0 ∨ 4096 ≤ b) ∧ e = .returned (.int .i64 1) ∧ w = w') ∨ (0 ≤ b ∧ b < 4096 ∧ at_ < t ∧ e = .returned (.int .i64 7) ∧ w = w') ∨ (0 ≤ b ∧ b < 4096 ∧ t ≤ at_ ∧ 1099511627776 < at_ ∧ e = .returned (.int .i64 5) ∧ w = w') ∨
  (0 ≤ b ∧ b < 4096 ∧ t ≤ at_ ∧ at_ ≤ 1099511627776 ∧ e = .returned (.int .i64 0) ∧ CK w' C (n + 1) t (setB b at_ L) ∧ CTurn C w w')
set_option maxHeartbeats 2000000 in
theorem ckset_any {w : World} {C n : Nat} {t : Int} {L : List Bel} (b at_ : Int) (h : CK w C n t L) (hn : n ≤ 1048576) :
    Calls Try.prog 9 #[.pointer (some ⟨C, 0, none⟩), .int .i64 b, .int .i64 at_] w (SetPost C n t b at_ L w) := by
  have HCK := hide_ h
  obtain ⟨B, h1, ⟨D, h2, h3⟩, h4, h5, h6, h7⟩ := h
  have m0 := cell_of_row _ _ 0 _ _ (0, 0) h1
  have m1 := cell_of_row _ _ 1 _ _ (0, 0) h1
  have H1 := hide_ h1; have H2 := hide_ h2; have H3 := hide_ h3; have H4 := hide_ h4; have H7 := hide_ h7
  have HNE := hide_ (ck_ne h1 h2)
  clear h1 h2 h3 h4 h7
  by_cases e1 : b < 0 ∨ 4096 ≤ b
  · have HE := hide_ e1
    have hbl := bell_any C b
    rw [if_pos e1] at hbl
    have HBL := hide_ hbl
    clear e1 hbl
    go_enter Try.func9, Try.ntmps9
    go_wp2_with (go_at_call 17; refine (HBL.out _).mono ?_; rintro e w' ⟨rfl, rfl⟩)
    go_ret
    exact .inl ⟨HE.out, rfl, rfl⟩
  · have hbl := bell_any C b
    rw [if_neg e1] at hbl
    have HBL := hide_ hbl
    have b1 : 0 ≤ b := by omega
    have b2 : b < 4096 := by omega
    clear e1 hbl
    by_cases e2 : at_ < t
    · go_enter Try.func9, Try.ntmps9
      go_wp2_with (go_at_call 17; refine (HBL.out _).mono ?_; rintro e w' ⟨rfl, rfl⟩)
      go_ret
      exact .inr (.inl ⟨b1, b2, e2, rfl, rfl⟩)
    · by_cases e3 : 1099511627776 < at_
      · have e2' : t ≤ at_ := by omega
        go_enter Try.func9, Try.ntmps9
        go_wp2_with (go_at_call 17; refine (HBL.out _).mono ?_; rintro e w' ⟨rfl, rfl⟩)
        go_ret
        exact .inr (.inr (.inl ⟨b1, b2, e2', e3, rfl, rfl⟩))
      · have e2' : t ≤ at_ := by omega
        have e3' : at_ ≤ 1099511627776 := by omega
        have hkb : I64 b := i64_iff.2 (by omega)
        have hka : I64 at_ := i64_iff.2 (by omega)
        have HKB := hide_ hkb; have HKA := hide_ hka
        clear hkb hka
        go_enter Try.func9, Try.ntmps9
        go_wp2_with (first | (go_at_call 17; refine (HBL.out _).mono ?_; rintro e w' ⟨rfl, rfl⟩) | (at_mapUpdate; go_loud (refine wpList_mapUpdate_own _ rfl _ _ _ 47 rfl 3 3 klaw Try.underlying47 _ B n _ rfl H2.out (by unfold maxLen; omega) _ _ _ rfl rfl (ikey HKB.out) _ [] (plainElem_int Try.underlying3 HKA.out) ?_; intro w1 hown1 hgrow1)))
        go_ret
        refine .inr (.inr (.inr ⟨b1, b2, e2', e3', rfl, ⟨B, (hgrow1.block C H1.out.lt (fun e => HNE.out (Option.some.inj e).symm)).trans H1.out, ⟨_, hown1, H3.out.set (H2.out.isMap) b at_⟩, H4.out.set b1 b2, h5, h6, fun x hx => ?_⟩, B, t, t, H1.out, (hgrow1.block C H1.out.lt (fun e => HNE.out (Option.some.inj e).symm)).trans H1.out, hgrow1.os, hgrow1.tape, hgrow1.output, hgrow1.size, fun k hk _ hkB => hgrow1.block k hk (fun e => hkB (Option.some.inj e))⟩))
        rcases mem_setB.1 hx with rfl | ⟨hx, _⟩
        · exact ⟨by show 0 ≤ at_; omega, e3'⟩
        · exact H7.out x hx
/-- What Stop answers, and leaves. -/
def StopPost (C n : Nat) (t b : Int) (L : List Bel) (w : World) (e : Ending) (w' : World) : Prop :=
  ((b < 0 ∨ 4096 ≤ b) ∧ e = .returned (.int .i64 1) ∧ w = w') ∨ (0 ≤ b ∧ b < 4096 ∧ (∀ x, x ∈ L → x.1 ≠ b) ∧ e = .returned (.int .i64 4) ∧ w = w') ∨
  (0 ≤ b ∧ b < 4096 ∧ (∃ x, x ∈ L ∧ x.1 = b) ∧ e = .returned (.int .i64 0) ∧ CK w' C n t (butB b L) ∧ CTurn C w w')
set_option maxHeartbeats 2000000 in
theorem ckstop_any {w : World} {C n : Nat} {t : Int} {L : List Bel} (b : Int) (h : CK w C n t L) :
    Calls Try.prog 13 #[.pointer (some ⟨C, 0, none⟩), .int .i64 b] w (StopPost C n t b L w) := by
  obtain ⟨B, h1, ⟨D, h2, h3⟩, h4, h5, h6, h7⟩ := h
  have m0 := cell_of_row _ _ 0 _ _ (0, 0) h1
  have m1 := cell_of_row _ _ 1 _ _ (0, 0) h1
  have H1 := hide_ h1; have H2 := hide_ h2; have H3 := hide_ h3; have H4 := hide_ h4; have H7 := hide_ h7
  have HNE := hide_ (ck_ne h1 h2)
  clear h1 h2 h3 h4 h7
  by_cases e1 : b < 0 ∨ 4096 ≤ b
  · have HE := hide_ e1
    have hbl := bell_any C b
    rw [if_pos e1] at hbl
    have HBL := hide_ hbl
    clear e1 hbl
    go_enter Try.func13, Try.ntmps13
    go_wp2_with (go_at_call 17; refine (HBL.out _).mono ?_; rintro e w' ⟨rfl, rfl⟩)
    go_ret
    exact .inl ⟨HE.out, rfl, rfl⟩
  · have hbl := bell_any C b
    rw [if_neg e1] at hbl
    have HBL := hide_ hbl
    have b1 : 0 ≤ b := by omega
    have b2 : b < 4096 := by omega
    have HKB := hide_ (show I64 b from i64_iff.2 (by omega))
    clear e1 hbl
    by_cases e2 : ∃ x, x ∈ L ∧ x.1 = b
    · obtain ⟨x, hx, rfl⟩ := e2
      have HXL := hide_ hx
      have hh := (H3.out.yes x hx).1
      clear hx
      go_enter Try.func13, Try.ntmps13
      go_wp2_with (first | (go_at_call 17; refine (HBL.out _).mono ?_; rintro e w' ⟨rfl, rfl⟩) | (at_lookup; go_loud (refine wpList_lookup_own_ok_int _ rfl _ _ 47 rfl 3 3 .i64 klaw Try.underlying47 Try.underlying3 (zeroI _) B n D rfl H2.out _ _ rfl (ikey HKB.out) ?_; intro c hat hwc)) | (at_delete; go_loud (refine wpList_delete_own _ rfl _ _ 47 3 rfl 3 klaw Try.underlying47 _ B n D rfl H2.out _ _ rfl (ikey HKB.out) ?_; intro w1 hown1 hturn1)))
      go_ret
      have hgrow1 := hturn1.grown
      exact .inr (.inr ⟨b1, b2, ⟨x, HXL.out, rfl⟩, rfl, ⟨B, (hgrow1.block C H1.out.lt (fun e => HNE.out (Option.some.inj e).symm)).trans H1.out, ⟨_, hown1, H3.out.del x.1⟩, H4.out.but x.1, h5, h6, fun y hy => H7.out y (mem_butB.1 hy).1⟩, B, t, t, H1.out, (hgrow1.block C H1.out.lt (fun e => HNE.out (Option.some.inj e).symm)).trans H1.out, hgrow1.os, hgrow1.tape, hgrow1.output, hgrow1.size, fun k hk _ hkB => hgrow1.block k hk (fun e => hkB (Option.some.inj e))⟩)
    · have e3 : ∀ x, x ∈ L → x.1 ≠ b := fun x hx e => e2 ⟨x, hx, e⟩
      have hh := H3.out.has_not e3
      have E3 := hide_ e3
      clear e2 e3
      go_enter Try.func13, Try.ntmps13
      go_wp2_with (first | (go_at_call 17; refine (HBL.out _).mono ?_; rintro e w' ⟨rfl, rfl⟩) | (at_lookup; go_loud (refine wpList_lookup_own_ok_int _ rfl _ _ 47 rfl 3 3 .i64 klaw Try.underlying47 Try.underlying3 (zeroI _) B n D rfl H2.out _ _ rfl (ikey HKB.out) ?_; intro c hat hwc)))
      go_ret
      exact .inr (.inl ⟨b1, b2, E3.out, rfl, rfl⟩)

end Go.Proofs.Ytinfeajbnhkkiaa
