/-
  Texts of this seat in one: CutA.
-/
import Derived.RegionTactic
import Derived.Lib.MinMax
import Derived.Test.YtcmollfhlillfaaGreatDoorM18
/-
  What both spans have, the span of a change, what changes do to the keys of a span.
-/
namespace Go.Proofs.YtcmollfhlillfaaGreatDoor
open Go.RowKit
set_option linter.unusedVariables false
set_option linter.unusedSimpArgs false
theorem chk_kind {kind : Int} {k v : ByteArray} (h : chk kind k v = 0) : kind = 1 ∨ kind = 2 ∨ kind = 3 := by
  unfold chk at h
  by_cases h3 : kind = 3
  · exact .inr (.inr h3)
  · by_cases h2 : kind = 2
    · exact .inr (.inl h2)
    · by_cases h1 : kind = 1
      · exact .inl h1
      · rw [if_neg h3, if_neg h2, if_neg h1] at h; cases h
theorem chkAll_mem {C : List Chg} (h : chkAll C = 0) : ∀ c, c ∈ C → chk c.1 c.2.1 c.2.2 = 0 := by
  induction C with
  | nil => intro c hc; cases hc
  | cons d C ih =>
    intro c hc
    unfold chkAll at h
    by_cases h0 : chk d.1 d.2.1 d.2.2 = 0
    · rw [if_pos h0] at h
      rcases List.mem_cons.1 hc with rfl | hc
      · exact h0
      · exact ih h c hc
    · rw [if_neg h0] at h; exact absurd h h0
theorem chk_size {kind : Int} {k v : ByteArray} (h : chk kind k v = 0) : k.size ≤ 17 := by
  unfold chk at h
  repeat' split at h
  all_goals first | omega | (exact absurd h (by decide)) | skip
theorem set_two {W0 W : World} {bk : Nat} {a b u v : Value} {t : TypeId} (h : Later W0 W) (hb : W0.heap.size ≤ bk) (hr : W.heap[bk]? = some (.cells #[a, b] t (0, 0))) :
    Later W0 ((W.setCell ⟨bk, 0, none⟩ u).setCell ⟨bk, 1, none⟩ v) ∧ ((W.setCell ⟨bk, 0, none⟩ u).setCell ⟨bk, 1, none⟩ v).cell? ⟨bk, 0, none⟩ = some u ∧ ((W.setCell ⟨bk, 0, none⟩ u).setCell ⟨bk, 1, none⟩ v).cell? ⟨bk, 1, none⟩ = some v := by
  have h1 := heap_setCell_same W bk 0 _ _ u hr
  have h2 := heap_setCell_same _ bk 1 _ _ v h1
  exact ⟨Below.setCell (Below.setCell h hb _) hb _, cell_of_row _ _ 0 _ _ (0, 0) h2, cell_of_row _ _ 1 _ _ (0, 0) h2⟩
theorem set_two' {W0 W : World} {bk : Nat} {a b u v : Value} {t : TypeId} (h : Later W0 W) (hb : W0.heap.size ≤ bk) (hr : W.heap[bk]? = some (.cells #[a, b] t (0, 0))) :
    Later W0 ((W.setCell ⟨bk, 0, none⟩ u).setCell ⟨bk, 1, none⟩ v) ∧ W0.heap.size ≤ bk ∧ ((W.setCell ⟨bk, 0, none⟩ u).setCell ⟨bk, 1, none⟩ v).heap[bk]? = some (.cells #[u, v] t (0, 0)) := by
  have h1 := heap_setCell_same W bk 0 _ _ u hr
  have h2 := heap_setCell_same _ bk 1 _ _ v h1
  exact ⟨Below.setCell (Below.setCell h hb _) hb _, hb, by simpa using h2⟩
/-- What two spans have both. -/
def smeetS (a b : Spn) : Spn :=
  let f := if a.1 < b.1 then b.1 else a.1
  let t := if b.2 < a.2 then b.2 else a.2
  if t ≤ f then (ByteArray.empty, ByteArray.empty) else (f, t)
theorem smeet_comm (a b : Spn) : smeetS a b = smeetS b a := by
  unfold smeetS
  have e1 : (if a.1 < b.1 then b.1 else a.1) = (if b.1 < a.1 then a.1 else b.1) := by split <;> split <;> grind
  have e2 : (if b.2 < a.2 then b.2 else a.2) = (if a.2 < b.2 then a.2 else b.2) := by split <;> split <;> grind
  simp only [e1, e2]
theorem sempty_lo (k : ByteArray) : ByteArray.empty ≤ k := List.nil_le _
theorem smeet_in (a b : Spn) (k : ByteArray) : InS (smeetS a b) k ↔ InS a k ∧ InS b k := by
  unfold smeetS InS
  simp only
  have he := sempty_lo k
  by_cases h : (if b.2 < a.2 then b.2 else a.2) ≤ (if a.1 < b.1 then b.1 else a.1)
  · rw [if_pos h]
    simp only
    constructor
    · rintro ⟨h1, h2⟩; grind
    · rintro ⟨⟨h1, h2⟩, h3, h4⟩
      split at h <;> split at h <;> grind
  · rw [if_neg h]
    simp only
    split at h <;> split at h <;> split <;> grind
set_option maxHeartbeats 1000000 in
theorem meet_any (a b : Spn) (w : World) : Calls Tryz.prog 100 #[.agg #[.string a.1, .string a.2], .agg #[.string b.1, .string b.2]] w fun e w' => e = .returned (.agg #[.string (smeetS a b).1, .string (smeetS a b).2]) ∧ Later w w' := by
  obtain ⟨f, hf⟩ : ∃ f, f = if a.1 < b.1 then b.1 else a.1 := ⟨_, rfl⟩
  obtain ⟨t, ht⟩ : ∃ t, t = if b.2 < a.2 then b.2 else a.2 := ⟨_, rfl⟩
  have hm : smeetS a b = if t ≤ f then (ByteArray.empty, ByteArray.empty) else (f, t) := by unfold smeetS; rw [hf, ht]
  have m1 : ∀ ts ty W, (Builtin.max_ ts ty #[.string a.1, .string b.1]).run Tryz.prog W = .ok (.string f) W := fun ts ty W => by rw [run_max_str, hf]
  have m2 : ∀ ts ty W, (Builtin.min_ ts ty #[.string a.2, .string b.2]).run Tryz.prog W = .ok (.string t) W := fun ts ty W => by rw [run_min_str, ht]
  clear hf ht
  by_cases h : t ≤ f
  · rw [if_pos h] at hm
    have HM := hide_ hm
    have he := fun W => empty_any f t W
    rw [decide_eq_true h] at he
    clear h hm
    go_enter Tryz.func100, Tryz.ntmps100
    go_wp2_with (go_at_call 101; refine (he _).mono ?_; rintro e w' ⟨rfl, rfl⟩)
    go_returns
    refine ⟨by rw [HM.out]; rfl, ?_⟩
    exact ((((((Below.refl _ _).alloc (Nat.le_refl _) _).alloc (by simp) _).alloc (by simp; omega) _).alloc (by simp; omega) _).alloc (by simp; omega) _)
  · rw [if_neg h] at hm
    have HM := hide_ hm
    have he := fun W => empty_any f t W
    rw [decide_eq_false h] at he
    clear h hm
    go_enter Tryz.func100, Tryz.ntmps100
    go_wp2_with (go_at_call 101; refine (he _).mono ?_; rintro e w' ⟨rfl, rfl⟩)
    go_returns
    refine ⟨by rw [HM.out], ?_⟩
    exact ((((((Below.refl _ _).alloc (Nat.le_refl _) _).alloc (by simp) _).alloc (by simp; omega) _).alloc (by simp; omega) _).alloc (by simp; omega) _)
/-- The span that a change names. -/
def spanC (kind : Int) (k v : ByteArray) : ByteArray × ByteArray := if kind = 3 then (k, v) else (k, k ++ ⟨#[0]⟩)
theorem snext_any (s : ByteArray) (hs : s.size ≤ 4611686018427387904) (w : World) : Calls Tryz.prog 142 #[.string s] w fun e w' => e = .returned (.string (s ++ ⟨#[0]⟩)) ∧ w = w' := by
  have h : ∀ W, (Op.stringOp .add s ⟨#[0]⟩).run Tryz.prog W = .ok (.string (s ++ ⟨#[0]⟩)) W := fun W => run_string_add_sum W s ⟨#[0]⟩ (by show s.size + 1 ≤ 9223372036854775807; omega)
  go_enter Tryz.func142, Tryz.ntmps142
  go_wp2_with fail
  go_ret
  exact ⟨rfl, rfl⟩
set_option maxHeartbeats 4000000 in
theorem pspan_any (kind : Int) (k v : ByteArray) (hs : k.size ≤ 4611686018427387904) (w : World) : Calls Tryz.prog 129 #[.agg #[.int .i64 kind, .string k, .string v]] w fun e w' => e = .returned (.agg #[.string (spanC kind k v).1, .string (spanC kind k v).2]) ∧ Later w w' := by
  by_cases h : kind = 3
  · subst h
    go_enter Tryz.func129, Tryz.ntmps129
    go_wp2
    go_returns
    exact ⟨rfl, ((Below.refl _ _).alloc (Nat.le_refl _) _).alloc (by simp) _⟩
  · have h' : ¬ (3 : Int) = kind := fun e => h e.symm
    have e1 : spanC kind k v = (k, k ++ ⟨#[0]⟩) := by unfold spanC; rw [if_neg h]
    rw [e1]
    have hnx := hide_ (fun W => snext_any k hs W)
    clear hs e1
    go_enter Tryz.func129, Tryz.ntmps129
    go_wp2_with fail
    obtain ⟨W1, hW1⟩ : ∃ W1, W1 = (w.alloc (.cells #[.int .i64 kind, .string k, .string v] 142)).alloc (.cells #[.string ByteArray.empty, .string ByteArray.empty] 81) := ⟨_, rfl⟩
    have hx0 : W1.heap[w.heap.size]? = some (.cells #[.int .i64 kind, .string k, .string v] 142 (0, 0)) := by rw [hW1]; exact row_al (heap_alloc_new w _) _
    have hz0 : W1.heap[w.heap.size + 1]? = some (.cells #[.string ByteArray.empty, .string ByteArray.empty] 81 (0, 0)) := by
      rw [hW1]; exact row_new2 w _ _
    have HB1 := hide_ (show Later w W1 by rw [hW1]; exact ((Below.refl _ _).alloc (Nat.le_refl _) _).alloc (by simp) _)
    rw [show ((w.alloc (.cells #[.int .i64 kind, .string k, .string v] 142)).alloc (.cells #[.string { data := #[] }, .string { data := #[] }] 81)) = W1 from hW1.symm]
    have ax1 := later_drew_cell (cell_of_row _ _ 1 _ _ (0, 0) hx0)
    have z0 := cell_of_row _ _ 0 _ _ (0, 0) hz0
    have z1 := cell_of_row _ _ 1 _ _ (0, 0) hz0
    have z2 := frozen_of_row _ _ 0 _ _ hz0
    have z3 := frozen_of_row _ _ 1 _ _ hz0
    have HZ := hide_ hz0
    clear hW1 hx0 hz0
    refine wp_region_l [6] (by kernel_rfl) ?_
    refine wpAnyL_pure 0 (v := ?_) rfl (by kernel_rfl) (by kernel_rfl) (by kernel_rfl) (fun _ _ _ h => h) (by rfl) (by intro W; go_simp; with_reducible rfl) ?_; try simp only [Act.put, qA, qZ, qS]
    refine wpAnyL_take 1 (v := ?_) rfl (by kernel_rfl) (by kernel_rfl) (by kernel_rfl) (by kernel_rfl) (fun _ _ _ h => h) (by rfl) (by intro W hSw; go_simp; with_reducible rfl) ?_; try simp only [Act.put, qA, qZ, qS]
    refine wpAnyL_pure 2 (v := ?_) rfl (by kernel_rfl) (by kernel_rfl) (by kernel_rfl) (fun _ _ _ h => h) (by rfl) (by intro W; go_simp; with_reducible rfl) ?_; try simp only [Act.put, qA, qZ, qS]
    refine wpAnyL_take 3 (v := ?_) rfl (by kernel_rfl) (by kernel_rfl) (by kernel_rfl) (by kernel_rfl) (fun _ _ _ h => h) (by rfl) (by intro W hSw; go_simp; with_reducible rfl) ?_; try simp only [Act.put, qA, qZ, qS]
    refine wpAnyL_one 4 (by kernel_rfl) rfl (fun K hK => ?_)
    go_simp
    refine (hnx.out _).mono ?_; rintro e w11 ⟨rfl, rfl⟩; have hlr := Later.refl W1.drew
    first | refine hK.out _ _ (by assumption) ?_ | refine hK.out _ _ (Later.refl _) ?_ | refine hK.out _ _ (Below.alloc (Below.refl _ _) (Nat.le_refl _) _) ?_
    clear hK K; try simp only [Act.put, qA, qZ, qS]
    refine wpAnyL_pure 5 (v := ?_) rfl (by kernel_rfl) (by kernel_rfl) (by kernel_rfl) (fun _ _ _ h => h) (by rfl) (by intro W; go_simp; with_reducible rfl) ?_; try simp only [Act.put, qA, qZ, qS]
    refine wpAnyL_loud 6 (by kernel_rfl) (by rfl) rfl (fun K hK => ?_)
    go_simp
    refine hK.out _ _ ?_
    clear hK K; try simp only [Act.put, qA, qZ, qS]
    refine wpAnyL_done (by kernel_rfl) ?_ _
    have hs2 := set_two (W0 := w) (u := .string k) (v := .string (k ++ ⟨#[0]⟩)) HB1.out (show w.heap.size ≤ w.heap.size + 1 by omega) HZ.out
    obtain ⟨hb2, y0, y1⟩ := hs2
    have HB2 := hide_ hb2
    clear hb2 ax1 z0 z1 z2 z3
    generalize ((W1.setCell ⟨w.heap.size + 1, 0, none⟩ (.string k)).setCell ⟨w.heap.size + 1, 1, none⟩ (.string (k ++ ⟨#[0]⟩))) = W2 at *
    go_wp2_with fail
    exact bodyPost_ret (v := .agg #[.string k, .string (k ++ ⟨#[0]⟩)]) (by simp [results, Tryz.results129, go_sem, y0, y1]) rfl ⟨rfl, HB2.out.drew⟩
theorem empty_b (s : Spn) (w : World) : Calls Tryz.prog 101 #[.agg #[.string s.1, .string s.2]] w fun e w' => e = .returned (.bool (decide (s.2 ≤ s.1))) ∧ Later w w' :=
  (empty_any s.1 s.2 w).mono fun e w' ⟨he, hw⟩ => ⟨he, by rw [hw]; exact (Below.refl _ _).alloc (Nat.le_refl _) _⟩
theorem inS_dec (s : Spn) (k : ByteArray) : ∃ c : Bool, c = true ↔ InS s k := by
  by_cases h : InS s k
  · exact ⟨true, by simp [h]⟩
  · exact ⟨false, by simp [h]⟩
theorem has_b (s : Spn) (k : ByteArray) (c : Bool) (hc : c = true ↔ InS s k) (w : World) : Calls Tryz.prog 130 #[.agg #[.string s.1, .string s.2], .string k] w fun e w' => e = .returned (.bool c) ∧ Later w w' := by
  cases c with
  | true => exact (has_yes s.1 s.2 k w (hc.1 rfl)).mono fun e w' ⟨he, hw⟩ => ⟨he, by rw [hw]; exact (Below.refl _ _).alloc (Nat.le_refl _) _⟩
  | false => exact (has_no s.1 s.2 k w (fun h => by have := hc.2 h; cases this)).mono fun e w' ⟨he, hw⟩ => ⟨he, by rw [hw]; exact (Below.refl _ _).alloc (Nat.le_refl _) _⟩
theorem changeT : ElemT Tryz.prog 28 142 3 40 := elem_mk (z := .agg #[.int .i64 0, .string ByteArray.empty, .string ByteArray.empty]) Tryz.underlying28 (by kernel_rfl) rfl (by decide)
/-- What a change does to the keys of a span. -/
def cut1 (s : Spn) (c : Chg) : List Chg :=
  if c.1 = 3 then (if (smeetS s (c.2.1, c.2.2)).1 < (smeetS s (c.2.1, c.2.2)).2 then [(3, (smeetS s (c.2.1, c.2.2)).1, (smeetS s (c.2.1, c.2.2)).2)] else [])
  else if s.1 ≤ c.2.1 ∧ c.2.1 < s.2 then [c] else []
def cutC (s : Spn) (C : List Chg) : List Chg := C.flatMap (cut1 s)
theorem cut1_len (s : Spn) (c : Chg) : (cut1 s c).length ≤ 1 := by
  unfold cut1; split
  · split <;> simp
  · split <;> simp
theorem cutC_snoc (s : Spn) (C : List Chg) (c : Chg) : cutC s (C ++ [c]) = cutC s C ++ cut1 s c := by simp [cutC]
theorem cut1_wipe_no {s : Spn} {k v : ByteArray} (h : (smeetS s (k, v)).2 ≤ (smeetS s (k, v)).1) : cut1 s (3, k, v) = [] := by
  unfold cut1; rw [if_pos rfl, if_neg (by grind)]
theorem cut1_wipe {s : Spn} {k v : ByteArray} (h : ¬ (smeetS s (k, v)).2 ≤ (smeetS s (k, v)).1) : cut1 s (3, k, v) = [(3, (smeetS s (k, v)).1, (smeetS s (k, v)).2)] := by
  unfold cut1; rw [if_pos rfl, if_pos (by grind)]
theorem cut1_has {s : Spn} {c : Chg} (h : ¬ c.1 = 3) (h2 : InS s c.2.1) : cut1 s c = [c] := by
  unfold cut1; rw [if_neg h, if_pos (show s.1 ≤ c.2.1 ∧ c.2.1 < s.2 from h2)]
theorem cut1_no {s : Spn} {c : Chg} (h : ¬ c.1 = 3) (h2 : ¬ InS s c.2.1) : cut1 s c = [] := by
  unfold cut1; rw [if_neg h, if_neg (show ¬ (s.1 ≤ c.2.1 ∧ c.2.1 < s.2) from h2)]
theorem crow_append (A B : List Chg) : crow (A ++ B) = crow A ++ crow B := by simp [crow]
theorem set_12 {W0 W V : World} {c : Nat} {x a b u v : Value} {t : TypeId} (h : Later W0 W) (hb : W0.heap.size ≤ c) (hr : W.heap[c]? = some (.cells #[x, a, b] t (0, 0)))
    (hv : V = (W.setCell ⟨c, 1, none⟩ u).setCell ⟨c, 2, none⟩ v ∨ V = (W.setCell ⟨c, 2, none⟩ v).setCell ⟨c, 1, none⟩ u) : Later W0 V ∧ V.heap[c]? = some (.cells #[x, u, v] t (0, 0)) := by
  rcases hv with rfl | rfl
  · have h1 := heap_setCell_same W c 1 _ _ u hr
    have h2 := heap_setCell_same _ c 2 _ _ v h1
    exact ⟨Below.setCell (Below.setCell h hb _) hb _, by simpa using h2⟩
  · have h1 := heap_setCell_same W c 2 _ _ v hr
    have h2 := heap_setCell_same _ c 1 _ _ u h1
    exact ⟨Below.setCell (Below.setCell h hb _) hb _, by simpa using h2⟩
/-- What Cut answers. -/
def CutPostC (s : Spn) (C : List Chg) (p : Nat) (w : World) (e : Ending) (w' : World) : Prop :=
  ((chkAll C ≠ 0 ∧ e = .returned (.tuple #[.slice none 0 0, .int .i64 (chkAll C)])) ∨
   (chkAll C = 0 ∧ (17 < s.1.size ∨ 17 < s.2.size) ∧ e = .returned (.tuple #[.slice none 0 0, .int .i64 6])) ∨
   (chkAll C = 0 ∧ s.1.size ≤ 17 ∧ s.2.size ≤ 17 ∧ ∃ (u : Value) (m : Nat), e = .returned (.tuple #[u, .int .i64 0]) ∧ (cutC s C).length = m ∧ m ≤ p ∧ w'.ownsRow w.heap.size 142 3 u m (crow (cutC s C)))) ∧ Later w w'
set_option maxHeartbeats 4000000 in
theorem cut_any {w : World} {A : Option Addr} {p c : Nat} {C : List Chg} (s : Spn) (hr : Rd w 3 A p (crow C)) (hl : C.length = p) (hn : p ≤ 1048576) (hs1 : s.1.size ≤ maxLen) (hs2 : s.2.size ≤ maxLen) :
    Calls Tryz.prog 102 #[.agg #[.string s.1, .string s.2], .slice A p c] w (CutPostC s C p w) := by
  obtain ⟨W0, hW0⟩ : ∃ W0, W0 = w.alloc (.cells #[.string s.1, .string s.2] 81) := ⟨_, rfl⟩
  have hbs : W0.heap[w.heap.size]? = some (.cells #[.string s.1, .string s.2] 81 (0, 0)) := by rw [hW0]; exact heap_alloc_new w _
  have HBS := hide_ hbs
  have HB0 := hide_ (show Later w W0 by rw [hW0]; exact later_alloc _ _)
  have HW := hide_ hW0.symm
  have HR := hide_ (hr.below HB0.out); have HL := hide_ hl
  have hc := hide_ (all_any (c := c) HR.out hl (by omega))
  have hn2 : (p : Int) ≤ 1048576 := by omega
  unfold maxLen at hs1 hs2
  clear hr hl hW0 hbs
  go_enter Tryz.func102, Tryz.ntmps102
  go_wp2_with fail
  rw [HW.out]
  clear HW
  refine hc.out.mono ?_; rintro e w1 ⟨rfl, hb1⟩
  have HB1 := hide_ (Later.trans HB0.out hb1)
  have hx1 := (hb1.block w.heap.size (heap_lt0 HBS.out)).trans HBS.out
  have HX1 := hide_ hx1
  have c0 := cell_of_row _ _ 0 _ _ (0, 0) hx1
  have c1 := cell_of_row _ _ 1 _ _ (0, 0) hx1
  have HR1 := hide_ (HR.out.below hb1)
  clear hb1 hc HR hx1
  by_cases h0 : chkAll C = 0
  · rw [h0]
    have HC0 := hide_ h0
    have HMEM := hide_ (fun c (hc : c ∈ C) => chk_size (chkAll_mem h0 c hc))
    have HKIND := hide_ (fun c (hc : c ∈ C) => chk_kind (chkAll_mem h0 c hc))
    clear h0
    by_cases hlarge : 17 < s.1.size ∨ 17 < s.2.size
    · have HLG := hide_ hlarge
      obtain ⟨mx, hmx⟩ : ∃ mx : Int, mx = max (s.1.size : Int) (s.2.size : Int) := ⟨_, rfl⟩
      have q1 : (17 : Int) < max (s.1.size : Int) (s.2.size : Int) := by omega
      clear hlarge hmx
      go_wp2_with fail
      go_ret2
      exact ⟨.inr (.inl ⟨HC0.out, HLG.out, rfl⟩), HB1.out⟩
    · have hsz1 : s.1.size ≤ 17 := by omega
      have hsz2 : s.2.size ≤ 17 := by omega
      have q1 : ¬ (17 : Int) < max (s.1.size : Int) (s.2.size : Int) := by omega
      have HO1 := hide_ (World.ownsRow_nil w1 w1.heap.size 142 3)
      clear hlarge
      go_wp2_with fail
      clear q1
      go_loopw [7, 26] (fun s7 s26 wr => ∃ (k m : Nat), k ≤ p ∧ s26 = .int .i64 k ∧ m ≤ k ∧ Hid ((cutC s (C.take k)).length = m) ∧ Hid (wr.ownsRow w1.heap.size 142 3 s7 m (crow (cutC s (C.take k)))) ∧ Hid (Later w wr) ∧ Hid (Later w1 wr)) (fun _ i _ => p - (intOf i).toNat)
      case atStart => exact ⟨0, 0, Nat.zero_le _, rfl, Nat.le_refl _, hide_ rfl, HO1, HB1, hide_ (Later.refl _)⟩
      case round =>
        obtain ⟨k, m, hkp, rfl, hmk, HM, HO, HB, HBB⟩ := hrel
        obtain ⟨A4, c4, rfl⟩ := own_form HO.out
        by_cases hlt : k < p
        · obtain ⟨x, hx⟩ : ∃ x, C[k]? = some x := ⟨_, List.getElem?_eq_getElem (by rw [HL.out]; exact hlt)⟩
          obtain ⟨b, o, rfl, l0, l1, l2⟩ := (HR1.out.below HBB.out).chg hx
          obtain ⟨kd, kx, vx⟩ := x
          have q1 : (k : Int) < (p : Int) := by omega
          have q2 : (0 : Int) ≤ (k : Int) := by omega
          have q3 : (k : Int) ≤ 1048576 := by omega
          have HT := hide_ (take_snoc hx)
          have HKX := hide_ (HMEM.out _ (List.mem_of_getElem? hx))
          have hx1 := (HBB.out.block w.heap.size (heap_lt0 HX1.out)).trans HX1.out
          have hwa := hide_ (later_alloc wr (.cells #[.int .i64 kd, .string kx, .string vx] 142))
          have HO2 := hide_ (HO.out.alloc (.cells #[.int .i64 kd, .string kx, .string vx] 142))
          have hcx : (wr.alloc (.cells #[.int .i64 kd, .string kx, .string vx] 142)).heap[wr.heap.size]? = some (.cells #[.int .i64 kd, .string kx, .string vx] 142 (0, 0)) := heap_alloc_new _ _
          have hsx := row_al hx1 (.cells #[.int .i64 kd, .string kx, .string vx] 142)
          generalize hWa : wr.alloc (.cells #[.int .i64 kd, .string kx, .string vx] 142) = Wa at hwa HO2 hcx hsx
          have HWA := hide_ hWa
          have HCX := hide_ hcx; have HSX := hide_ hsx
          have hgr := Below.size HB.out
          clear hx hx1 hWa hcx hsx
          by_cases hk3 : kd = 3
          · subst hk3
            have ax0 := later_drew_cell (cell_of_row _ _ 0 _ _ (0, 0) HCX.out)
            have ax1 := later_drew_cell (cell_of_row _ _ 1 _ _ (0, 0) HCX.out)
            have ax2 := later_drew_cell (cell_of_row _ _ 2 _ _ (0, 0) HCX.out)
            have as0 := later_drew_cell (cell_of_row _ _ 0 _ _ (0, 0) HSX.out)
            have as1 := later_drew_cell (cell_of_row _ _ 1 _ _ (0, 0) HSX.out)
            go_wp2_with fail
            rw [HWA.out]
            have hspc := hide_ (fun W => pspan_any 3 kx vx (by have := HKX.out; omega) W)
            have hmeet := hide_ (fun W => meet_any s (spanC 3 kx vx) W)
            rw [show spanC 3 kx vx = (kx, vx) from by unfold spanC; rw [if_pos rfl]] at hspc hmeet
            generalize hmm : smeetS s (kx, vx) = mm at hmeet
            have HMM := hide_ hmm
            clear hmm
            apply wp_cut (F := fun bk W => Later Wa.drew W ∧ Wa.heap.size ≤ bk ∧ W.heap[bk]? = some (.cells #[.string mm.1, .string mm.2] 81 (0, 0)))
            case h1 =>
              refine wp_region_l [5] (by kernel_rfl) ?_
              refine wpAnyL_take 0 (v := ?_) rfl (by kernel_rfl) (by kernel_rfl) (by kernel_rfl) (by kernel_rfl) (fun _ _ _ h => h) (by rfl) (by intro W hSw; go_simp; with_reducible rfl) ?_; try simp only [Act.put, qA, qZ, qS]
              refine wpAnyL_take 1 (v := ?_) rfl (by kernel_rfl) (by kernel_rfl) (by kernel_rfl) (by kernel_rfl) (fun _ _ _ h => h) (by rfl) (by intro W hSw; go_simp; with_reducible rfl) ?_; try simp only [Act.put, qA, qZ, qS]
              refine wpAnyL_two 2 4 (by kernel_rfl) rfl rfl (fun K hK => ?_) (fun K hK => ?_)
              · skip
                go_simp
                refine (hspc.out _).mono ?_; rintro e w11 ⟨rfl, hb11⟩
                first | refine hK.out _ _ (by assumption) ?_ | refine hK.out _ _ (Later.refl _) ?_ | refine hK.out _ _ (Below.alloc (Below.refl _ _) (Nat.le_refl _) _) ?_
                clear hK K; try simp only [Act.put, qA, qZ, qS]
                refine wpAnyL_two 3 4 (by kernel_rfl) rfl rfl (fun K hK => ?_) (fun K hK => ?_)
                · skip
                  go_simp
                  refine (hmeet.out _).mono ?_; rintro e w12 ⟨rfl, hb12⟩; first | (have zr := row_al_later hb12; have z0 := cell_of_row _ _ 0 _ _ (0, 0) zr; have z1 := cell_of_row _ _ 1 _ _ (0, 0) zr; have z2 := frozen_of_row _ _ 0 _ _ zr; have z3 := frozen_of_row _ _ 1 _ _ zr) | (have zr : w12.heap[Wa.heap.size]? = some (.cells #[.string ByteArray.empty, .string ByteArray.empty] 81 (0, 0)) := row_al_later (W := Wa.drew) (Z := (.cells #[.string ByteArray.empty, .string ByteArray.empty] 81)) (hb11.trans hb12); have z0 := cell_of_row _ _ 0 _ _ (0, 0) zr; have z1 := cell_of_row _ _ 1 _ _ (0, 0) zr; have z2 := frozen_of_row _ _ 0 _ _ zr; have z3 := frozen_of_row _ _ 1 _ _ zr) | skip
                  first | refine hK.out _ _ (by assumption) ?_ | refine hK.out _ _ (Later.refl _) ?_ | refine hK.out _ _ (Below.alloc (Below.refl _ _) (Nat.le_refl _) _) ?_
                  clear hK K; try simp only [Act.put, qA, qZ, qS]
                  refine wpAnyL_one 4 (by kernel_rfl) rfl (fun K hK => ?_)
                  go_simp
                  first | refine hK.out _ _ (by assumption) ?_ | refine hK.out _ _ (Later.refl _) ?_ | refine hK.out _ _ (Below.alloc (Below.refl _ _) (Nat.le_refl _) _) ?_
                  clear hK K; try simp only [Act.put, qA, qZ, qS]
                  refine wpAnyL_loud 5 (by kernel_rfl) (by rfl) rfl (fun K hK => ?_)
                  go_simp
                  refine hK.out _ _ ?_
                  clear hK K; try simp only [Act.put, qA, qZ, qS]
                  refine wpAnyL_done (by kernel_rfl) ?_ _
                  (first | (have hl := hb11.trans hb12; have hgr2 := Below.size hl; generalize hbk : w12.heap.size = bk at *; exact cut_leaf bk rfl ⟨hl.trans (later_alloc _ _), hgr2, by rw [← hbk]; exact heap_alloc_new _ _⟩) | (have hl := (hb11.trans (later_alloc _ _)).trans hb12; have hgr2 := Below.size hb11; generalize hbk : w11.heap.size = bk at *; exact cut_leaf bk rfl (set_two' hl hgr2 zr)) | (have hl := ((later_alloc Wa.drew (.cells #[.string ByteArray.empty, .string ByteArray.empty] 81)).trans hb11).trans hb12; have hgr2 := Nat.le_refl Wa.drew.heap.size; generalize hbk : Wa.heap.size = bk at *; have ht := set_two' (u := .string mm.1) (v := .string mm.2) hl (by have : Wa.drew.heap.size = bk := hbk; omega) zr; exact cut_leaf bk rfl ⟨ht.1, Nat.le_refl _, ht.2.2⟩))
                · skip
                  go_simp
                  first | refine hK.out _ _ (by assumption) ?_ | refine hK.out _ _ (Later.refl _) ?_ | refine hK.out _ _ (Below.alloc (Below.refl _ _) (Nat.le_refl _) _) ?_
                  clear hK K; try simp only [Act.put, qA, qZ, qS]
                  refine wpAnyL_one 3 (by kernel_rfl) rfl (fun K hK => ?_)
                  go_simp
                  refine (hmeet.out _).mono ?_; rintro e w12 ⟨rfl, hb12⟩; first | (have zr := row_al_later hb12; have z0 := cell_of_row _ _ 0 _ _ (0, 0) zr; have z1 := cell_of_row _ _ 1 _ _ (0, 0) zr; have z2 := frozen_of_row _ _ 0 _ _ zr; have z3 := frozen_of_row _ _ 1 _ _ zr) | (have zr : w12.heap[Wa.heap.size]? = some (.cells #[.string ByteArray.empty, .string ByteArray.empty] 81 (0, 0)) := row_al_later (W := Wa.drew) (Z := (.cells #[.string ByteArray.empty, .string ByteArray.empty] 81)) (hb11.trans hb12); have z0 := cell_of_row _ _ 0 _ _ (0, 0) zr; have z1 := cell_of_row _ _ 1 _ _ (0, 0) zr; have z2 := frozen_of_row _ _ 0 _ _ zr; have z3 := frozen_of_row _ _ 1 _ _ zr) | skip
                  first | refine hK.out _ _ (by assumption) ?_ | refine hK.out _ _ (Later.refl _) ?_ | refine hK.out _ _ (Below.alloc (Below.refl _ _) (Nat.le_refl _) _) ?_
                  clear hK K; try simp only [Act.put, qA, qZ, qS]
                  refine wpAnyL_loud 5 (by kernel_rfl) (by rfl) rfl (fun K hK => ?_)
                  go_simp
                  refine hK.out _ _ ?_
                  clear hK K; try simp only [Act.put, qA, qZ, qS]
                  refine wpAnyL_done (by kernel_rfl) ?_ _
                  (first | (have hl := hb11.trans hb12; have hgr2 := Below.size hl; generalize hbk : w12.heap.size = bk at *; exact cut_leaf bk rfl ⟨hl.trans (later_alloc _ _), hgr2, by rw [← hbk]; exact heap_alloc_new _ _⟩) | (have hl := (hb11.trans (later_alloc _ _)).trans hb12; have hgr2 := Below.size hb11; generalize hbk : w11.heap.size = bk at *; exact cut_leaf bk rfl (set_two' hl hgr2 zr)) | (have hl := ((later_alloc Wa.drew (.cells #[.string ByteArray.empty, .string ByteArray.empty] 81)).trans hb11).trans hb12; have hgr2 := Nat.le_refl Wa.drew.heap.size; generalize hbk : Wa.heap.size = bk at *; have ht := set_two' (u := .string mm.1) (v := .string mm.2) hl (by have : Wa.drew.heap.size = bk := hbk; omega) zr; exact cut_leaf bk rfl ⟨ht.1, Nat.le_refl _, ht.2.2⟩))
              · skip
                go_simp
                first | refine hK.out _ _ (by assumption) ?_ | refine hK.out _ _ (Later.refl _) ?_ | refine hK.out _ _ (Below.alloc (Below.refl _ _) (Nat.le_refl _) _) ?_
                clear hK K; try simp only [Act.put, qA, qZ, qS]
                refine wpAnyL_one 2 (by kernel_rfl) rfl (fun K hK => ?_)
                go_simp
                refine (hspc.out _).mono ?_; rintro e w11 ⟨rfl, hb11⟩
                first | refine hK.out _ _ (by assumption) ?_ | refine hK.out _ _ (Later.refl _) ?_ | refine hK.out _ _ (Below.alloc (Below.refl _ _) (Nat.le_refl _) _) ?_
                clear hK K; try simp only [Act.put, qA, qZ, qS]
                refine wpAnyL_one 3 (by kernel_rfl) rfl (fun K hK => ?_)
                go_simp
                refine (hmeet.out _).mono ?_; rintro e w12 ⟨rfl, hb12⟩; first | (have zr := row_al_later hb12; have z0 := cell_of_row _ _ 0 _ _ (0, 0) zr; have z1 := cell_of_row _ _ 1 _ _ (0, 0) zr; have z2 := frozen_of_row _ _ 0 _ _ zr; have z3 := frozen_of_row _ _ 1 _ _ zr) | (have zr : w12.heap[Wa.heap.size]? = some (.cells #[.string ByteArray.empty, .string ByteArray.empty] 81 (0, 0)) := row_al_later (W := Wa.drew) (Z := (.cells #[.string ByteArray.empty, .string ByteArray.empty] 81)) (hb11.trans hb12); have z0 := cell_of_row _ _ 0 _ _ (0, 0) zr; have z1 := cell_of_row _ _ 1 _ _ (0, 0) zr; have z2 := frozen_of_row _ _ 0 _ _ zr; have z3 := frozen_of_row _ _ 1 _ _ zr) | skip
                first | refine hK.out _ _ (by assumption) ?_ | refine hK.out _ _ (Later.refl _) ?_ | refine hK.out _ _ (Below.alloc (Below.refl _ _) (Nat.le_refl _) _) ?_
                clear hK K; try simp only [Act.put, qA, qZ, qS]
                refine wpAnyL_loud 5 (by kernel_rfl) (by rfl) rfl (fun K hK => ?_)
                go_simp
                refine hK.out _ _ ?_
                clear hK K; try simp only [Act.put, qA, qZ, qS]
                refine wpAnyL_done (by kernel_rfl) ?_ _
                (first | (have hl := hb11.trans hb12; have hgr2 := Below.size hl; generalize hbk : w12.heap.size = bk at *; exact cut_leaf bk rfl ⟨hl.trans (later_alloc _ _), hgr2, by rw [← hbk]; exact heap_alloc_new _ _⟩) | (have hl := (hb11.trans (later_alloc _ _)).trans hb12; have hgr2 := Below.size hb11; generalize hbk : w11.heap.size = bk at *; exact cut_leaf bk rfl (set_two' hl hgr2 zr)) | (have hl := ((later_alloc Wa.drew (.cells #[.string ByteArray.empty, .string ByteArray.empty] 81)).trans hb11).trans hb12; have hgr2 := Nat.le_refl Wa.drew.heap.size; generalize hbk : Wa.heap.size = bk at *; have ht := set_two' (u := .string mm.1) (v := .string mm.2) hl (by have : Wa.drew.heap.size = bk := hbk; omega) zr; exact cut_leaf bk rfl ⟨ht.1, Nat.le_refl _, ht.2.2⟩))
            case h2 =>
              rintro bk W ⟨hFL, hbk, hmr⟩
              have HBK := hide_ hbk
              have HMR := hide_ hmr
              have hFB := Later.trans ((Below.refl _ _).drew) hFL
              have HFB := hide_ (show Later Wa W from hFB)
              have HCR := hide_ ((hFB.block wr.heap.size (heap_lt0 HCX.out)).trans HCX.out)
              have HOW := hide_ (own_below HO2.out hFB)
              have HBW := hide_ (show Later w W from Later.trans (Later.trans HB.out hwa.out) hFB)
              have hem := hide_ (fun W => empty_b mm W)
              have m0 := cell_of_row _ _ 0 _ _ (0, 0) hmr
              have m1 := cell_of_row _ _ 1 _ _ (0, 0) hmr
              clear hFL hmr hFB ax0 ax1 ax2 as0 as1 hspc hmeet hbk
              go_wp2_with fail
              refine (hem.out _).mono ?_; rintro e w5 ⟨rfl, hb5⟩
              have HB5 := hide_ hb5
              clear hem
              by_cases hemp : mm.2 ≤ mm.1
              · have HEM := hide_ hemp
                rw [decide_eq_true hemp]
                clear hemp m0 m1
                go_wp2_with fail
                go_roundw
                case rel => exact ⟨k + 1, m, by omega, by go_num, by omega, hide_ (by rw [HT.out, cutC_snoc, cut1_wipe_no (by rw [HMM.out]; exact HEM.out), List.append_nil]; exact HM.out), hide_ (by rw [HT.out, cutC_snoc, cut1_wipe_no (by rw [HMM.out]; exact HEM.out), List.append_nil]; exact own_below HOW.out HB5.out), hide_ (Later.trans HBW.out HB5.out), hide_ (Later.trans (Later.trans (Later.trans HBB.out hwa.out) HFB.out) HB5.out)⟩
                case measure => simp [intOf]; omega
              · have HEM := hide_ hemp
                rw [decide_eq_false hemp]
                have hcr5 := (hb5.block wr.heap.size (heap_lt0 HCR.out)).trans HCR.out
                have hmr5 := (hb5.block bk (heap_lt0 HMR.out)).trans HMR.out
                have m0 := cell_of_row _ _ 0 _ _ (0, 0) hmr5
                have m1 := cell_of_row _ _ 1 _ _ (0, 0) hmr5
                have y0 := cell_of_row _ _ 0 _ _ (0, 0) hcr5
                have y1 := cell_of_row _ _ 1 _ _ (0, 0) hcr5
                have y2 := cell_of_row _ _ 2 _ _ (0, 0) hcr5
                have f1 := frozen_of_row _ _ 1 _ _ hcr5
                have f2 := frozen_of_row _ _ 2 _ _ hcr5
                have hlt1 : wr.heap.size < bk := Nat.lt_of_lt_of_le (heap_lt0 HCX.out) HBK.out
                have hne1 : ¬ wr.heap.size = bk := by omega
                have hne2 : ¬ bk = wr.heap.size := by omega
                have HCR5 := hide_ hcr5
                clear hemp hb5 hcr5 hmr5
                go_wp2_with fail
                have hV := hide_ (fun V (hv : V = (w5.setCell ⟨wr.heap.size, 1, none⟩ (.string mm.1)).setCell ⟨wr.heap.size, 2, none⟩ (.string mm.2) ∨ V = (w5.setCell ⟨wr.heap.size, 2, none⟩ (.string mm.2)).setCell ⟨wr.heap.size, 1, none⟩ (.string mm.1)) => set_12 (W0 := wr) (u := .string mm.1) (v := .string mm.2) (Later.trans (Later.trans hwa.out HFB.out) HB5.out) (Nat.le_refl _) HCR5.out hv)
                go_region
                all_goals
                  clear m0 m1 y0 y1 y2 f1 f2
                  first
                  | (generalize hv : (w5.setCell ⟨wr.heap.size, 1, none⟩ (.string mm.1)).setCell ⟨wr.heap.size, 2, none⟩ (.string mm.2) = V; have hV2 := hV.out V (.inl hv.symm))
                  | (generalize hv : (w5.setCell ⟨wr.heap.size, 2, none⟩ (.string mm.2)).setCell ⟨wr.heap.size, 1, none⟩ (.string mm.1) = V; have hV2 := hV.out V (.inr hv.symm))
                  obtain ⟨hVl, hVr⟩ := hV2
                  have y0 := cell_of_row _ _ 0 _ _ (0, 0) hVr
                  have y1 := cell_of_row _ _ 1 _ _ (0, 0) hVr
                  have y2 := cell_of_row _ _ 2 _ _ (0, 0) hVr
                  have HVL := hide_ hVl
                  have HVW := hide_ (show Below w1.heap.size w1 V.drew from (Later.trans HBB.out hVl).drew)
                  have HOV := hide_ (show V.drew.ownsRow w1.heap.size 142 3 (.slice A4 m c4) m (crow (cutC s (C.take k))) from own_below HO.out (Below.drew hVl))
                  clear hv hVl hVr hV
                  go_wp2_with (at_builtin; (refine wpList_append_rd _ rfl (.tmp 55) (.tmp 57) 28 rfl w1.heap.size 142 3 40 changeT _ m (crow (cutC s (C.take k))) rfl (HOV.out.alloc _) _ 1 1 (encC (3, mm.1, mm.2)) rfl (Rd.newAt V.drew #[.int .i64 3, .string mm.1, .string mm.2] 142 1 3 _ (0, 0) rfl rfl) (encC_one _) (by omega) (by unfold maxLen; omega) (by have := HVW.out.size; simp at this ⊢; omega) (fun h => nomatch h) ?_; intro v8 w8 hown8 hg8 hat8; have HO8 := hide_ hown8; have HB8 := hide_ (show Later w1 w8 from own_grown (Below.alloc HVW.out (Below.size HVW.out) _) (HOV.out.alloc _) hg8 (by have := HVW.out.size; simp at this ⊢; omega)); clear hown8 hg8 hat8))
                  go_roundw
                  case rel => exact ⟨k + 1, m + 1, by omega, by go_num, by omega, hide_ (by rw [HT.out, cutC_snoc, cut1_wipe (by rw [HMM.out]; exact HEM.out), List.length_append, HM.out]; rfl), hide_ (by rw [HT.out, cutC_snoc, cut1_wipe (by rw [HMM.out]; exact HEM.out), crow_append, HMM.out]; exact HO8.out), hide_ (Later.trans HB1.out HB8.out), HB8⟩
                  case measure => simp [intOf]; omega
          · have ax0 := cell_of_row _ _ 0 _ _ (0, 0) HCX.out
            have ax1 := cell_of_row _ _ 1 _ _ (0, 0) HCX.out
            have ax2 := cell_of_row _ _ 2 _ _ (0, 0) HCX.out
            have as0 := cell_of_row _ _ 0 _ _ (0, 0) HSX.out
            have as1 := cell_of_row _ _ 1 _ _ (0, 0) HSX.out
            have hk3' : ¬ (3 : Int) = kd := fun h => hk3 h.symm
            have hk3b : (kd == 3) = false := beq_eq_false_iff_ne.2 hk3
            have HK3 := hide_ hk3
            obtain ⟨b1, hb1⟩ := inS_dec s kx
            have hhas := hide_ (fun W => has_b s kx b1 hb1 W)
            have HB1D := hide_ hb1
            clear hb1 hk3
            go_wp2_with (first | (rw [HWA.out]) | fail)
            refine (hhas.out _).mono ?_; rintro e w5 ⟨rfl, hb5⟩
            have HB5 := hide_ (show Later w1 w5 from Later.trans (Later.trans HBB.out hwa.out) hb5)
            have HO5 := hide_ (own_below HO2.out hb5)
            have hcr5 := (hb5.block wr.heap.size (heap_lt0 HCX.out)).trans HCX.out
            have y0 := cell_of_row _ _ 0 _ _ (0, 0) hcr5
            have y1 := cell_of_row _ _ 1 _ _ (0, 0) hcr5
            have y2 := cell_of_row _ _ 2 _ _ (0, 0) hcr5
            clear hhas hcr5 hb5 ax0 ax1 ax2 as0 as1
            cases b1 with
            | true =>
              have HIN := hide_ (cut1_has (c := (kd, kx, vx)) HK3.out (HB1D.out.1 rfl))
              clear HB1D
              go_wp2_with (at_builtin; (refine wpList_append_rd _ rfl (.tmp 55) (.tmp 57) 28 rfl w1.heap.size 142 3 40 changeT _ m (crow (cutC s (C.take k))) rfl (HO5.out.alloc _) _ 1 1 (encC (kd, kx, vx)) rfl (Rd.newAt _ #[.int .i64 kd, .string kx, .string vx] 142 1 3 _ (0, 0) rfl rfl) (encC_one _) (by omega) (by unfold maxLen; omega) (by have := HB5.out.size; simp at this ⊢; omega) (fun h => nomatch h) ?_; intro v8 w8 hown8 hg8 hat8; have HO8 := hide_ hown8; have HB8 := hide_ (show Later w1 w8 from own_grown (Below.alloc HB5.out (Below.size HB5.out) _) (HO5.out.alloc _) hg8 (by have := HB5.out.size; simp at this ⊢; omega)); clear hown8 hg8 hat8))
              go_roundw
              case rel => exact ⟨k + 1, m + 1, by omega, by go_num, by omega, hide_ (by rw [HT.out, cutC_snoc, HIN.out, List.length_append, HM.out]; rfl), hide_ (by rw [HT.out, cutC_snoc, HIN.out, crow_append]; exact HO8.out), hide_ (Later.trans HB1.out HB8.out), HB8⟩
              case measure => simp [intOf]; omega
            | false =>
              have HIN := hide_ (cut1_no (c := (kd, kx, vx)) HK3.out (fun h => by have := HB1D.out.2 h; cases this))
              clear HB1D
              go_wp2_with fail
              go_roundw
              case rel => exact ⟨k + 1, m, by omega, by go_num, by omega, hide_ (by rw [HT.out, cutC_snoc, HIN.out, List.append_nil]; exact HM.out), hide_ (by rw [HT.out, cutC_snoc, HIN.out, List.append_nil]; exact HO5.out), hide_ (Later.trans HB1.out HB5.out), HB5⟩
              case measure => simp [intOf]; omega
        · have q1 : ¬ (k : Int) < (p : Int) := by omega
          obtain rfl : k = p := by omega
          have hF : C.take k = C := by rw [← HL.out, List.take_length]
          have HF := hide_ hF
          clear hF
          go_wp2_with fail
          go_ret2
          exact ⟨.inr (.inr ⟨HC0.out, hsz1, hsz2, _, m, rfl, by have := HM.out; rwa [HF.out] at this, hmk, by have := own_base HO.out (Below.size HB1.out); rwa [HF.out] at this⟩), HB.out⟩
  · have h0' : ¬ (0 : Int) = chkAll C := fun h => h0 h.symm
    go_wp2_with fail
    go_ret2
    exact ⟨.inl ⟨h0, rfl⟩, HB1.out⟩

end Go.Proofs.YtcmollfhlillfaaGreatDoor
