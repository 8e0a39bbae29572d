/-
  Texts of this seat in one: Split, Spans, Meet, Cuts, RefCut, OutMath, HasP.
-/
import Derived.RegionTactic
import Derived.Test.YtblljpdlmllceaaG4
/-
  A region in which two operations may come up in either order, both ways followed; a cut behind it.
-/
namespace Go.Proofs.Ytblljpdlmllceaa
open Go.RowKit
section
variable {P : Program} {ops : Array Oper} {Q : Exit → Act → World → Prop} {md : Region.Mode} {loud : List Nat}
/-- Number i is taken first, where none is loud. -/
theorem wpAnyL_take0 (i : Nat) {oi : Oper} {rest : List Oper} {v : Value} {fuel : Nat} {listed : Array Bool} {a : Act} {w : World} (hi : ops.toList.drop i = oi :: rest)
    (hs : Region.noSelect ops = true) (hf : Region.free md ops listed i = true) (hr : (Region.ready md ops listed).contains i = true)
    (hQ : ∀ c a w, Q (.panic c) (a.put oi.dst v) w → Q (.panic c) a w) (hw : Region.wanted oi (yielded ops a.tmps) = true)
    (hy : ∀ W, Later w W → (execOp a.eval oi).run P W = .ok (.value v) W)
    (h : wpAnyL P md ops Q [] fuel (listed.setIfInBounds i true) (a.put oi.dst v) w) : wpAnyL P md ops Q [] (fuel + 1) listed a w :=
  wpAnyL_first Later Later.steady (fun _ => True) (fun _ _ _ _ _ => ⟨trivial, fun _ _ h => h.elim (fun h => by cases h) id⟩) (op_of_drop hi) (Region.noSelect_spec hs) hQ fuel listed a w trivial (Region.free_spec (op_of_drop hi) hf) (by simpa using hr) (.inl ⟨hw, hy⟩) h
/-- Two may come up; none is loud. -/
theorem wpAnyL_two (i j : Nat) {oi oj : Oper} {ri rj : List Oper} {fuel : Nat} {listed : Array Bool} {a : Act} {w : World} (hr : Region.ready md ops listed = [i, j]) (hoi : ops.toList.drop i = oi :: ri) (hoj : ops.toList.drop j = oj :: rj)
    (hi : ∀ K : Act → World → Prop, Shut (∀ a' w', Later w w' → wpAnyL P md ops Q loud fuel (listed.setIfInBounds i true) a' w' → K a' w') → if Region.wanted oi (yielded ops a.tmps) = true then Oper.wp P oi a w K Q else K (a.put oi.dst undef) w)
    (hj : ∀ K : Act → World → Prop, Shut (∀ a' w', Later w w' → wpAnyL P md ops Q loud fuel (listed.setIfInBounds j true) a' w' → K a' w') → if Region.wanted oj (yielded ops a.tmps) = true then Oper.wp P oj a w K Q else K (a.put oj.dst undef) w) :
    wpAnyL P md ops Q loud (fuel + 1) listed a w := by
  refine ⟨fun h0 => (by rw [hr] at h0; cases h0), fun k hk => ?_⟩
  rw [hr] at hk
  rcases List.mem_cons.1 hk with rfl | hk
  · exact wpOp_step (op_of_drop hoi) fun K hK => hi K fun a' w' hl hW => hK a' w' ⟨.inr hl, hW⟩
  · obtain rfl : k = j := by simpa using hk
    exact wpOp_step (op_of_drop hoj) fun K hK => hj K fun a' w' hl hW => hK a' w' ⟨.inr hl, hW⟩
/-- Two may come up; loud ones too. -/
theorem wpAnyL_both (i j : Nat) {oi oj : Oper} {ri rj : List Oper} {fuel : Nat} {listed : Array Bool} {a : Act} {w : World} (hr : Region.ready md ops listed = [i, j]) (hoi : ops.toList.drop i = oi :: ri) (hoj : ops.toList.drop j = oj :: rj)
    (hi : ∀ K : Act → World → Prop, Shut (∀ a' w', (i ∈ loud ∨ Later w w') → wpAnyL P md ops Q loud fuel (listed.setIfInBounds i true) a' w' → K a' w') → if Region.wanted oi (yielded ops a.tmps) = true then Oper.wp P oi a w K Q else K (a.put oi.dst undef) w)
    (hj : ∀ K : Act → World → Prop, Shut (∀ a' w', (j ∈ loud ∨ Later w w') → wpAnyL P md ops Q loud fuel (listed.setIfInBounds j true) a' w' → K a' w') → if Region.wanted oj (yielded ops a.tmps) = true then Oper.wp P oj a w K Q else K (a.put oj.dst undef) w) :
    wpAnyL P md ops Q loud (fuel + 1) listed a w := by
  refine ⟨fun h0 => (by rw [hr] at h0; cases h0), fun k hk => ?_⟩
  rw [hr] at hk
  rcases List.mem_cons.1 hk with rfl | hk
  · exact wpOp_step (op_of_drop hoi) fun K hK => hi K fun a' w' hl hW => hK a' w' ⟨hl, hW⟩
  · obtain rfl : k = j := by simpa using hk
    exact wpOp_step (op_of_drop hoj) fun K hK => hj K fun a' w' hl hW => hK a' w' ⟨hl, hW⟩
/-- A cut: a region that ends as usual, in one of some frames. -/
def CutPost (F : Nat → World → Prop) (T : Nat → Act) : Exit → Act → World → Prop
  | .normal, a, W => ∃ b, a = T b ∧ F b W
  | _, _, _ => False
theorem cut_leaf {F : Nat → World → Prop} {T : Nat → Act} {a : Act} {W : World} (b : Nat) (h1 : a = T b) (h2 : F b W) : CutPost F T .normal a W := ⟨b, h1, h2⟩
theorem wp_cut {c : Code} {a : Act} {w : World} (F : Nat → World → Prop) (T : Nat → Act) (h1 : c.wp P (CutPost F T) a w) (h2 : ∀ b W, F b W → Q .normal (T b) W) : c.wp P Q a w :=
  Code.wp_mono (fun e a' W h => by cases e with | normal => obtain ⟨b, rfl, hF⟩ := h; exact h2 b W hF | _ => exact h.elim) h1
end
end Go.Proofs.Ytblljpdlmllceaa
/-
  The keys that changes name: the program's Span and Spans, the document's Spans.
-/
namespace Go.Proofs.Ytblljpdlmllceaa
open Go.RowKit
set_option linter.unusedVariables false
set_option linter.unusedSimpArgs false
theorem row_new2 (w : World) (o1 o2 : Obj) : ((w.alloc o1).alloc o2).heap[w.heap.size + 1]? = some o2 := by
  have h := heap_alloc_new (w.alloc o1) o2
  rwa [show (w.alloc o1).heap.size = w.heap.size + 1 by simp] at h
theorem snext_any (s : ByteArray) (hs : s.size ≤ 4611686018427387904) (w : World) : Calls Try.prog 45 #[.string s] w fun e w' => e = .returned (.string (s ++ ⟨#[0]⟩)) ∧ w = w' := by
  have h : ∀ W, (Op.stringOp .add s ⟨#[0]⟩).run Try.prog W = .ok (.string (s ++ ⟨#[0]⟩)) W := fun W => run_string_add_sum W s ⟨#[0]⟩ (by show s.size + 1 ≤ 9223372036854775807; omega)
  go_enter Try.func45, Try.ntmps45
  go_wp2_with fail
  go_ret
  exact ⟨rfl, rfl⟩
set_option maxHeartbeats 400000 in
theorem pspan_any (kind : Int) (k v : ByteArray) (hs : k.size ≤ 4611686018427387904) (w : World) : Calls Try.prog 39 #[.agg #[.int .i64 kind, .string k, .string v]] w fun e w' => e = .returned (.agg #[.string (spanC kind k v).1, .string (spanC kind k v).2]) ∧ Later w w' := by
  by_cases h : kind = 3
  · subst h
    go_enter Try.func39, Try.ntmps39
    go_wp2
    go_returns
    exact ⟨rfl, ((Below.refl _ _).alloc (Nat.le_refl _) _).alloc (by simp) _⟩
  · have h' : ¬ (3 : Int) = kind := fun e => h e.symm
    have e1 : spanC kind k v = (k, k ++ ⟨#[0]⟩) := by unfold spanC; rw [if_neg h]
    rw [e1]
    have hnx := hide_ (fun W => snext_any k hs W)
    clear hs e1
    go_enter Try.func39, Try.ntmps39
    go_wp2_with fail
    obtain ⟨W1, hW1⟩ : ∃ W1, W1 = (w.alloc (.cells #[.int .i64 kind, .string k, .string v] 32)).alloc (.cells #[.string ByteArray.empty, .string ByteArray.empty] 34) := ⟨_, rfl⟩
    have hx0 : W1.heap[w.heap.size]? = some (.cells #[.int .i64 kind, .string k, .string v] 32 (0, 0)) := by rw [hW1]; exact row_al (heap_alloc_new w _) _
    have hz0 : W1.heap[w.heap.size + 1]? = some (.cells #[.string ByteArray.empty, .string ByteArray.empty] 34 (0, 0)) := by
      rw [hW1]; exact row_new2 w _ _
    have HB1 := hide_ (show Later w W1 by rw [hW1]; exact ((Below.refl _ _).alloc (Nat.le_refl _) _).alloc (by simp) _)
    rw [show ((w.alloc (.cells #[.int .i64 kind, .string k, .string v] 32)).alloc (.cells #[.string { data := #[] }, .string { data := #[] }] 34)) = W1 from hW1.symm]
    have ax1 := later_drew_cell (cell_of_row _ _ 1 _ _ (0, 0) hx0)
    have z0 := cell_of_row _ _ 0 _ _ (0, 0) hz0
    have z1 := cell_of_row _ _ 1 _ _ (0, 0) hz0
    have z2 := frozen_of_row _ _ 0 _ _ hz0
    have z3 := frozen_of_row _ _ 1 _ _ hz0
    have HZ := hide_ hz0
    clear hW1 hx0 hz0
    refine wp_region_l [6] (by kernel_rfl) ?_
    refine wpAnyL_pure 0 (v := ?_) rfl (by kernel_rfl) (by kernel_rfl) (by kernel_rfl) (fun _ _ _ h => h) (by rfl) (by intro W; go_simp; with_reducible rfl) ?_; try simp only [Act.put, List.setIfInBounds_toArray, List.set_cons_zero, List.set_cons_succ]
    refine wpAnyL_take 1 (v := ?_) rfl (by kernel_rfl) (by kernel_rfl) (by kernel_rfl) (by kernel_rfl) (fun _ _ _ h => h) (by rfl) (by intro W hSw; go_simp; with_reducible rfl) ?_; try simp only [Act.put, List.setIfInBounds_toArray, List.set_cons_zero, List.set_cons_succ]
    refine wpAnyL_pure 2 (v := ?_) rfl (by kernel_rfl) (by kernel_rfl) (by kernel_rfl) (fun _ _ _ h => h) (by rfl) (by intro W; go_simp; with_reducible rfl) ?_; try simp only [Act.put, List.setIfInBounds_toArray, List.set_cons_zero, List.set_cons_succ]
    refine wpAnyL_take 3 (v := ?_) rfl (by kernel_rfl) (by kernel_rfl) (by kernel_rfl) (by kernel_rfl) (fun _ _ _ h => h) (by rfl) (by intro W hSw; go_simp; with_reducible rfl) ?_; try simp only [Act.put, List.setIfInBounds_toArray, List.set_cons_zero, List.set_cons_succ]
    refine wpAnyL_one 4 (by kernel_rfl) rfl (fun K hK => ?_)
    go_simp
    refine (hnx.out _).mono ?_; rintro e w11 ⟨rfl, rfl⟩; have hlr := Later.refl W1.drew
    first | refine hK.out _ _ (by assumption) ?_ | refine hK.out _ _ (Later.refl _) ?_ | refine hK.out _ _ (Below.alloc (Below.refl _ _) (Nat.le_refl _) _) ?_
    clear hK K; try simp only [Act.put, List.setIfInBounds_toArray, List.set_cons_zero, List.set_cons_succ]
    refine wpAnyL_pure 5 (v := ?_) rfl (by kernel_rfl) (by kernel_rfl) (by kernel_rfl) (fun _ _ _ h => h) (by rfl) (by intro W; go_simp; with_reducible rfl) ?_; try simp only [Act.put, List.setIfInBounds_toArray, List.set_cons_zero, List.set_cons_succ]
    refine wpAnyL_loud 6 (by kernel_rfl) (by rfl) rfl (fun K hK => ?_)
    go_simp
    refine hK.out _ _ ?_
    clear hK K; try simp only [Act.put, List.setIfInBounds_toArray, List.set_cons_zero, List.set_cons_succ]
    refine wpAnyL_done (by kernel_rfl) ?_ _
    have hs2 := set_two (W0 := w) (u := .string k) (v := .string (k ++ ⟨#[0]⟩)) HB1.out (show w.heap.size ≤ w.heap.size + 1 by omega) HZ.out
    obtain ⟨hb2, y0, y1⟩ := hs2
    have HB2 := hide_ hb2
    clear hb2 ax1 z0 z1 z2 z3
    generalize ((W1.setCell ⟨w.heap.size + 1, 0, none⟩ (.string k)).setCell ⟨w.heap.size + 1, 1, none⟩ (.string (k ++ ⟨#[0]⟩))) = W2 at *
    go_wp2_with fail
    exact bodyPost_ret (v := .agg #[.string k, .string (k ++ ⟨#[0]⟩)]) (by simp [results, Try.results39, go_sem, y0, y1]) rfl ⟨rfl, HB2.out.drew⟩
/-- The spans of changes. -/
def spansC (C : List Chg) : List Spn := C.map fun c => spanC c.1 c.2.1 c.2.2
theorem spansC_snoc (C : List Chg) (c : Chg) : spansC (C ++ [c]) = spansC C ++ [spanC c.1 c.2.1 c.2.2] := by simp [spansC]
theorem srow_snoc (L : List Spn) (s : Spn) : srow (L ++ [s]) = srow L ++ encS s := by simp [srow]
/-- What Spans answers. -/
def SpansPost (C : List Chg) (p : Nat) (w : World) (e : Ending) (w' : World) : Prop :=
  ((chkAll C ≠ 0 ∧ e = .returned (.tuple #[.slice none 0 0, .int .i64 (chkAll C)])) ∨
   (chkAll C = 0 ∧ ∃ (A' : Option Addr) (R : List Spn) (q : Nat), e = .returned (.tuple #[.slice A' q q, .int .i64 0]) ∧ R.length = q ∧ q ≤ p ∧ (A' = none → q = 0) ∧ Rd w' 2 A' q (srow R) ∧ Canon R ∧ ∀ k, InL R k ↔ InL (spansC C) k)) ∧ Later w w'
set_option maxHeartbeats 2000000 in
theorem spans_any {w : World} {A : Option Addr} {p c : Nat} {C : List Chg} (hr : Rd w 3 A p (crow C)) (hl : C.length = p) (hn : p ≤ 1048576) :
    Calls Try.prog 25 #[.slice A p c] w (SpansPost C p w) := by
  have HR := hide_ hr; have HL := hide_ hl
  have hc := hide_ (all_any (c := c) hr hl (by omega))
  have hn2 : (p : Int) ≤ 1048576 := by omega
  clear hr hl
  go_enter Try.func25, Try.ntmps25
  go_wp2_with fail
  refine hc.out.mono ?_; rintro e w1 ⟨rfl, hb1⟩
  have HB1 := hide_ hb1
  clear hb1 hc
  by_cases h0 : chkAll C = 0
  · rw [h0]
    have HC0 := hide_ h0
    have HMEM := hide_ (fun c (hc : c ∈ C) => chk_size (chkAll_mem h0 c hc))
    clear h0
    have HO1 := hide_ (World.ownsRow_nil w1 w.heap.size 34 2)
    go_wp2_with fail
    go_loopw [5, 15] (fun s5 s15 wr => ∃ (k : Nat), k ≤ p ∧ s15 = .int .i64 k ∧ Hid (wr.ownsRow w.heap.size 34 2 s5 k (srow (spansC (C.take k)))) ∧ Hid (Later w wr)) (fun _ i _ => p - (intOf i).toNat)
    case atStart => exact ⟨0, Nat.zero_le _, rfl, HO1, HB1⟩
    case round =>
      obtain ⟨k, hkp, rfl, HO, HB⟩ := hrel
      obtain ⟨A4, c4, rfl⟩ := own_form HO.out
      by_cases hlt : k < p
      · obtain ⟨s, hs⟩ : ∃ s, C[k]? = some s := ⟨_, List.getElem?_eq_getElem (by rw [HL.out]; exact hlt)⟩
        obtain ⟨b, o, rfl, l0, l1, l2⟩ := (HR.out.below HB.out).chg hs
        have q1 : (k : Int) < (p : Int) := by omega
        have q2 : (0 : Int) ≤ (k : Int) := by omega
        have q3 : (k : Int) ≤ 1048576 := by omega
        have HT := hide_ (take_snoc hs)
        have hwa := hide_ (HB.out.alloc HB.out.size (.cells #[.int .i64 s.1, .string s.2.1, .string s.2.2] 32))
        have hsp := hide_ (fun W => pspan_any s.1 s.2.1 s.2.2 (by have := HMEM.out s (List.mem_of_getElem? hs); omega) W)
        have HO2 := hide_ (HO.out.alloc (.cells #[.int .i64 s.1, .string s.2.1, .string s.2.2] 32))
        clear hs
        go_wp2_with fail
        refine (hsp.out _).mono ?_; rintro e w5 ⟨rfl, hb5⟩
        have HB5 := hide_ (show Later w w5 from hwa.out.trans (Below.mono hb5 hwa.out.size))
        have HO5 := hide_ (own_below HO2.out hb5)
        clear hb5 hsp
        go_wp2_with (at_builtin; (refine wpList_append_rd _ rfl (.tmp 19) (.tmp 22) 47 rfl w.heap.size 34 2 32 spanT _ k (srow (spansC (C.take k))) rfl (HO5.out.alloc _) _ 1 1 (encS (spanC s.1 s.2.1 s.2.2)) rfl (Rd.newAt _ #[.string (spanC s.1 s.2.1 s.2.2).1, .string (spanC s.1 s.2.1 s.2.2).2] 34 1 2 _ (0, 0) rfl rfl) (encS_one _) (by omega) (by unfold maxLen; omega) (by have := HB5.out.size; simp; omega) (fun h => nomatch h) ?_; intro v8 w8 hown8 hg8 hat8; have HO8 := hide_ hown8; have HB8 := hide_ (show Later w w8 from own_grown (Below.alloc HB5.out (Below.size HB5.out) _) (HO5.out.alloc _) hg8 (by have := HB5.out.size; simp; omega)); clear hown8 hg8 hat8))
        go_roundw
        case rel => exact ⟨k + 1, by omega, by go_num, hide_ (by rw [HT.out, spansC_snoc, srow_snoc]; exact HO8.out), HB8⟩
        case measure => simp [intOf]; omega
      · have q1 : ¬ (k : Int) < (p : Int) := by omega
        obtain rfl : k = p := by omega
        have hF : spansC (C.take k) = spansC C := by rw [← HL.out, List.take_length]
        have hj := hide_ (join_any (c := c4) (Rd.of_own HO.out) (own_cap2 HO.out).1 (by rw [hF]; simp [spansC]; exact HL.out) (by omega))
        have HF := hide_ hF
        clear hF
        go_wp2_with fail
        refine hj.out.mono ?_; rintro e w5 ⟨⟨A5, R, rfl, hR5, hA5, _, hRn, hc5, hk5⟩, hb5⟩
        obtain ⟨q, hq⟩ : ∃ q, R.length = q := ⟨_, rfl⟩
        rw [hq] at hR5 hRn hA5 ⊢
        rw [HF.out] at hk5
        have HB5 := hide_ (Later.trans HB.out hb5); have HR5 := hide_ hR5; have HC5 := hide_ hc5; have HK5 := hide_ hk5; have HQ := hide_ hq; have HA5 := hide_ hA5
        clear hR5 hc5 hk5 hb5 hq hA5 hj
        go_wp2_with fail
        go_ret2
        exact ⟨.inr ⟨HC0.out, A5, R, q, rfl, HQ.out, hRn, HA5.out, HR5.out, HC5.out, HK5.out⟩, HB5.out⟩
  · have h0' : ¬ (0 : Int) = chkAll C := fun h => h0 h.symm
    go_wp2_with fail
    go_ret2
    exact ⟨.inl ⟨h0, rfl⟩, HB1.out⟩
set_option maxHeartbeats 2000000 in
theorem rspans_any {w : World} {A : Option Addr} {p c : Nat} {C : List Chg} (hr : Rd w 3 A p (crow C)) (hl : C.length = p) (hn : p ≤ 1048576) (h0 : chkAll C = 0) :
    Calls Try.prog 27 #[.slice A p c] w (BuildPost (spansC C) [] w) := by
  have HR := hide_ hr; have HL := hide_ hl
  have hn2 : (p : Int) ≤ 1048576 := by omega
  have HMEM := hide_ (fun c (hc : c ∈ C) => chk_size (chkAll_mem h0 c hc))
  have HO1 := hide_ (show (w.alloc (.cells #[] 34)).ownsRow w.heap.size 34 2 (.slice (some ⟨w.heap.size, 0, none⟩) 0 0) 0 (srow (spansC (C.take 0))) from own_new w #[] 34 2 0 w.heap.size rfl (Nat.zero_le _) (Nat.le_refl _))
  have HB1 := hide_ (later_alloc w (.cells #[] 34))
  clear hr hl h0
  go_enter Try.func27, Try.ntmps27
  go_wp2_with fail
  go_loopw [3, 4] (fun s3 s4 wr => ∃ (k : Nat), k ≤ p ∧ s4 = .int .i64 k ∧ Hid (wr.ownsRow w.heap.size 34 2 s3 k (srow (spansC (C.take k)))) ∧ Hid (Later w wr)) (fun _ i _ => p - (intOf i).toNat)
  case atStart => exact ⟨0, Nat.zero_le _, rfl, HO1, HB1⟩
  case round =>
    obtain ⟨k, hkp, rfl, HO, HB⟩ := hrel
    obtain ⟨A4, c4, rfl⟩ := own_form HO.out
    by_cases hlt : k < p
    · obtain ⟨s, hs⟩ : ∃ s, C[k]? = some s := ⟨_, List.getElem?_eq_getElem (by rw [HL.out]; exact hlt)⟩
      obtain ⟨b, o, rfl, l0, l1, l2⟩ := (HR.out.below HB.out).chg hs
      have q1 : (k : Int) < (p : Int) := by omega
      have q2 : (0 : Int) ≤ (k : Int) := by omega
      have q3 : (k : Int) ≤ 1048576 := by omega
      have HT := hide_ (take_snoc hs)
      have hsp := hide_ (fun W => rspan_any s.1 s.2.1 s.2.2 (by have := HMEM.out s (List.mem_of_getElem? hs); omega) W)
      clear hs
      go_wp2_with fail
      refine (hsp.out _).mono ?_; rintro e w5 ⟨rfl, hb5⟩
      have HB5 := hide_ (show Later w w5 from Later.trans HB.out hb5)
      have HO5 := hide_ (own_below HO.out hb5)
      clear hb5 hsp
      go_wp2_with (at_builtin; (refine wpList_append_rd _ rfl (.tmp 12) (.tmp 18) 47 rfl w.heap.size 34 2 32 spanT _ k (srow (spansC (C.take k))) rfl (HO5.out.alloc _) _ 1 1 (encS (spanC s.1 s.2.1 s.2.2)) rfl (Rd.newAt _ #[.string (spanC s.1 s.2.1 s.2.2).1, .string (spanC s.1 s.2.1 s.2.2).2] 34 1 2 _ (0, 0) rfl rfl) (encS_one _) (by omega) (by unfold maxLen; omega) (by have := HB5.out.size; simp; omega) (fun h => nomatch h) ?_; intro v8 w8 hown8 hg8 hat8; have HO8 := hide_ hown8; have HB8 := hide_ (show Later w w8 from own_grown (Below.alloc HB5.out (Below.size HB5.out) _) (HO5.out.alloc _) hg8 (by have := HB5.out.size; simp; omega)); clear hown8 hg8 hat8))
      go_roundw
      case rel => exact ⟨k + 1, by omega, by go_num, hide_ (by rw [HT.out, spansC_snoc, srow_snoc]; exact HO8.out), HB8⟩
      case measure => simp [intOf]; omega
    · have q1 : ¬ (k : Int) < (p : Int) := by omega
      obtain rfl : k = p := by omega
      have hF : spansC (C.take k) = spansC C := by rw [← HL.out, List.take_length]
      have hj := hide_ (rjoin_any (c := c4) (L := spansC C) (by rw [← hF]; exact Rd.of_own HO.out) (own_cap2 HO.out).1 (by simp [spansC]; exact HL.out) (by omega))
      clear hF
      go_wp2_with fail
      refine hj.out.mono ?_; rintro e w5 ⟨⟨v, R, q, rfl, hq, hc5, hk5, ho5⟩, hb5⟩
      obtain ⟨A5, c5, rfl⟩ := own_form ho5
      have HB5 := hide_ (Later.trans HB.out hb5); have HO5 := hide_ (own_base ho5 (Below.size HB.out)); have HC5 := hide_ hc5; have HK5 := hide_ hk5; have HQ := hide_ hq
      clear hq hc5 hk5 ho5 hb5 hj
      go_wp2_with fail
      go_ret
      exact ⟨⟨_, R, q, rfl, HQ.out, HC5.out, HK5.out, HO5.out⟩, HB5.out⟩

end Go.Proofs.Ytblljpdlmllceaa
/-
  Meet: what two spans have both; the document's Meet.
-/
namespace Go.Proofs.Ytblljpdlmllceaa
open Go.RowKit
set_option linter.unusedVariables false
set_option linter.unusedSimpArgs false
/-- What two spans have both. -/
def smeetS (a b : Spn) : Spn :=
  let f := if a.1 < b.1 then b.1 else a.1
  let t := if b.2 < a.2 then b.2 else a.2
  if t ≤ f then (ByteArray.empty, ByteArray.empty) else (f, t)
theorem smeet_comm (a b : Spn) : smeetS a b = smeetS b a := by
  unfold smeetS
  have e1 : (if a.1 < b.1 then b.1 else a.1) = (if b.1 < a.1 then a.1 else b.1) := by split <;> split <;> grind
  have e2 : (if b.2 < a.2 then b.2 else a.2) = (if a.2 < b.2 then a.2 else b.2) := by split <;> split <;> grind
  simp only [e1, e2]
theorem sempty_lo (k : ByteArray) : ByteArray.empty ≤ k := List.nil_le _
theorem smeet_in (a b : Spn) (k : ByteArray) : InS (smeetS a b) k ↔ InS a k ∧ InS b k := by
  unfold smeetS InS
  simp only
  have he := sempty_lo k
  by_cases h : (if b.2 < a.2 then b.2 else a.2) ≤ (if a.1 < b.1 then b.1 else a.1)
  · rw [if_pos h]
    simp only
    constructor
    · rintro ⟨h1, h2⟩; grind
    · rintro ⟨⟨h1, h2⟩, h3, h4⟩
      split at h <;> split at h <;> grind
  · rw [if_neg h]
    simp only
    split at h <;> split at h <;> split <;> grind
set_option maxHeartbeats 1000000 in
theorem meet_any (a b : Spn) (w : World) : Calls Try.prog 38 #[.agg #[.string a.1, .string a.2], .agg #[.string b.1, .string b.2]] w fun e w' => e = .returned (.agg #[.string (smeetS a b).1, .string (smeetS a b).2]) ∧ Later w w' := by
  obtain ⟨f, hf⟩ : ∃ f, f = if a.1 < b.1 then b.1 else a.1 := ⟨_, rfl⟩
  obtain ⟨t, ht⟩ : ∃ t, t = if b.2 < a.2 then b.2 else a.2 := ⟨_, rfl⟩
  have hm : smeetS a b = if t ≤ f then (ByteArray.empty, ByteArray.empty) else (f, t) := by unfold smeetS; rw [hf, ht]
  have m1 : ∀ ts ty W, (Builtin.max_ ts ty #[.string a.1, .string b.1]).run Try.prog W = .ok (.string f) W := fun ts ty W => by rw [run_max_str, hf]
  have m2 : ∀ ts ty W, (Builtin.min_ ts ty #[.string a.2, .string b.2]).run Try.prog W = .ok (.string t) W := fun ts ty W => by rw [run_min_str, ht]
  clear hf ht
  by_cases h : t ≤ f
  · rw [if_pos h] at hm
    have HM := hide_ hm
    have he := fun W => empty_any f t W
    rw [decide_eq_true h] at he
    clear h hm
    go_enter Try.func38, Try.ntmps38
    go_wp2_with (go_at_call 40; refine (he _).mono ?_; rintro e w' ⟨rfl, rfl⟩)
    go_returns
    refine ⟨by rw [HM.out]; rfl, ?_⟩
    exact ((((((Below.refl _ _).alloc (Nat.le_refl _) _).alloc (by simp) _).alloc (by simp; omega) _).alloc (by simp; omega) _).alloc (by simp; omega) _)
  · rw [if_neg h] at hm
    have HM := hide_ hm
    have he := fun W => empty_any f t W
    rw [decide_eq_false h] at he
    clear h hm
    go_enter Try.func38, Try.ntmps38
    go_wp2_with (go_at_call 40; refine (he _).mono ?_; rintro e w' ⟨rfl, rfl⟩)
    go_returns
    refine ⟨by rw [HM.out], ?_⟩
    exact ((((((Below.refl _ _).alloc (Nat.le_refl _) _).alloc (by simp) _).alloc (by simp; omega) _).alloc (by simp; omega) _).alloc (by simp; omega) _)
set_option maxHeartbeats 2000000 in
theorem srmeet_any (a b : Spn) (w : World) : Calls Try.prog 16 #[.agg #[.string a.1, .string a.2], .agg #[.string b.1, .string b.2]] w fun e w' => e = .returned (.agg #[.string (smeetS a b).1, .string (smeetS a b).2]) ∧ Later w w' := by
  obtain ⟨f, hf⟩ : ∃ f, f = if a.1 < b.1 then b.1 else a.1 := ⟨_, rfl⟩
  obtain ⟨t, ht⟩ : ∃ t, t = if b.2 < a.2 then b.2 else a.2 := ⟨_, rfl⟩
  have hm : smeetS a b = if t ≤ f then (ByteArray.empty, ByteArray.empty) else (f, t) := by unfold smeetS; rw [hf, ht]
  have HM := hide_ hm
  have g1 := ble b.1 a.1
  have g2 := bl b.2 a.2
  have g3 := bl f t
  clear hm
  by_cases h1 : a.1 < b.1
  all_goals by_cases h2 : b.2 < a.2
  all_goals by_cases h3 : t ≤ f
  all_goals simp only [h1, h2, if_true, if_false] at hf ht
  all_goals subst hf ht
  all_goals have k1 := hide_ h3
  all_goals first | rw [decide_eq_false (show ¬ b.1 ≤ a.1 by grind)] at g1 | rw [decide_eq_true (show b.1 ≤ a.1 by grind)] at g1
  all_goals first | rw [decide_eq_true h2] at g2 | rw [decide_eq_false h2] at g2
  all_goals first | rw [decide_eq_true (by grind)] at g3 | rw [decide_eq_false (by grind)] at g3
  all_goals clear h1 h2 h3
  all_goals
    go_enter Try.func16, Try.ntmps16
    go_wp2_with fail
    go_returns
    refine ⟨?_, ?_⟩
    · rw [HM.out]
      first
      | (rw [if_pos k1.out]; rfl)
      | (rw [if_neg k1.out])
    · exact ((((Below.refl _ _).alloc (Nat.le_refl _) _).alloc (by simp) _).alloc (by simp; omega) _).alloc (by simp; omega) _
end Go.Proofs.Ytblljpdlmllceaa
/-
  What changes do to the keys of a span: the program's Cut.
-/
namespace Go.Proofs.Ytblljpdlmllceaa
open Go.RowKit
set_option linter.unusedVariables false
set_option linter.unusedSimpArgs false
/-- What a change does to the keys of a span. -/
def cut1 (s : Spn) (c : Chg) : List Chg :=
  if c.1 = 3 then (if (smeetS s (c.2.1, c.2.2)).1 < (smeetS s (c.2.1, c.2.2)).2 then [(3, (smeetS s (c.2.1, c.2.2)).1, (smeetS s (c.2.1, c.2.2)).2)] else [])
  else if s.1 ≤ c.2.1 ∧ c.2.1 < s.2 then [c] else []
def cutC (s : Spn) (C : List Chg) : List Chg := C.flatMap (cut1 s)
theorem cut1_len (s : Spn) (c : Chg) : (cut1 s c).length ≤ 1 := by
  unfold cut1; split
  · split <;> simp
  · split <;> simp
theorem cutC_snoc (s : Spn) (C : List Chg) (c : Chg) : cutC s (C ++ [c]) = cutC s C ++ cut1 s c := by simp [cutC]
theorem cut1_wipe_no {s : Spn} {k v : ByteArray} (h : (smeetS s (k, v)).2 ≤ (smeetS s (k, v)).1) : cut1 s (3, k, v) = [] := by
  unfold cut1; rw [if_pos rfl, if_neg (by grind)]
theorem cut1_wipe {s : Spn} {k v : ByteArray} (h : ¬ (smeetS s (k, v)).2 ≤ (smeetS s (k, v)).1) : cut1 s (3, k, v) = [(3, (smeetS s (k, v)).1, (smeetS s (k, v)).2)] := by
  unfold cut1; rw [if_pos rfl, if_pos (by grind)]
theorem cut1_has {s : Spn} {c : Chg} (h : ¬ c.1 = 3) (h2 : InS s c.2.1) : cut1 s c = [c] := by
  unfold cut1; rw [if_neg h, if_pos (show s.1 ≤ c.2.1 ∧ c.2.1 < s.2 from h2)]
theorem cut1_no {s : Spn} {c : Chg} (h : ¬ c.1 = 3) (h2 : ¬ InS s c.2.1) : cut1 s c = [] := by
  unfold cut1; rw [if_neg h, if_neg (show ¬ (s.1 ≤ c.2.1 ∧ c.2.1 < s.2) from h2)]
theorem crow_append (A B : List Chg) : crow (A ++ B) = crow A ++ crow B := by simp [crow]
theorem set_12 {W0 W V : World} {c : Nat} {x a b u v : Value} {t : TypeId} (h : Later W0 W) (hb : W0.heap.size ≤ c) (hr : W.heap[c]? = some (.cells #[x, a, b] t (0, 0)))
    (hv : V = (W.setCell ⟨c, 1, none⟩ u).setCell ⟨c, 2, none⟩ v ∨ V = (W.setCell ⟨c, 2, none⟩ v).setCell ⟨c, 1, none⟩ u) : Later W0 V ∧ V.heap[c]? = some (.cells #[x, u, v] t (0, 0)) := by
  rcases hv with rfl | rfl
  · have h1 := heap_setCell_same W c 1 _ _ u hr
    have h2 := heap_setCell_same _ c 2 _ _ v h1
    exact ⟨Below.setCell (Below.setCell h hb _) hb _, by simpa using h2⟩
  · have h1 := heap_setCell_same W c 2 _ _ v hr
    have h2 := heap_setCell_same _ c 1 _ _ u h1
    exact ⟨Below.setCell (Below.setCell h hb _) hb _, by simpa using h2⟩
/-- What Cut answers. -/
def CutPostC (s : Spn) (C : List Chg) (p : Nat) (w : World) (e : Ending) (w' : World) : Prop :=
  ((chkAll C ≠ 0 ∧ e = .returned (.tuple #[.slice none 0 0, .int .i64 (chkAll C)])) ∨
   (chkAll C = 0 ∧ (17 < s.1.size ∨ 17 < s.2.size) ∧ e = .returned (.tuple #[.slice none 0 0, .int .i64 6])) ∨
   (chkAll C = 0 ∧ s.1.size ≤ 17 ∧ s.2.size ≤ 17 ∧ ∃ (u : Value) (m : Nat), e = .returned (.tuple #[u, .int .i64 0]) ∧ (cutC s C).length = m ∧ m ≤ p ∧ w'.ownsRow w.heap.size 32 3 u m (crow (cutC s C)))) ∧ Later w w'
set_option maxHeartbeats 4000000 in
theorem cut_any {w : World} {A : Option Addr} {p c : Nat} {C : List Chg} (s : Spn) (hr : Rd w 3 A p (crow C)) (hl : C.length = p) (hn : p ≤ 1048576) (hs1 : s.1.size ≤ maxLen) (hs2 : s.2.size ≤ maxLen) :
    Calls Try.prog 21 #[.agg #[.string s.1, .string s.2], .slice A p c] w (CutPostC s C p w) := by
  obtain ⟨W0, hW0⟩ : ∃ W0, W0 = w.alloc (.cells #[.string s.1, .string s.2] 34) := ⟨_, rfl⟩
  have hbs : W0.heap[w.heap.size]? = some (.cells #[.string s.1, .string s.2] 34 (0, 0)) := by rw [hW0]; exact heap_alloc_new w _
  have HBS := hide_ hbs
  have HB0 := hide_ (show Later w W0 by rw [hW0]; exact later_alloc _ _)
  have HW := hide_ hW0.symm
  have HR := hide_ (hr.below HB0.out); have HL := hide_ hl
  have hc := hide_ (all_any (c := c) HR.out hl (by omega))
  have hn2 : (p : Int) ≤ 1048576 := by omega
  unfold maxLen at hs1 hs2
  clear hr hl hW0 hbs
  go_enter Try.func21, Try.ntmps21
  go_wp2_with fail
  rw [HW.out]
  clear HW
  refine hc.out.mono ?_; rintro e w1 ⟨rfl, hb1⟩
  have HB1 := hide_ (Later.trans HB0.out hb1)
  have hx1 := (hb1.block w.heap.size (heap_lt0 HBS.out)).trans HBS.out
  have HX1 := hide_ hx1
  have c0 := cell_of_row _ _ 0 _ _ (0, 0) hx1
  have c1 := cell_of_row _ _ 1 _ _ (0, 0) hx1
  have HR1 := hide_ (HR.out.below hb1)
  clear hb1 hc HR hx1
  by_cases h0 : chkAll C = 0
  · rw [h0]
    have HC0 := hide_ h0
    have HMEM := hide_ (fun c (hc : c ∈ C) => chk_size (chkAll_mem h0 c hc))
    have HKIND := hide_ (fun c (hc : c ∈ C) => chk_kind (chkAll_mem h0 c hc))
    clear h0
    by_cases hlarge : 17 < s.1.size ∨ 17 < s.2.size
    · have HLG := hide_ hlarge
      obtain ⟨mx, hmx⟩ : ∃ mx : Int, mx = max (s.1.size : Int) (s.2.size : Int) := ⟨_, rfl⟩
      have q1 : (17 : Int) < max (s.1.size : Int) (s.2.size : Int) := by omega
      clear hlarge hmx
      go_wp2_with fail
      go_ret2
      exact ⟨.inr (.inl ⟨HC0.out, HLG.out, rfl⟩), HB1.out⟩
    · have hsz1 : s.1.size ≤ 17 := by omega
      have hsz2 : s.2.size ≤ 17 := by omega
      have q1 : ¬ (17 : Int) < max (s.1.size : Int) (s.2.size : Int) := by omega
      have HO1 := hide_ (World.ownsRow_nil w1 w1.heap.size 32 3)
      clear hlarge
      go_wp2_with fail
      clear q1
      go_loopw [7, 26] (fun s7 s26 wr => ∃ (k m : Nat), k ≤ p ∧ s26 = .int .i64 k ∧ m ≤ k ∧ Hid ((cutC s (C.take k)).length = m) ∧ Hid (wr.ownsRow w1.heap.size 32 3 s7 m (crow (cutC s (C.take k)))) ∧ Hid (Later w wr) ∧ Hid (Later w1 wr)) (fun _ i _ => p - (intOf i).toNat)
      case atStart => exact ⟨0, 0, Nat.zero_le _, rfl, Nat.le_refl _, hide_ rfl, HO1, HB1, hide_ (Later.refl _)⟩
      case round =>
        obtain ⟨k, m, hkp, rfl, hmk, HM, HO, HB, HBB⟩ := hrel
        obtain ⟨A4, c4, rfl⟩ := own_form HO.out
        by_cases hlt : k < p
        · obtain ⟨x, hx⟩ : ∃ x, C[k]? = some x := ⟨_, List.getElem?_eq_getElem (by rw [HL.out]; exact hlt)⟩
          obtain ⟨b, o, rfl, l0, l1, l2⟩ := (HR1.out.below HBB.out).chg hx
          obtain ⟨kd, kx, vx⟩ := x
          have q1 : (k : Int) < (p : Int) := by omega
          have q2 : (0 : Int) ≤ (k : Int) := by omega
          have q3 : (k : Int) ≤ 1048576 := by omega
          have HT := hide_ (take_snoc hx)
          have HKX := hide_ (HMEM.out _ (List.mem_of_getElem? hx))
          have hx1 := (HBB.out.block w.heap.size (heap_lt0 HX1.out)).trans HX1.out
          have hwa := hide_ (later_alloc wr (.cells #[.int .i64 kd, .string kx, .string vx] 32))
          have HO2 := hide_ (HO.out.alloc (.cells #[.int .i64 kd, .string kx, .string vx] 32))
          have hcx : (wr.alloc (.cells #[.int .i64 kd, .string kx, .string vx] 32)).heap[wr.heap.size]? = some (.cells #[.int .i64 kd, .string kx, .string vx] 32 (0, 0)) := heap_alloc_new _ _
          have hsx := row_al hx1 (.cells #[.int .i64 kd, .string kx, .string vx] 32)
          generalize hWa : wr.alloc (.cells #[.int .i64 kd, .string kx, .string vx] 32) = Wa at hwa HO2 hcx hsx
          have HWA := hide_ hWa
          have HCX := hide_ hcx; have HSX := hide_ hsx
          have hgr := Below.size HB.out
          clear hx hx1 hWa hcx hsx
          by_cases hk3 : kd = 3
          · subst hk3
            have ax0 := later_drew_cell (cell_of_row _ _ 0 _ _ (0, 0) HCX.out)
            have ax1 := later_drew_cell (cell_of_row _ _ 1 _ _ (0, 0) HCX.out)
            have ax2 := later_drew_cell (cell_of_row _ _ 2 _ _ (0, 0) HCX.out)
            have as0 := later_drew_cell (cell_of_row _ _ 0 _ _ (0, 0) HSX.out)
            have as1 := later_drew_cell (cell_of_row _ _ 1 _ _ (0, 0) HSX.out)
            go_wp2_with fail
            rw [HWA.out]
            have hspc := hide_ (fun W => pspan_any 3 kx vx (by have := HKX.out; omega) W)
            have hmeet := hide_ (fun W => meet_any s (spanC 3 kx vx) W)
            rw [show spanC 3 kx vx = (kx, vx) from by unfold spanC; rw [if_pos rfl]] at hspc hmeet
            generalize hmm : smeetS s (kx, vx) = mm at hmeet
            have HMM := hide_ hmm
            clear hmm
            apply wp_cut (F := fun bk W => Later Wa.drew W ∧ Wa.heap.size ≤ bk ∧ W.heap[bk]? = some (.cells #[.string mm.1, .string mm.2] 34 (0, 0)))
            case h1 =>
              refine wp_region_l [5] (by kernel_rfl) ?_
              refine wpAnyL_take 0 (v := ?_) rfl (by kernel_rfl) (by kernel_rfl) (by kernel_rfl) (by kernel_rfl) (fun _ _ _ h => h) (by rfl) (by intro W hSw; go_simp; with_reducible rfl) ?_; try simp only [Act.put, List.setIfInBounds_toArray, List.set_cons_zero, List.set_cons_succ]
              refine wpAnyL_take 1 (v := ?_) rfl (by kernel_rfl) (by kernel_rfl) (by kernel_rfl) (by kernel_rfl) (fun _ _ _ h => h) (by rfl) (by intro W hSw; go_simp; with_reducible rfl) ?_; try simp only [Act.put, List.setIfInBounds_toArray, List.set_cons_zero, List.set_cons_succ]
              refine wpAnyL_two 2 4 (by kernel_rfl) rfl rfl (fun K hK => ?_) (fun K hK => ?_)
              · skip
                go_simp
                refine (hspc.out _).mono ?_; rintro e w11 ⟨rfl, hb11⟩
                first | refine hK.out _ _ (by assumption) ?_ | refine hK.out _ _ (Later.refl _) ?_ | refine hK.out _ _ (Below.alloc (Below.refl _ _) (Nat.le_refl _) _) ?_
                clear hK K; try simp only [Act.put, List.setIfInBounds_toArray, List.set_cons_zero, List.set_cons_succ]
                refine wpAnyL_two 3 4 (by kernel_rfl) rfl rfl (fun K hK => ?_) (fun K hK => ?_)
                · skip
                  go_simp
                  refine (hmeet.out _).mono ?_; rintro e w12 ⟨rfl, hb12⟩; first | (have zr := row_al_later hb12; have z0 := cell_of_row _ _ 0 _ _ (0, 0) zr; have z1 := cell_of_row _ _ 1 _ _ (0, 0) zr; have z2 := frozen_of_row _ _ 0 _ _ zr; have z3 := frozen_of_row _ _ 1 _ _ zr) | (have zr : w12.heap[Wa.heap.size]? = some (.cells #[.string ByteArray.empty, .string ByteArray.empty] 34 (0, 0)) := row_al_later (W := Wa.drew) (Z := (.cells #[.string ByteArray.empty, .string ByteArray.empty] 34)) (hb11.trans hb12); have z0 := cell_of_row _ _ 0 _ _ (0, 0) zr; have z1 := cell_of_row _ _ 1 _ _ (0, 0) zr; have z2 := frozen_of_row _ _ 0 _ _ zr; have z3 := frozen_of_row _ _ 1 _ _ zr) | skip
                  first | refine hK.out _ _ (by assumption) ?_ | refine hK.out _ _ (Later.refl _) ?_ | refine hK.out _ _ (Below.alloc (Below.refl _ _) (Nat.le_refl _) _) ?_
                  clear hK K; try simp only [Act.put, List.setIfInBounds_toArray, List.set_cons_zero, List.set_cons_succ]
                  refine wpAnyL_one 4 (by kernel_rfl) rfl (fun K hK => ?_)
                  go_simp
                  first | refine hK.out _ _ (by assumption) ?_ | refine hK.out _ _ (Later.refl _) ?_ | refine hK.out _ _ (Below.alloc (Below.refl _ _) (Nat.le_refl _) _) ?_
                  clear hK K; try simp only [Act.put, List.setIfInBounds_toArray, List.set_cons_zero, List.set_cons_succ]
                  refine wpAnyL_loud 5 (by kernel_rfl) (by rfl) rfl (fun K hK => ?_)
                  go_simp
                  refine hK.out _ _ ?_
                  clear hK K; try simp only [Act.put, List.setIfInBounds_toArray, List.set_cons_zero, List.set_cons_succ]
                  refine wpAnyL_done (by kernel_rfl) ?_ _
                  (first | (have hl := hb11.trans hb12; have hgr2 := Below.size hl; generalize hbk : w12.heap.size = bk at *; exact cut_leaf bk rfl ⟨hl.trans (later_alloc _ _), hgr2, by rw [← hbk]; exact heap_alloc_new _ _⟩) | (have hl := (hb11.trans (later_alloc _ _)).trans hb12; have hgr2 := Below.size hb11; generalize hbk : w11.heap.size = bk at *; exact cut_leaf bk rfl (set_two' hl hgr2 zr)) | (have hl := ((later_alloc Wa.drew (.cells #[.string ByteArray.empty, .string ByteArray.empty] 34)).trans hb11).trans hb12; have hgr2 := Nat.le_refl Wa.drew.heap.size; generalize hbk : Wa.heap.size = bk at *; have ht := set_two' (u := .string mm.1) (v := .string mm.2) hl (by have : Wa.drew.heap.size = bk := hbk; omega) zr; exact cut_leaf bk rfl ⟨ht.1, Nat.le_refl _, ht.2.2⟩))
                · skip
                  go_simp
                  first | refine hK.out _ _ (by assumption) ?_ | refine hK.out _ _ (Later.refl _) ?_ | refine hK.out _ _ (Below.alloc (Below.refl _ _) (Nat.le_refl _) _) ?_
                  clear hK K; try simp only [Act.put, List.setIfInBounds_toArray, List.set_cons_zero, List.set_cons_succ]
                  refine wpAnyL_one 3 (by kernel_rfl) rfl (fun K hK => ?_)
                  go_simp
                  refine (hmeet.out _).mono ?_; rintro e w12 ⟨rfl, hb12⟩; first | (have zr := row_al_later hb12; have z0 := cell_of_row _ _ 0 _ _ (0, 0) zr; have z1 := cell_of_row _ _ 1 _ _ (0, 0) zr; have z2 := frozen_of_row _ _ 0 _ _ zr; have z3 := frozen_of_row _ _ 1 _ _ zr) | (have zr : w12.heap[Wa.heap.size]? = some (.cells #[.string ByteArray.empty, .string ByteArray.empty] 34 (0, 0)) := row_al_later (W := Wa.drew) (Z := (.cells #[.string ByteArray.empty, .string ByteArray.empty] 34)) (hb11.trans hb12); have z0 := cell_of_row _ _ 0 _ _ (0, 0) zr; have z1 := cell_of_row _ _ 1 _ _ (0, 0) zr; have z2 := frozen_of_row _ _ 0 _ _ zr; have z3 := frozen_of_row _ _ 1 _ _ zr) | skip
                  first | refine hK.out _ _ (by assumption) ?_ | refine hK.out _ _ (Later.refl _) ?_ | refine hK.out _ _ (Below.alloc (Below.refl _ _) (Nat.le_refl _) _) ?_
                  clear hK K; try simp only [Act.put, List.setIfInBounds_toArray, List.set_cons_zero, List.set_cons_succ]
                  refine wpAnyL_loud 5 (by kernel_rfl) (by rfl) rfl (fun K hK => ?_)
                  go_simp
                  refine hK.out _ _ ?_
                  clear hK K; try simp only [Act.put, List.setIfInBounds_toArray, List.set_cons_zero, List.set_cons_succ]
                  refine wpAnyL_done (by kernel_rfl) ?_ _
                  (first | (have hl := hb11.trans hb12; have hgr2 := Below.size hl; generalize hbk : w12.heap.size = bk at *; exact cut_leaf bk rfl ⟨hl.trans (later_alloc _ _), hgr2, by rw [← hbk]; exact heap_alloc_new _ _⟩) | (have hl := (hb11.trans (later_alloc _ _)).trans hb12; have hgr2 := Below.size hb11; generalize hbk : w11.heap.size = bk at *; exact cut_leaf bk rfl (set_two' hl hgr2 zr)) | (have hl := ((later_alloc Wa.drew (.cells #[.string ByteArray.empty, .string ByteArray.empty] 34)).trans hb11).trans hb12; have hgr2 := Nat.le_refl Wa.drew.heap.size; generalize hbk : Wa.heap.size = bk at *; have ht := set_two' (u := .string mm.1) (v := .string mm.2) hl (by have : Wa.drew.heap.size = bk := hbk; omega) zr; exact cut_leaf bk rfl ⟨ht.1, Nat.le_refl _, ht.2.2⟩))
              · skip
                go_simp
                first | refine hK.out _ _ (by assumption) ?_ | refine hK.out _ _ (Later.refl _) ?_ | refine hK.out _ _ (Below.alloc (Below.refl _ _) (Nat.le_refl _) _) ?_
                clear hK K; try simp only [Act.put, List.setIfInBounds_toArray, List.set_cons_zero, List.set_cons_succ]
                refine wpAnyL_one 2 (by kernel_rfl) rfl (fun K hK => ?_)
                go_simp
                refine (hspc.out _).mono ?_; rintro e w11 ⟨rfl, hb11⟩
                first | refine hK.out _ _ (by assumption) ?_ | refine hK.out _ _ (Later.refl _) ?_ | refine hK.out _ _ (Below.alloc (Below.refl _ _) (Nat.le_refl _) _) ?_
                clear hK K; try simp only [Act.put, List.setIfInBounds_toArray, List.set_cons_zero, List.set_cons_succ]
                refine wpAnyL_one 3 (by kernel_rfl) rfl (fun K hK => ?_)
                go_simp
                refine (hmeet.out _).mono ?_; rintro e w12 ⟨rfl, hb12⟩; first | (have zr := row_al_later hb12; have z0 := cell_of_row _ _ 0 _ _ (0, 0) zr; have z1 := cell_of_row _ _ 1 _ _ (0, 0) zr; have z2 := frozen_of_row _ _ 0 _ _ zr; have z3 := frozen_of_row _ _ 1 _ _ zr) | (have zr : w12.heap[Wa.heap.size]? = some (.cells #[.string ByteArray.empty, .string ByteArray.empty] 34 (0, 0)) := row_al_later (W := Wa.drew) (Z := (.cells #[.string ByteArray.empty, .string ByteArray.empty] 34)) (hb11.trans hb12); have z0 := cell_of_row _ _ 0 _ _ (0, 0) zr; have z1 := cell_of_row _ _ 1 _ _ (0, 0) zr; have z2 := frozen_of_row _ _ 0 _ _ zr; have z3 := frozen_of_row _ _ 1 _ _ zr) | skip
                first | refine hK.out _ _ (by assumption) ?_ | refine hK.out _ _ (Later.refl _) ?_ | refine hK.out _ _ (Below.alloc (Below.refl _ _) (Nat.le_refl _) _) ?_
                clear hK K; try simp only [Act.put, List.setIfInBounds_toArray, List.set_cons_zero, List.set_cons_succ]
                refine wpAnyL_loud 5 (by kernel_rfl) (by rfl) rfl (fun K hK => ?_)
                go_simp
                refine hK.out _ _ ?_
                clear hK K; try simp only [Act.put, List.setIfInBounds_toArray, List.set_cons_zero, List.set_cons_succ]
                refine wpAnyL_done (by kernel_rfl) ?_ _
                (first | (have hl := hb11.trans hb12; have hgr2 := Below.size hl; generalize hbk : w12.heap.size = bk at *; exact cut_leaf bk rfl ⟨hl.trans (later_alloc _ _), hgr2, by rw [← hbk]; exact heap_alloc_new _ _⟩) | (have hl := (hb11.trans (later_alloc _ _)).trans hb12; have hgr2 := Below.size hb11; generalize hbk : w11.heap.size = bk at *; exact cut_leaf bk rfl (set_two' hl hgr2 zr)) | (have hl := ((later_alloc Wa.drew (.cells #[.string ByteArray.empty, .string ByteArray.empty] 34)).trans hb11).trans hb12; have hgr2 := Nat.le_refl Wa.drew.heap.size; generalize hbk : Wa.heap.size = bk at *; have ht := set_two' (u := .string mm.1) (v := .string mm.2) hl (by have : Wa.drew.heap.size = bk := hbk; omega) zr; exact cut_leaf bk rfl ⟨ht.1, Nat.le_refl _, ht.2.2⟩))
            case h2 =>
              rintro bk W ⟨hFL, hbk, hmr⟩
              have HBK := hide_ hbk
              have HMR := hide_ hmr
              have hFB := Later.trans ((Below.refl _ _).drew) hFL
              have HFB := hide_ (show Later Wa W from hFB)
              have HCR := hide_ ((hFB.block wr.heap.size (heap_lt0 HCX.out)).trans HCX.out)
              have HOW := hide_ (own_below HO2.out hFB)
              have HBW := hide_ (show Later w W from Later.trans (Later.trans HB.out hwa.out) hFB)
              have hem := hide_ (fun W => empty_b mm W)
              have m0 := cell_of_row _ _ 0 _ _ (0, 0) hmr
              have m1 := cell_of_row _ _ 1 _ _ (0, 0) hmr
              clear hFL hmr hFB ax0 ax1 ax2 as0 as1 hspc hmeet hbk
              go_wp2_with fail
              refine (hem.out _).mono ?_; rintro e w5 ⟨rfl, hb5⟩
              have HB5 := hide_ hb5
              clear hem
              by_cases hemp : mm.2 ≤ mm.1
              · have HEM := hide_ hemp
                rw [decide_eq_true hemp]
                clear hemp m0 m1
                go_wp2_with fail
                go_roundw
                case rel => exact ⟨k + 1, m, by omega, by go_num, by omega, hide_ (by rw [HT.out, cutC_snoc, cut1_wipe_no (by rw [HMM.out]; exact HEM.out), List.append_nil]; exact HM.out), hide_ (by rw [HT.out, cutC_snoc, cut1_wipe_no (by rw [HMM.out]; exact HEM.out), List.append_nil]; exact own_below HOW.out HB5.out), hide_ (Later.trans HBW.out HB5.out), hide_ (Later.trans (Later.trans (Later.trans HBB.out hwa.out) HFB.out) HB5.out)⟩
                case measure => simp [intOf]; omega
              · have HEM := hide_ hemp
                rw [decide_eq_false hemp]
                have hcr5 := (hb5.block wr.heap.size (heap_lt0 HCR.out)).trans HCR.out
                have hmr5 := (hb5.block bk (heap_lt0 HMR.out)).trans HMR.out
                have m0 := cell_of_row _ _ 0 _ _ (0, 0) hmr5
                have m1 := cell_of_row _ _ 1 _ _ (0, 0) hmr5
                have y0 := cell_of_row _ _ 0 _ _ (0, 0) hcr5
                have y1 := cell_of_row _ _ 1 _ _ (0, 0) hcr5
                have y2 := cell_of_row _ _ 2 _ _ (0, 0) hcr5
                have f1 := frozen_of_row _ _ 1 _ _ hcr5
                have f2 := frozen_of_row _ _ 2 _ _ hcr5
                have hlt1 : wr.heap.size < bk := Nat.lt_of_lt_of_le (heap_lt0 HCX.out) HBK.out
                have hne1 : ¬ wr.heap.size = bk := by omega
                have hne2 : ¬ bk = wr.heap.size := by omega
                have HCR5 := hide_ hcr5
                clear hemp hb5 hcr5 hmr5
                go_wp2_with fail
                have hV := hide_ (fun V (hv : V = (w5.setCell ⟨wr.heap.size, 1, none⟩ (.string mm.1)).setCell ⟨wr.heap.size, 2, none⟩ (.string mm.2) ∨ V = (w5.setCell ⟨wr.heap.size, 2, none⟩ (.string mm.2)).setCell ⟨wr.heap.size, 1, none⟩ (.string mm.1)) => set_12 (W0 := wr) (u := .string mm.1) (v := .string mm.2) (Later.trans (Later.trans hwa.out HFB.out) HB5.out) (Nat.le_refl _) HCR5.out hv)
                go_region
                all_goals
                  clear m0 m1 y0 y1 y2 f1 f2
                  first
                  | (generalize hv : (w5.setCell ⟨wr.heap.size, 1, none⟩ (.string mm.1)).setCell ⟨wr.heap.size, 2, none⟩ (.string mm.2) = V; have hV2 := hV.out V (.inl hv.symm))
                  | (generalize hv : (w5.setCell ⟨wr.heap.size, 2, none⟩ (.string mm.2)).setCell ⟨wr.heap.size, 1, none⟩ (.string mm.1) = V; have hV2 := hV.out V (.inr hv.symm))
                  obtain ⟨hVl, hVr⟩ := hV2
                  have y0 := cell_of_row _ _ 0 _ _ (0, 0) hVr
                  have y1 := cell_of_row _ _ 1 _ _ (0, 0) hVr
                  have y2 := cell_of_row _ _ 2 _ _ (0, 0) hVr
                  have HVL := hide_ hVl
                  have HVW := hide_ (show Below w1.heap.size w1 V.drew from (Later.trans HBB.out hVl).drew)
                  have HOV := hide_ (show V.drew.ownsRow w1.heap.size 32 3 (.slice A4 m c4) m (crow (cutC s (C.take k))) from own_below HO.out (Below.drew hVl))
                  clear hv hVl hVr hV
                  go_wp2_with (at_builtin; (refine wpList_append_rd _ rfl (.tmp 55) (.tmp 57) 23 rfl w1.heap.size 32 3 40 changeT _ m (crow (cutC s (C.take k))) rfl (HOV.out.alloc _) _ 1 1 (encC (3, mm.1, mm.2)) rfl (Rd.newAt V.drew #[.int .i64 3, .string mm.1, .string mm.2] 32 1 3 _ (0, 0) rfl rfl) (encC_one _) (by omega) (by unfold maxLen; omega) (by have := HVW.out.size; simp at this ⊢; omega) (fun h => nomatch h) ?_; intro v8 w8 hown8 hg8 hat8; have HO8 := hide_ hown8; have HB8 := hide_ (show Later w1 w8 from own_grown (Below.alloc HVW.out (Below.size HVW.out) _) (HOV.out.alloc _) hg8 (by have := HVW.out.size; simp at this ⊢; omega)); clear hown8 hg8 hat8))
                  go_roundw
                  case rel => exact ⟨k + 1, m + 1, by omega, by go_num, by omega, hide_ (by rw [HT.out, cutC_snoc, cut1_wipe (by rw [HMM.out]; exact HEM.out), List.length_append, HM.out]; rfl), hide_ (by rw [HT.out, cutC_snoc, cut1_wipe (by rw [HMM.out]; exact HEM.out), crow_append, HMM.out]; exact HO8.out), hide_ (Later.trans HB1.out HB8.out), HB8⟩
                  case measure => simp [intOf]; omega
          · have ax0 := cell_of_row _ _ 0 _ _ (0, 0) HCX.out
            have ax1 := cell_of_row _ _ 1 _ _ (0, 0) HCX.out
            have ax2 := cell_of_row _ _ 2 _ _ (0, 0) HCX.out
            have as0 := cell_of_row _ _ 0 _ _ (0, 0) HSX.out
            have as1 := cell_of_row _ _ 1 _ _ (0, 0) HSX.out
            have hk3' : ¬ (3 : Int) = kd := fun h => hk3 h.symm
            have hk3b : (kd == 3) = false := beq_eq_false_iff_ne.2 hk3
            have HK3 := hide_ hk3
            obtain ⟨b1, hb1⟩ := inS_dec s kx
            have hhas := hide_ (fun W => has_b s kx b1 hb1 W)
            have HB1D := hide_ hb1
            clear hb1 hk3
            go_wp2_with (first | (rw [HWA.out]) | fail)
            refine (hhas.out _).mono ?_; rintro e w5 ⟨rfl, hb5⟩
            have HB5 := hide_ (show Later w1 w5 from Later.trans (Later.trans HBB.out hwa.out) hb5)
            have HO5 := hide_ (own_below HO2.out hb5)
            have hcr5 := (hb5.block wr.heap.size (heap_lt0 HCX.out)).trans HCX.out
            have y0 := cell_of_row _ _ 0 _ _ (0, 0) hcr5
            have y1 := cell_of_row _ _ 1 _ _ (0, 0) hcr5
            have y2 := cell_of_row _ _ 2 _ _ (0, 0) hcr5
            clear hhas hcr5 hb5 ax0 ax1 ax2 as0 as1
            cases b1 with
            | true =>
              have HIN := hide_ (cut1_has (c := (kd, kx, vx)) HK3.out (HB1D.out.1 rfl))
              clear HB1D
              go_wp2_with (at_builtin; (refine wpList_append_rd _ rfl (.tmp 55) (.tmp 57) 23 rfl w1.heap.size 32 3 40 changeT _ m (crow (cutC s (C.take k))) rfl (HO5.out.alloc _) _ 1 1 (encC (kd, kx, vx)) rfl (Rd.newAt _ #[.int .i64 kd, .string kx, .string vx] 32 1 3 _ (0, 0) rfl rfl) (encC_one _) (by omega) (by unfold maxLen; omega) (by have := HB5.out.size; simp at this ⊢; omega) (fun h => nomatch h) ?_; intro v8 w8 hown8 hg8 hat8; have HO8 := hide_ hown8; have HB8 := hide_ (show Later w1 w8 from own_grown (Below.alloc HB5.out (Below.size HB5.out) _) (HO5.out.alloc _) hg8 (by have := HB5.out.size; simp at this ⊢; omega)); clear hown8 hg8 hat8))
              go_roundw
              case rel => exact ⟨k + 1, m + 1, by omega, by go_num, by omega, hide_ (by rw [HT.out, cutC_snoc, HIN.out, List.length_append, HM.out]; rfl), hide_ (by rw [HT.out, cutC_snoc, HIN.out, crow_append]; exact HO8.out), hide_ (Later.trans HB1.out HB8.out), HB8⟩
              case measure => simp [intOf]; omega
            | false =>
              have HIN := hide_ (cut1_no (c := (kd, kx, vx)) HK3.out (fun h => by have := HB1D.out.2 h; cases this))
              clear HB1D
              go_wp2_with fail
              go_roundw
              case rel => exact ⟨k + 1, m, by omega, by go_num, by omega, hide_ (by rw [HT.out, cutC_snoc, HIN.out, List.append_nil]; exact HM.out), hide_ (by rw [HT.out, cutC_snoc, HIN.out, List.append_nil]; exact HO5.out), hide_ (Later.trans HB1.out HB5.out), HB5⟩
              case measure => simp [intOf]; omega
        · have q1 : ¬ (k : Int) < (p : Int) := by omega
          obtain rfl : k = p := by omega
          have hF : C.take k = C := by rw [← HL.out, List.take_length]
          have HF := hide_ hF
          clear hF
          go_wp2_with fail
          go_ret2
          exact ⟨.inr (.inr ⟨HC0.out, hsz1, hsz2, _, m, rfl, by have := HM.out; rwa [HF.out] at this, hmk, by have := own_base HO.out (Below.size HB1.out); rwa [HF.out] at this⟩), HB.out⟩
  · have h0' : ¬ (0 : Int) = chkAll C := fun h => h0 h.symm
    go_wp2_with fail
    go_ret2
    exact ⟨.inl ⟨h0, rfl⟩, HB1.out⟩

end Go.Proofs.Ytblljpdlmllceaa
/-
  What changes do to the keys of a span: the document's Cut.
-/
namespace Go.Proofs.Ytblljpdlmllceaa
open Go.RowKit
set_option linter.unusedVariables false
set_option linter.unusedSimpArgs false
/-- What the document's Cut answers. -/
def RCutPost (s : Spn) (C : List Chg) (p : Nat) (w : World) (e : Ending) (w' : World) : Prop :=
  (∃ (u : Value) (m : Nat), e = .returned u ∧ (cutC s C).length = m ∧ m ≤ p ∧ w'.ownsRow w.heap.size 32 3 u m (crow (cutC s C))) ∧ Later w w'
theorem cut1_wipe' {s : Spn} {k v : ByteArray} {mm : Spn} (hm : smeetS s (k, v) = mm) (h : mm.1 < mm.2) : cut1 s (3, k, v) = [(3, mm.1, mm.2)] := by
  subst hm; exact cut1_wipe (by grind)
theorem cut1_wipe_no' {s : Spn} {k v : ByteArray} {mm : Spn} (hm : smeetS s (k, v) = mm) (h : ¬ mm.1 < mm.2) : cut1 s (3, k, v) = [] := by
  subst hm; exact cut1_wipe_no (by grind)
set_option maxHeartbeats 4000000 in
theorem rcut_any {w : World} {A : Option Addr} {p c : Nat} {C : List Chg} (s : Spn) (hr : Rd w 3 A p (crow C)) (hl : C.length = p) (hn : p ≤ 1048576) (h0 : chkAll C = 0) :
    Calls Try.prog 24 #[.agg #[.string s.1, .string s.2], .slice A p c] w (RCutPost s C p w) := by
  obtain ⟨W0, hW0⟩ : ∃ W0, W0 = w.alloc (.cells #[.string s.1, .string s.2] 34) := ⟨_, rfl⟩
  have hbs : W0.heap[w.heap.size]? = some (.cells #[.string s.1, .string s.2] 34 (0, 0)) := by rw [hW0]; exact heap_alloc_new w _
  have HB0 := hide_ (show Later w W0 by rw [hW0]; exact later_alloc _ _)
  obtain ⟨w1, hw1⟩ : ∃ w1, w1 = W0.alloc (.cells #[] 32) := ⟨_, rfl⟩
  have hz0 : W0.heap.size = w.heap.size + 1 := by rw [hW0]; simp
  have HO1 := hide_ (show w1.ownsRow W0.heap.size 32 3 (.slice (some ⟨W0.heap.size, 0, none⟩) 0 0) 0 (crow (cutC s (C.take 0))) by rw [hw1]; exact own_new W0 #[] 32 3 0 W0.heap.size rfl (Nat.zero_le _) (Nat.le_refl _))
  have HB1 := hide_ (show Later W0 w1 by rw [hw1]; exact later_alloc _ _)
  have HX1 := hide_ hbs
  have HW := hide_ (show (w.alloc (.cells #[.string s.1, .string s.2] 34)).alloc (.cells #[] 32) = w1 by rw [hw1, hW0])
  have HR1 := hide_ (hr.below HB0.out); have HL := hide_ hl
  have HMEM := hide_ (fun c (hc : c ∈ C) => chk_size (chkAll_mem h0 c hc))
  have hn2 : (p : Int) ≤ 1048576 := by omega
  rw [hz0] at HO1
  have HZ0 := hide_ hz0
  clear hr hl hW0 hbs h0 hz0 hw1
  go_enter Try.func24, Try.ntmps24
  go_wp2_with fail
  rw [HW.out]
  clear HW
  go_loopw [5, 6] (fun s5 s6 wr => ∃ (k m : Nat), k ≤ p ∧ s6 = .int .i64 k ∧ m ≤ k ∧ Hid ((cutC s (C.take k)).length = m) ∧ Hid (wr.ownsRow (w.heap.size + 1) 32 3 s5 m (crow (cutC s (C.take k)))) ∧ Hid (Later W0 wr)) (fun _ i _ => p - (intOf i).toNat)
  case atStart => exact ⟨0, 0, Nat.zero_le _, rfl, Nat.le_refl _, hide_ rfl, HO1, HB1⟩
  case round =>
    obtain ⟨k, m, hkp, rfl, hmk, HM, HO, HBB⟩ := hrel
    obtain ⟨A4, c4, rfl⟩ := own_form HO.out
    by_cases hlt : k < p
    · obtain ⟨x, hx⟩ : ∃ x, C[k]? = some x := ⟨_, List.getElem?_eq_getElem (by rw [HL.out]; exact hlt)⟩
      obtain ⟨b, o, rfl, l0, l1, l2⟩ := (HR1.out.below HBB.out).chg hx
      obtain ⟨kd, kx, vx⟩ := x
      have q1 : (k : Int) < (p : Int) := by omega
      have q2 : (0 : Int) ≤ (k : Int) := by omega
      have q3 : (k : Int) ≤ 1048576 := by omega
      have HT := hide_ (take_snoc hx)
      have HKX := hide_ (HMEM.out _ (List.mem_of_getElem? hx))
      have hx1 := (HBB.out.block w.heap.size (heap_lt0 HX1.out)).trans HX1.out
      have hwa := hide_ (later_alloc wr (.cells #[.int .i64 kd, .string kx, .string vx] 32))
      have HO2 := hide_ (HO.out.alloc (.cells #[.int .i64 kd, .string kx, .string vx] 32))
      have hcx : (wr.alloc (.cells #[.int .i64 kd, .string kx, .string vx] 32)).heap[wr.heap.size]? = some (.cells #[.int .i64 kd, .string kx, .string vx] 32 (0, 0)) := heap_alloc_new _ _
      have hsx := row_al hx1 (.cells #[.int .i64 kd, .string kx, .string vx] 32)
      generalize hWa : wr.alloc (.cells #[.int .i64 kd, .string kx, .string vx] 32) = Wa at hwa HO2 hcx hsx
      have HWA := hide_ hWa
      have HCX := hide_ hcx; have HSX := hide_ hsx
      have ax0 := later_drew_cell (cell_of_row _ _ 0 _ _ (0, 0) HCX.out)
      have ax1 := later_drew_cell (cell_of_row _ _ 1 _ _ (0, 0) HCX.out)
      have ax2 := later_drew_cell (cell_of_row _ _ 2 _ _ (0, 0) HCX.out)
      have as0 := later_drew_cell (cell_of_row _ _ 0 _ _ (0, 0) HSX.out)
      have as1 := later_drew_cell (cell_of_row _ _ 1 _ _ (0, 0) HSX.out)
      have hspc := hide_ (fun W => rspan_any kd kx vx (by have := HKX.out; simp only at this; omega) W)
      have hmeet := hide_ (fun W => srmeet_any s (spanC kd kx vx) W)
      obtain ⟨mm, hmm⟩ : ∃ mm, mm = smeetS s (spanC kd kx vx) := ⟨_, rfl⟩
      rw [← hmm] at hmeet
      have HMM := hide_ hmm.symm
      have HSZ := hide_ (show w.heap.size + 1 ≤ Wa.heap.size from by have h1 := Below.size HBB.out; have h2 := Below.size hwa.out; have := HZ0.out; omega)
      clear hx hx1 hWa hcx hsx hmm
      go_wp2_with fail
      rw [HWA.out]
      apply wp_cut (F := fun bk W => Later Wa.drew W ∧ Wa.heap.size ≤ bk ∧ W.heap[bk]? = some (.cells #[.string mm.1, .string mm.2] 34 (0, 0)))
      case h1 =>
        refine wp_region_l [5] (by kernel_rfl) ?_
        refine wpAnyL_take 0 (v := ?_) rfl (by kernel_rfl) (by kernel_rfl) (by kernel_rfl) (by kernel_rfl) (fun _ _ _ h => h) (by rfl) (by intro W hSw; go_simp; with_reducible rfl) ?_; try simp only [Act.put, List.setIfInBounds_toArray, List.set_cons_zero, List.set_cons_succ]
        refine wpAnyL_take 1 (v := ?_) rfl (by kernel_rfl) (by kernel_rfl) (by kernel_rfl) (by kernel_rfl) (fun _ _ _ h => h) (by rfl) (by intro W hSw; go_simp; with_reducible rfl) ?_; try simp only [Act.put, List.setIfInBounds_toArray, List.set_cons_zero, List.set_cons_succ]
        refine wpAnyL_two 2 4 (by kernel_rfl) rfl rfl (fun K hK => ?_) (fun K hK => ?_)
        · skip
          go_simp
          refine (hspc.out _).mono ?_; rintro e w11 ⟨rfl, hb11⟩
          first | refine hK.out _ _ (by assumption) ?_ | refine hK.out _ _ (Later.refl _) ?_ | refine hK.out _ _ (Below.alloc (Below.refl _ _) (Nat.le_refl _) _) ?_
          clear hK K; try simp only [Act.put, List.setIfInBounds_toArray, List.set_cons_zero, List.set_cons_succ]
          refine wpAnyL_two 3 4 (by kernel_rfl) rfl rfl (fun K hK => ?_) (fun K hK => ?_)
          · skip
            go_simp
            refine (hmeet.out _).mono ?_; rintro e w12 ⟨rfl, hb12⟩; first | (have zr := row_al_later hb12; have z0 := cell_of_row _ _ 0 _ _ (0, 0) zr; have z1 := cell_of_row _ _ 1 _ _ (0, 0) zr; have z2 := frozen_of_row _ _ 0 _ _ zr; have z3 := frozen_of_row _ _ 1 _ _ zr) | (have zr : w12.heap[Wa.heap.size]? = some (.cells #[.string ByteArray.empty, .string ByteArray.empty] 34 (0, 0)) := row_al_later (W := Wa.drew) (Z := (.cells #[.string ByteArray.empty, .string ByteArray.empty] 34)) (hb11.trans hb12); have z0 := cell_of_row _ _ 0 _ _ (0, 0) zr; have z1 := cell_of_row _ _ 1 _ _ (0, 0) zr; have z2 := frozen_of_row _ _ 0 _ _ zr; have z3 := frozen_of_row _ _ 1 _ _ zr) | skip
            first | refine hK.out _ _ (by assumption) ?_ | refine hK.out _ _ (Later.refl _) ?_ | refine hK.out _ _ (Below.alloc (Below.refl _ _) (Nat.le_refl _) _) ?_
            clear hK K; try simp only [Act.put, List.setIfInBounds_toArray, List.set_cons_zero, List.set_cons_succ]
            refine wpAnyL_one 4 (by kernel_rfl) rfl (fun K hK => ?_)
            go_simp
            first | refine hK.out _ _ (by assumption) ?_ | refine hK.out _ _ (Later.refl _) ?_ | refine hK.out _ _ (Below.alloc (Below.refl _ _) (Nat.le_refl _) _) ?_
            clear hK K; try simp only [Act.put, List.setIfInBounds_toArray, List.set_cons_zero, List.set_cons_succ]
            refine wpAnyL_loud 5 (by kernel_rfl) (by rfl) rfl (fun K hK => ?_)
            go_simp
            refine hK.out _ _ ?_
            clear hK K; try simp only [Act.put, List.setIfInBounds_toArray, List.set_cons_zero, List.set_cons_succ]
            refine wpAnyL_done (by kernel_rfl) ?_ _
            (first | (have hl := hb11.trans hb12; have hgr2 := Below.size hl; generalize hbk : w12.heap.size = bk at *; exact cut_leaf bk rfl ⟨hl.trans (later_alloc _ _), hgr2, by rw [← hbk]; exact heap_alloc_new _ _⟩) | (have hl := (hb11.trans (later_alloc _ _)).trans hb12; have hgr2 := Below.size hb11; generalize hbk : w11.heap.size = bk at *; exact cut_leaf bk rfl (set_two' hl hgr2 zr)) | (have hl := ((later_alloc Wa.drew (.cells #[.string ByteArray.empty, .string ByteArray.empty] 34)).trans hb11).trans hb12; have hgr2 := Nat.le_refl Wa.drew.heap.size; generalize hbk : Wa.heap.size = bk at *; have ht := set_two' (u := .string mm.1) (v := .string mm.2) hl (by have : Wa.drew.heap.size = bk := hbk; omega) zr; exact cut_leaf bk rfl ⟨ht.1, Nat.le_refl _, ht.2.2⟩))
          · skip
            go_simp
            first | refine hK.out _ _ (by assumption) ?_ | refine hK.out _ _ (Later.refl _) ?_ | refine hK.out _ _ (Below.alloc (Below.refl _ _) (Nat.le_refl _) _) ?_
            clear hK K; try simp only [Act.put, List.setIfInBounds_toArray, List.set_cons_zero, List.set_cons_succ]
            refine wpAnyL_one 3 (by kernel_rfl) rfl (fun K hK => ?_)
            go_simp
            refine (hmeet.out _).mono ?_; rintro e w12 ⟨rfl, hb12⟩; first | (have zr := row_al_later hb12; have z0 := cell_of_row _ _ 0 _ _ (0, 0) zr; have z1 := cell_of_row _ _ 1 _ _ (0, 0) zr; have z2 := frozen_of_row _ _ 0 _ _ zr; have z3 := frozen_of_row _ _ 1 _ _ zr) | (have zr : w12.heap[Wa.heap.size]? = some (.cells #[.string ByteArray.empty, .string ByteArray.empty] 34 (0, 0)) := row_al_later (W := Wa.drew) (Z := (.cells #[.string ByteArray.empty, .string ByteArray.empty] 34)) (hb11.trans hb12); have z0 := cell_of_row _ _ 0 _ _ (0, 0) zr; have z1 := cell_of_row _ _ 1 _ _ (0, 0) zr; have z2 := frozen_of_row _ _ 0 _ _ zr; have z3 := frozen_of_row _ _ 1 _ _ zr) | skip
            first | refine hK.out _ _ (by assumption) ?_ | refine hK.out _ _ (Later.refl _) ?_ | refine hK.out _ _ (Below.alloc (Below.refl _ _) (Nat.le_refl _) _) ?_
            clear hK K; try simp only [Act.put, List.setIfInBounds_toArray, List.set_cons_zero, List.set_cons_succ]
            refine wpAnyL_loud 5 (by kernel_rfl) (by rfl) rfl (fun K hK => ?_)
            go_simp
            refine hK.out _ _ ?_
            clear hK K; try simp only [Act.put, List.setIfInBounds_toArray, List.set_cons_zero, List.set_cons_succ]
            refine wpAnyL_done (by kernel_rfl) ?_ _
            (first | (have hl := hb11.trans hb12; have hgr2 := Below.size hl; generalize hbk : w12.heap.size = bk at *; exact cut_leaf bk rfl ⟨hl.trans (later_alloc _ _), hgr2, by rw [← hbk]; exact heap_alloc_new _ _⟩) | (have hl := (hb11.trans (later_alloc _ _)).trans hb12; have hgr2 := Below.size hb11; generalize hbk : w11.heap.size = bk at *; exact cut_leaf bk rfl (set_two' hl hgr2 zr)) | (have hl := ((later_alloc Wa.drew (.cells #[.string ByteArray.empty, .string ByteArray.empty] 34)).trans hb11).trans hb12; have hgr2 := Nat.le_refl Wa.drew.heap.size; generalize hbk : Wa.heap.size = bk at *; have ht := set_two' (u := .string mm.1) (v := .string mm.2) hl (by have : Wa.drew.heap.size = bk := hbk; omega) zr; exact cut_leaf bk rfl ⟨ht.1, Nat.le_refl _, ht.2.2⟩))
        · skip
          go_simp
          first | refine hK.out _ _ (by assumption) ?_ | refine hK.out _ _ (Later.refl _) ?_ | refine hK.out _ _ (Below.alloc (Below.refl _ _) (Nat.le_refl _) _) ?_
          clear hK K; try simp only [Act.put, List.setIfInBounds_toArray, List.set_cons_zero, List.set_cons_succ]
          refine wpAnyL_one 2 (by kernel_rfl) rfl (fun K hK => ?_)
          go_simp
          refine (hspc.out _).mono ?_; rintro e w11 ⟨rfl, hb11⟩
          first | refine hK.out _ _ (by assumption) ?_ | refine hK.out _ _ (Later.refl _) ?_ | refine hK.out _ _ (Below.alloc (Below.refl _ _) (Nat.le_refl _) _) ?_
          clear hK K; try simp only [Act.put, List.setIfInBounds_toArray, List.set_cons_zero, List.set_cons_succ]
          refine wpAnyL_one 3 (by kernel_rfl) rfl (fun K hK => ?_)
          go_simp
          refine (hmeet.out _).mono ?_; rintro e w12 ⟨rfl, hb12⟩; first | (have zr := row_al_later hb12; have z0 := cell_of_row _ _ 0 _ _ (0, 0) zr; have z1 := cell_of_row _ _ 1 _ _ (0, 0) zr; have z2 := frozen_of_row _ _ 0 _ _ zr; have z3 := frozen_of_row _ _ 1 _ _ zr) | (have zr : w12.heap[Wa.heap.size]? = some (.cells #[.string ByteArray.empty, .string ByteArray.empty] 34 (0, 0)) := row_al_later (W := Wa.drew) (Z := (.cells #[.string ByteArray.empty, .string ByteArray.empty] 34)) (hb11.trans hb12); have z0 := cell_of_row _ _ 0 _ _ (0, 0) zr; have z1 := cell_of_row _ _ 1 _ _ (0, 0) zr; have z2 := frozen_of_row _ _ 0 _ _ zr; have z3 := frozen_of_row _ _ 1 _ _ zr) | skip
          first | refine hK.out _ _ (by assumption) ?_ | refine hK.out _ _ (Later.refl _) ?_ | refine hK.out _ _ (Below.alloc (Below.refl _ _) (Nat.le_refl _) _) ?_
          clear hK K; try simp only [Act.put, List.setIfInBounds_toArray, List.set_cons_zero, List.set_cons_succ]
          refine wpAnyL_loud 5 (by kernel_rfl) (by rfl) rfl (fun K hK => ?_)
          go_simp
          refine hK.out _ _ ?_
          clear hK K; try simp only [Act.put, List.setIfInBounds_toArray, List.set_cons_zero, List.set_cons_succ]
          refine wpAnyL_done (by kernel_rfl) ?_ _
          (first | (have hl := hb11.trans hb12; have hgr2 := Below.size hl; generalize hbk : w12.heap.size = bk at *; exact cut_leaf bk rfl ⟨hl.trans (later_alloc _ _), hgr2, by rw [← hbk]; exact heap_alloc_new _ _⟩) | (have hl := (hb11.trans (later_alloc _ _)).trans hb12; have hgr2 := Below.size hb11; generalize hbk : w11.heap.size = bk at *; exact cut_leaf bk rfl (set_two' hl hgr2 zr)) | (have hl := ((later_alloc Wa.drew (.cells #[.string ByteArray.empty, .string ByteArray.empty] 34)).trans hb11).trans hb12; have hgr2 := Nat.le_refl Wa.drew.heap.size; generalize hbk : Wa.heap.size = bk at *; have ht := set_two' (u := .string mm.1) (v := .string mm.2) hl (by have : Wa.drew.heap.size = bk := hbk; omega) zr; exact cut_leaf bk rfl ⟨ht.1, Nat.le_refl _, ht.2.2⟩))
      case h2 =>
        rintro bk W ⟨hFL, hbk, hmr⟩
        have HBK := hide_ hbk
        have hFB := Later.trans ((Below.refl _ _).drew) hFL
        have HFB := hide_ (show Later Wa W from hFB)
        have hcr := (hFB.block wr.heap.size (heap_lt0 HCX.out)).trans HCX.out
        have hsr := (hFB.block w.heap.size (heap_lt0 HSX.out)).trans HSX.out
        have HCR := hide_ hcr; have HSR := hide_ hsr
        have HOW := hide_ (own_below HO2.out hFB)
        have HBW := hide_ (show Later W0 W from Later.trans (Later.trans HBB.out hwa.out) hFB)
        have m0 := cell_of_row _ _ 0 _ _ (0, 0) hmr
        have m1 := cell_of_row _ _ 1 _ _ (0, 0) hmr
        have y0 := cell_of_row _ _ 0 _ _ (0, 0) hcr
        have y1 := cell_of_row _ _ 1 _ _ (0, 0) hcr
        have y2 := cell_of_row _ _ 2 _ _ (0, 0) hcr
        have s0 := cell_of_row _ _ 0 _ _ (0, 0) hsr
        have s1 := cell_of_row _ _ 1 _ _ (0, 0) hsr
        have HSW := hide_ (show w.heap.size + 1 ≤ W.heap.size from by have := HSZ.out; have := Below.size HFB.out; omega)
        clear hFL hmr hFB ax0 ax1 ax2 as0 as1 hspc hmeet hbk hcr hsr
        by_cases hk3 : kd = 3
        · subst hk3
          have HM2 := hide_ (show smeetS s (kx, vx) = mm by have := HMM.out; unfold spanC at this; rwa [if_pos rfl] at this)
          by_cases hlt2 : mm.1 < mm.2
          · have g1 := (bl _ _).trans (decide_eq_true hlt2)
            have HIN := hide_ (cut1_wipe' HM2.out hlt2)
            clear hlt2
            go_wp2_with (at_builtin; (refine wpList_append_rd _ rfl (.tmp 34) (.tmp 40) 23 rfl (w.heap.size + 1) 32 3 40 changeT _ m (crow (cutC s (C.take k))) rfl (HOW.out.alloc _) _ 1 1 (encC (3, mm.1, mm.2)) rfl (Rd.newAt _ #[.int .i64 3, .string mm.1, .string mm.2] 32 1 3 _ (0, 0) rfl rfl) (encC_one _) (by omega) (by unfold maxLen; omega) (by have := HSW.out; simp at this ⊢; omega) (fun h => nomatch h) ?_; intro v8 w8 hown8 hg8 hat8; have HO8 := hide_ hown8; have z0 := cell_of_row _ _ 0 _ _ (0, 0) (grown_block (HOW.out.alloc _) hg8 (row_al HCR.out _) (.inr ⟨wr, HO.out, Nat.le_refl _⟩)); have HB8 := hide_ (show Later W0 w8 from by have h := own_grown (B := w.heap.size + 1) (a := W0) (Below.alloc (by have := HBW.out; unfold Later at this; rwa [HZ0.out] at this) HSW.out _) (HOW.out.alloc _) hg8 (by have := HSW.out; simp at this ⊢; omega); unfold Later; rwa [HZ0.out]); clear hown8 hg8 hat8))
            go_roundw
            case rel => exact ⟨k + 1, m + 1, by omega, by go_num, by omega, hide_ (by rw [HT.out, cutC_snoc, HIN.out, List.length_append, HM.out]; rfl), hide_ (by rw [HT.out, cutC_snoc, HIN.out, crow_append]; exact HO8.out), HB8⟩
            case measure => simp [intOf]; omega
          · have g1 := (bl _ _).trans (decide_eq_false hlt2)
            have HIN := hide_ (cut1_wipe_no' HM2.out hlt2)
            clear hlt2
            go_wp2_with fail
            go_roundw
            case rel => exact ⟨k + 1, m, by omega, by go_num, by omega, hide_ (by rw [HT.out, cutC_snoc, HIN.out, List.append_nil]; exact HM.out), hide_ (by rw [HT.out, cutC_snoc, HIN.out, List.append_nil]; exact HOW.out), HBW⟩
            case measure => simp [intOf]; omega
        · have hk3' : ¬ (3 : Int) = kd := fun h => hk3 h.symm
          have hk3b : (kd == 3) = false := beq_eq_false_iff_ne.2 hk3
          have hk3c : (kd != 3) = true := by simp [hk3b, bne]
          have HK3 := hide_ hk3
          obtain ⟨b1, hb1⟩ := inS_dec s kx
          have hhas := hide_ (fun W => rhas_b s kx b1 hb1 W)
          have HB1D := hide_ hb1
          clear hb1 hk3
          go_wp2_with fail
          refine (hhas.out _).mono ?_; rintro e w5 ⟨rfl, hb5⟩
          have HB5 := hide_ (show Later W0 w5 from Later.trans HBW.out hb5)
          have HO5 := hide_ (own_below HOW.out hb5)
          have HS5 := hide_ (Nat.le_trans HSW.out (Below.size hb5))
          have hcr5 := (hb5.block wr.heap.size (heap_lt0 HCR.out)).trans HCR.out
          have y0 := cell_of_row _ _ 0 _ _ (0, 0) hcr5
          have y1 := cell_of_row _ _ 1 _ _ (0, 0) hcr5
          have y2 := cell_of_row _ _ 2 _ _ (0, 0) hcr5
          clear hhas hcr5 hb5
          cases b1 with
          | true =>
            have HIN := hide_ (cut1_has (c := (kd, kx, vx)) HK3.out (HB1D.out.1 rfl))
            clear HB1D
            go_wp2_with (at_builtin; (refine wpList_append_rd _ rfl (.tmp 51) (.tmp 53) 23 rfl (w.heap.size + 1) 32 3 40 changeT _ m (crow (cutC s (C.take k))) rfl (HO5.out.alloc _) _ 1 1 (encC (kd, kx, vx)) rfl (Rd.newAt _ #[.int .i64 kd, .string kx, .string vx] 32 1 3 _ (0, 0) rfl rfl) (encC_one _) (by omega) (by unfold maxLen; omega) (by have := HS5.out; simp at this ⊢; omega) (fun h => nomatch h) ?_; intro v8 w8 hown8 hg8 hat8; have HO8 := hide_ hown8; have HB8 := hide_ (show Later W0 w8 from by have h := own_grown (B := w.heap.size + 1) (a := W0) (Below.alloc (by have := HB5.out; unfold Later at this; rwa [HZ0.out] at this) HS5.out _) (HO5.out.alloc _) hg8 (by have := HS5.out; simp at this ⊢; omega); unfold Later; rwa [HZ0.out]); clear hown8 hg8 hat8))
            go_roundw
            case rel => exact ⟨k + 1, m + 1, by omega, by go_num, by omega, hide_ (by rw [HT.out, cutC_snoc, HIN.out, List.length_append, HM.out]; rfl), hide_ (by rw [HT.out, cutC_snoc, HIN.out, crow_append]; exact HO8.out), HB8⟩
            case measure => simp [intOf]; omega
          | false =>
            have HIN := hide_ (cut1_no (c := (kd, kx, vx)) HK3.out (fun h => by have := HB1D.out.2 h; cases this))
            clear HB1D
            go_wp2_with fail
            go_roundw
            case rel => exact ⟨k + 1, m, by omega, by go_num, by omega, hide_ (by rw [HT.out, cutC_snoc, HIN.out, List.append_nil]; exact HM.out), hide_ (by rw [HT.out, cutC_snoc, HIN.out, List.append_nil]; exact HO5.out), HB5⟩
            case measure => simp [intOf]; omega
    · have q1 : ¬ (k : Int) < (p : Int) := by omega
      obtain rfl : k = p := by omega
      have hF : C.take k = C := by rw [← HL.out, List.take_length]
      have HF := hide_ hF
      clear hF
      go_wp2_with fail
      go_ret
      exact ⟨⟨_, m, rfl, by have := HM.out; rwa [HF.out] at this, hmk, by have := own_base HO.out (Nat.le_succ w.heap.size); rwa [HF.out] at this⟩, Later.trans HB0.out HBB.out⟩

end Go.Proofs.Ytblljpdlmllceaa
/-
  Plain facts: changes turn no key that they do not name; cut to a span they do to its keys what all do, and nothing else.
-/
namespace Go.Proofs.Ytblljpdlmllceaa
open Go.RowKit
set_option linter.unusedVariables false
theorem app_not_named {C : List Chg} : ∀ {L M : List Pr} {p : Pr}, AppOf L C M → p ∈ L → ¬ InL (spansC C) p.1 → p ∈ M := by
  induction C with
  | nil => intro L M p h hp _; obtain rfl := h; exact hp
  | cons c C ih =>
    intro L M p h hp hn
    obtain ⟨N, h1, h2⟩ := h
    have hn2 : ¬ InS (spanC c.1 c.2.1 c.2.2) p.1 ∧ ¬ InL (spansC C) p.1 := by
      constructor
      · intro h; exact hn ⟨_, by simp [spansC], h⟩
      · rintro ⟨s, hs, h⟩; exact hn ⟨s, by simp only [spansC, List.map_cons, List.mem_cons]; exact .inr hs, h⟩
    refine ih h2 ((h1.2 p).2 (.inl ⟨hp, fun h => hn2.1 ((named_has _ _ _).2 h)⟩)) hn2.2
theorem smeet_spanC {s : Spn} {k v x : ByteArray} : Named 3 (smeetS s (k, v)).1 (smeetS s (k, v)).2 x ↔ InS s x ∧ Named 3 k v x := by
  have h := smeet_in s (k, v) x
  unfold Named
  simp only [if_true]
  exact h
/-- One change, cut: what it does to a pair of the span. -/
theorem cut1_in {s : Spn} {c : Chg} {L L' M M' : List Pr} {p : Pr} (hs : InS s p.1) (hL : p ∈ L ↔ p ∈ L') (h1 : OneOf L c.1 c.2.1 c.2.2 M) (h2 : AppOf L' (cut1 s c) M') : p ∈ M ↔ p ∈ M' := by
  obtain ⟨kd, k, v⟩ := c
  rw [h1.2 p]
  by_cases hk : kd = 3
  · subst hk
    have hne : ¬ ((3 : Int) = 1) := by decide
    by_cases hm : (smeetS s (k, v)).2 ≤ (smeetS s (k, v)).1
    · rw [cut1_wipe_no hm] at h2
      obtain rfl := h2
      have hnn : ¬ Named 3 k v p.1 := fun h => by
        have := (smeet_spanC (s := s)).2 ⟨hs, h⟩
        unfold Named at this
        simp only [if_true] at this
        grind
      simp only [hne, false_and, or_false]
      rw [hL]
      exact ⟨fun h => h.1, fun h => ⟨h, hnn⟩⟩
    · rw [cut1_wipe hm] at h2
      obtain ⟨N, h3, rfl⟩ := h2
      rw [h3.2 p, hL]
      simp only [hne, false_and, or_false]
      rw [smeet_spanC]
      constructor
      · rintro ⟨a, b⟩; exact ⟨a, fun h => b h.2⟩
      · rintro ⟨a, b⟩; exact ⟨a, fun h => b ⟨hs, h⟩⟩
  · by_cases hin : InS s k
    · rw [cut1_has (c := (kd, k, v)) hk hin] at h2
      obtain ⟨N, h3, rfl⟩ := h2
      rw [h3.2 p, hL]
    · rw [cut1_no (c := (kd, k, v)) hk hin] at h2
      obtain rfl := h2
      rw [hL]
      have hne : p.1 ≠ k := fun h => hin (h ▸ hs)
      have hnn : ¬ Named kd k v p.1 := by unfold Named; rw [if_neg hk]; exact hne
      constructor
      · rintro (h | ⟨_, rfl⟩)
        · exact h.1
        · exact absurd rfl hne
      · intro h; exact .inl ⟨h, hnn⟩
theorem cut1_out {s : Spn} {c : Chg} {L' M' : List Pr} {p : Pr} (hs : ¬ InS s p.1) (hL : p ∈ L') (h2 : AppOf L' (cut1 s c) M') : p ∈ M' := by
  obtain ⟨kd, k, v⟩ := c
  by_cases hk : kd = 3
  · subst hk
    by_cases hm : (smeetS s (k, v)).2 ≤ (smeetS s (k, v)).1
    · rw [cut1_wipe_no hm] at h2; obtain rfl := h2; exact hL
    · rw [cut1_wipe hm] at h2
      obtain ⟨N, h3, rfl⟩ := h2
      exact (h3.2 p).2 (.inl ⟨hL, fun h => hs (smeet_spanC.1 h).1⟩)
  · by_cases hin : InS s k
    · rw [cut1_has (c := (kd, k, v)) hk hin] at h2
      obtain ⟨N, h3, rfl⟩ := h2
      refine (h3.2 p).2 (.inl ⟨hL, fun h => hs ?_⟩)
      unfold Named at h
      rw [if_neg hk] at h
      rw [h]; exact hin
    · rw [cut1_no (c := (kd, k, v)) hk hin] at h2; obtain rfl := h2; exact hL
theorem app_split {A B : List Chg} : ∀ {L N : List Pr}, AppOf L (A ++ B) N → ∃ M, AppOf L A M ∧ AppOf M B N := by
  induction A with
  | nil => intro L N h; exact ⟨L, rfl, h⟩
  | cons c A ih =>
    intro L N h
    obtain ⟨K, h1, h2⟩ := h
    obtain ⟨M, h3, h4⟩ := ih h2
    exact ⟨M, ⟨K, h1, h3⟩, h4⟩
theorem cut_in {s : Spn} {C : List Chg} : ∀ {L L' M M' : List Pr} {p : Pr}, InS s p.1 → (p ∈ L ↔ p ∈ L') → AppOf L C M → AppOf L' (cutC s C) M' → (p ∈ M ↔ p ∈ M') := by
  induction C with
  | nil => intro L L' M M' p hs hL h1 h2; obtain rfl := h1; obtain rfl := h2; exact hL
  | cons c C ih =>
    intro L L' M M' p hs hL h1 h2
    obtain ⟨N, h3, h4⟩ := h1
    rw [show cutC s (c :: C) = cut1 s c ++ cutC s C from rfl] at h2
    obtain ⟨N', h5, h6⟩ := app_split h2
    exact ih hs (cut1_in hs hL h3 h5) h4 h6
theorem cut_out {s : Spn} {C : List Chg} : ∀ {L' M' : List Pr} {p : Pr}, ¬ InS s p.1 → p ∈ L' → AppOf L' (cutC s C) M' → p ∈ M' := by
  induction C with
  | nil => intro L' M' p hs hL h2; obtain rfl := h2; exact hL
  | cons c C ih =>
    intro L' M' p hs hL h2
    rw [show cutC s (c :: C) = cut1 s c ++ cutC s C from rfl] at h2
    obtain ⟨N', h5, h6⟩ := app_split h2
    exact ih hs (cut1_out hs hL h5) h6
/-- The cut changes are changes. -/
theorem chk_three {k v : ByteArray} : chk 3 k v = 0 ↔ v.size ≤ 17 ∧ k.size ≤ 17 ∧ ¬ v < k := by
  unfold chk
  rw [if_pos rfl]
  by_cases h1 : 17 < v.size
  · rw [if_pos h1]; constructor
    · intro h; cases h
    · intro h; omega
  · rw [if_neg h1]
    by_cases h2 : 17 < k.size
    · rw [if_pos h2]; constructor
      · intro h; cases h
      · intro h; omega
    · rw [if_neg h2]
      by_cases h3 : v < k
      · rw [if_pos h3]; constructor
        · intro h; cases h
        · intro h; exact absurd h3 h.2.2
      · rw [if_neg h3]
        exact ⟨fun _ => ⟨by omega, by omega, h3⟩, fun _ => rfl⟩
theorem smeet_size {s : Spn} {k v : ByteArray} (h1 : s.1.size ≤ 17) (h2 : s.2.size ≤ 17) (h3 : k.size ≤ 17) (h4 : v.size ≤ 17) : (smeetS s (k, v)).1.size ≤ 17 ∧ (smeetS s (k, v)).2.size ≤ 17 := by
  have e0 : ByteArray.empty.size = 0 := rfl
  have hf : (if s.1 < k then k else s.1).size ≤ 17 := by split <;> assumption
  have ht : (if v < s.2 then v else s.2).size ≤ 17 := by split <;> assumption
  unfold smeetS
  simp only
  generalize (if s.1 < k then k else s.1) = f at *
  generalize (if v < s.2 then v else s.2) = t at *
  by_cases h : t ≤ f
  · rw [if_pos h]; exact ⟨by simp only [e0]; omega, by simp only [e0]; omega⟩
  · rw [if_neg h]; exact ⟨hf, ht⟩
theorem cut_sound {s : Spn} (h1 : s.1.size ≤ 17) (h2 : s.2.size ≤ 17) {C : List Chg} (hC : chkAll C = 0) : chkAll (cutC s C) = 0 := by
  induction C with
  | nil => rfl
  | cons c C ih =>
    have hc := chkAll_mem hC c (List.mem_cons_self ..)
    have hC2 : chkAll C = 0 := by rw [chkAll_cons, if_pos hc] at hC; exact hC
    rw [show cutC s (c :: C) = cut1 s c ++ cutC s C from rfl, chkAll_append]
    refine ⟨?_, ih hC2⟩
    obtain ⟨kd, k, v⟩ := c
    by_cases hk : kd = 3
    · subst hk
      by_cases hm : (smeetS s (k, v)).2 ≤ (smeetS s (k, v)).1
      · rw [cut1_wipe_no hm]; rfl
      · rw [cut1_wipe hm, chkAll_cons]
        have h3 := chk_three.1 hc
        have hz := smeet_size h1 h2 h3.2.1 h3.1
        rw [if_pos (chk_three.2 ⟨hz.2, hz.1, by grind⟩)]
        rfl
    · by_cases hin : InS s k
      · rw [cut1_has (c := (kd, k, v)) hk hin, chkAll_cons, if_pos hc]; rfl
      · rw [cut1_no (c := (kd, k, v)) hk hin]; rfl
end Go.Proofs.Ytblljpdlmllceaa
/-
  The law's own 'has'; what Spans and Cut answer, in one form.
-/
namespace Go.Proofs.Ytblljpdlmllceaa
open Go.RowKit
set_option linter.unusedVariables false
set_option linter.unusedSimpArgs false
def HasPost (L : List Pr) (x : Pr) (w : World) (e : Ending) (w' : World) : Prop := (∃ r : Bool, e = .returned (.bool r) ∧ (r = true ↔ x ∈ L)) ∧ Later w w'
set_option maxHeartbeats 1000000 in
theorem hasp_any {w : World} {A : Option Addr} {n c : Nat} {L : List Pr} (x : Pr) (hr : Rd w 2 A n (prow L)) (hl : L.length = n) (hn : n ≤ 4398046511104) :
    Calls Try.prog 29 #[.slice A n c, .agg #[.string x.1, .string x.2]] w (HasPost L x w) := by
  obtain ⟨W0, hW0⟩ : ∃ W0, W0 = w.alloc (.cells #[.string x.1, .string x.2] 55) := ⟨_, rfl⟩
  have HBX := hide_ (show W0.heap[w.heap.size]? = some (.cells #[.string x.1, .string x.2] 55 (0, 0)) by rw [hW0]; exact heap_alloc_new w _)
  have HB0 := hide_ (show Later w W0 by rw [hW0]; exact later_alloc _ _)
  have HR := hide_ (hr.below HB0.out)
  have HW := hide_ hW0.symm
  have HL := hide_ hl
  have hn2 : (n : Int) ≤ 4398046511104 := by omega
  clear hr hl hW0
  go_enter Try.func29, Try.ntmps29
  go_wp2_with fail
  rw [HW.out]
  go_loopw [5] (fun s5 wr => ∃ k : Nat, k ≤ n ∧ s5 = .int .i64 k ∧ Hid (x ∉ L.take k) ∧ Hid (Later W0 wr)) (fun i _ => n - (intOf i).toNat)
  case atStart => exact ⟨0, Nat.zero_le _, rfl, hide_ (by simp), Later.refl _⟩
  case round =>
    obtain ⟨k, hk, rfl, HN, HB⟩ := hrel
    by_cases hlt : k < n
    · have q1 : (k : Int) < (n : Int) := by omega
      have q2 : (k : Int) ≤ 4398046511104 := by omega
      obtain ⟨s, hs⟩ : ∃ s, L[k]? = some s := ⟨_, List.getElem?_eq_getElem (by rw [HL.out]; exact hlt)⟩
      obtain ⟨b, o, rfl, c1, c2⟩ := (HR.out.below HB.out).pair hs
      have hx1 := (HB.out.block w.heap.size (heap_lt0 HBX.out)).trans HBX.out
      have y0 := cell_of_row _ _ 0 _ _ (0, 0) hx1
      have y1 := cell_of_row _ _ 1 _ _ (0, 0) hx1
      have HS := hide_ (take_snoc hs)
      have HM := hide_ (List.mem_of_getElem? hs)
      have e2 := guard_pair
      by_cases hsx : s = x
      · subst hsx
        have e1 := fun W => eq_pair s s W
        simp only [decide_true] at e1
        clear hs hx1
        go_wp2_with fail
        go_quiet (fail)
        go_wp2_with fail
        go_ret
        exact ⟨⟨true, rfl, fun _ => HM.out, fun _ => rfl⟩, (Later.trans HB0.out (below_drewN HB.out _))⟩
      · have e1 := fun W => eq_pair s x W
        simp only [hsx, decide_false] at e1
        have HSX := hide_ hsx
        clear hs hsx hx1
        go_wp2_with fail
        go_quiet (fail)
        go_wp2_with fail
        go_roundw
        case rel => exact ⟨k + 1, by omega, by go_num, hide_ (by rw [HS.out]; simp only [List.mem_append, List.mem_singleton]; rintro (h | h); exact HN.out h; exact HSX.out h.symm), below_drewN HB.out _⟩
        case measure => simp [intOf]; omega
    · obtain rfl : k = n := by omega
      have HF := hide_ (show L.take k = L by rw [← HL.out, List.take_length])
      go_wp2_with fail
      go_ret
      exact ⟨⟨false, rfl, fun h => (by cases h), fun h => absurd (by rw [HF.out]; exact h) HN.out⟩, Later.trans HB0.out HB.out⟩
/-- What Spans answers, in one form. -/
def SpansSum (C : List Chg) (p : Nat) (w : World) (e : Ending) (w' : World) : Prop :=
  (∃ (A' : Option Addr) (R : List Spn) (q c' : Nat) (err : Int), e = .returned (.tuple #[.slice A' q c', .int .i64 err]) ∧ R.length = q ∧ q ≤ p ∧ Rd w' 2 A' q (srow R) ∧ (err = 0 ↔ chkAll C = 0) ∧ (err = 0 → Canon R ∧ ∀ k, InL R k ↔ InL (spansC C) k)) ∧ Later w w'
theorem spans_sum {w : World} {A : Option Addr} {p c : Nat} {C : List Chg} (hr : Rd w 3 A p (crow C)) (hl : C.length = p) (hn : p ≤ 1048576) :
    Calls Try.prog 25 #[.slice A p c] w (SpansSum C p w) := by
  refine (spans_any (c := c) hr hl hn).mono fun e w' h => ?_
  rcases h with ⟨⟨h0, rfl⟩ | ⟨h0, A', R, q, rfl, hq, hqp, hA, hR, hc, hk⟩, hb⟩
  · exact ⟨⟨none, [], 0, 0, chkAll C, rfl, rfl, Nat.zero_le _, Rd.nil _ _ _, Iff.rfl, fun h => absurd h h0⟩, hb⟩
  · exact ⟨⟨A', R, q, q, 0, rfl, hq, hqp, hR, ⟨fun _ => h0, fun _ => rfl⟩, fun _ => ⟨hc, hk⟩⟩, hb⟩
/-- What Cut answers, in one form. -/
def CutSum (s : Spn) (C : List Chg) (p : Nat) (w : World) (e : Ending) (w' : World) : Prop :=
  (∃ (A' : Option Addr) (D : List Chg) (m c' : Nat) (err : Int), e = .returned (.tuple #[.slice A' m c', .int .i64 err]) ∧ D.length = m ∧ m ≤ p ∧ Rd w' 3 A' m (crow D) ∧ (err = 0 → s.1.size ≤ 17 ∧ s.2.size ≤ 17 ∧ D = cutC s C)) ∧ Later w w'
theorem cut_sum {w : World} {A : Option Addr} {p c : Nat} {C : List Chg} (s : Spn) (hr : Rd w 3 A p (crow C)) (hl : C.length = p) (hn : p ≤ 1048576) (hs1 : s.1.size ≤ maxLen) (hs2 : s.2.size ≤ maxLen) :
    Calls Try.prog 21 #[.agg #[.string s.1, .string s.2], .slice A p c] w (CutSum s C p w) := by
  refine (cut_any (c := c) s hr hl hn hs1 hs2).mono fun e w' h => ?_
  rcases h with ⟨⟨h0, rfl⟩ | ⟨h0, hlg, rfl⟩ | ⟨h0, hz1, hz2, u, m, rfl, hm, hmp, ho⟩, hb⟩
  · exact ⟨⟨none, [], 0, 0, chkAll C, rfl, rfl, Nat.zero_le _, Rd.nil _ _ _, fun h => absurd h h0⟩, hb⟩
  · exact ⟨⟨none, [], 0, 0, 6, rfl, rfl, Nat.zero_le _, Rd.nil _ _ _, fun h => (by cases h)⟩, hb⟩
  · obtain ⟨A1, c1, rfl⟩ := own_form ho
    exact ⟨⟨A1, cutC s C, m, c1, 0, rfl, hm, hmp, Rd.of_own ho, fun _ => ⟨hz1, hz2, rfl⟩⟩, hb⟩

end Go.Proofs.Ytblljpdlmllceaa
