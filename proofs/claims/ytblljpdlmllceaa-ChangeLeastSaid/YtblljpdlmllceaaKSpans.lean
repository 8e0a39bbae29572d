/-
  The keys that changes name: the program's Span and Spans, the document's Spans.
-/
import Derived.Test.YtblljpdlmllceaaKRefD
import Derived.Test.YtblljpdlmllceaaKParts
import Derived.Test.YtblljpdlmllceaaKRefMeet
import Derived.Test.YtblljpdlmllceaaG2
namespace Go.Proofs.Ytblljpdlmllceaa
open Go.RowKit
set_option linter.unusedVariables false
set_option linter.unusedSimpArgs false
theorem row_new2 (w : World) (o1 o2 : Obj) : ((w.alloc o1).alloc o2).heap[w.heap.size + 1]? = some o2 := by
  have h := heap_alloc_new (w.alloc o1) o2
  rwa [show (w.alloc o1).heap.size = w.heap.size + 1 by simp] at h
theorem snext_any (s : ByteArray) (hs : s.size ≤ 4611686018427387904) (w : World) : Calls Try.prog 45 #[.string s] w fun e w' => e = .returned (.string (s ++ ⟨#[0]⟩)) ∧ w = w' := by
  have h : ∀ W, (Op.stringOp .add s ⟨#[0]⟩).run Try.prog W = .ok (.string (s ++ ⟨#[0]⟩)) W := fun W => run_string_add_sum W s ⟨#[0]⟩ (by show s.size + 1 ≤ 9223372036854775807; omega)
  go_enter Try.func45, Try.ntmps45
  go_wp2_with fail
  go_ret
  exact ⟨rfl, rfl⟩
set_option maxHeartbeats 400000 in
theorem pspan_any (kind : Int) (k v : ByteArray) (hs : k.size ≤ 4611686018427387904) (w : World) : Calls Try.prog 39 #[.agg #[.int .i64 kind, .string k, .string v]] w fun e w' => e = .returned (.agg #[.string (spanC kind k v).1, .string (spanC kind k v).2]) ∧ Later w w' := by
  by_cases h : kind = 3
  · subst h
    go_enter Try.func39, Try.ntmps39
    go_wp2
    go_returns
    exact ⟨rfl, ((Below.refl _ _).alloc (Nat.le_refl _) _).alloc (by simp) _⟩
  · have h' : ¬ (3 : Int) = kind := fun e => h e.symm
    have e1 : spanC kind k v = (k, k ++ ⟨#[0]⟩) := by unfold spanC; rw [if_neg h]
    rw [e1]
    have hnx := hide_ (fun W => snext_any k hs W)
    clear hs e1
    go_enter Try.func39, Try.ntmps39
    go_wp2_with fail
    obtain ⟨W1, hW1⟩ : ∃ W1, W1 = (w.alloc (.cells #[.int .i64 kind, .string k, .string v] 32)).alloc (.cells #[.string ByteArray.empty, .string ByteArray.empty] 34) := ⟨_, rfl⟩
    have hx0 : W1.heap[w.heap.size]? = some (.cells #[.int .i64 kind, .string k, .string v] 32 (0, 0)) := by rw [hW1]; exact row_al (heap_alloc_new w _) _
    have hz0 : W1.heap[w.heap.size + 1]? = some (.cells #[.string ByteArray.empty, .string ByteArray.empty] 34 (0, 0)) := by
      rw [hW1]; exact row_new2 w _ _
    have HB1 := hide_ (show Later w W1 by rw [hW1]; exact ((Below.refl _ _).alloc (Nat.le_refl _) _).alloc (by simp) _)
    rw [show ((w.alloc (.cells #[.int .i64 kind, .string k, .string v] 32)).alloc (.cells #[.string { data := #[] }, .string { data := #[] }] 34)) = W1 from hW1.symm]
    have ax1 := later_drew_cell (cell_of_row _ _ 1 _ _ (0, 0) hx0)
    have z0 := cell_of_row _ _ 0 _ _ (0, 0) hz0
    have z1 := cell_of_row _ _ 1 _ _ (0, 0) hz0
    have z2 := frozen_of_row _ _ 0 _ _ hz0
    have z3 := frozen_of_row _ _ 1 _ _ hz0
    have HZ := hide_ hz0
    clear hW1 hx0 hz0
    refine wp_region_l [6] (by kernel_rfl) ?_
    refine wpAnyL_pure 0 (v := ?_) rfl (by kernel_rfl) (by kernel_rfl) (by kernel_rfl) (fun _ _ _ h => h) (by rfl) (by intro W; go_simp; with_reducible rfl) ?_; try simp only [Act.put, List.setIfInBounds_toArray, List.set_cons_zero, List.set_cons_succ]
    refine wpAnyL_take 1 (v := ?_) rfl (by kernel_rfl) (by kernel_rfl) (by kernel_rfl) (by kernel_rfl) (fun _ _ _ h => h) (by rfl) (by intro W hSw; go_simp; with_reducible rfl) ?_; try simp only [Act.put, List.setIfInBounds_toArray, List.set_cons_zero, List.set_cons_succ]
    refine wpAnyL_pure 2 (v := ?_) rfl (by kernel_rfl) (by kernel_rfl) (by kernel_rfl) (fun _ _ _ h => h) (by rfl) (by intro W; go_simp; with_reducible rfl) ?_; try simp only [Act.put, List.setIfInBounds_toArray, List.set_cons_zero, List.set_cons_succ]
    refine wpAnyL_take 3 (v := ?_) rfl (by kernel_rfl) (by kernel_rfl) (by kernel_rfl) (by kernel_rfl) (fun _ _ _ h => h) (by rfl) (by intro W hSw; go_simp; with_reducible rfl) ?_; try simp only [Act.put, List.setIfInBounds_toArray, List.set_cons_zero, List.set_cons_succ]
    refine wpAnyL_one 4 (by kernel_rfl) rfl (fun K hK => ?_)
    go_simp
    refine (hnx.out _).mono ?_; rintro e w11 ⟨rfl, rfl⟩; have hlr := Later.refl W1.drew
    first | refine hK.out _ _ (by assumption) ?_ | refine hK.out _ _ (Later.refl _) ?_ | refine hK.out _ _ (Below.alloc (Below.refl _ _) (Nat.le_refl _) _) ?_
    clear hK K; try simp only [Act.put, List.setIfInBounds_toArray, List.set_cons_zero, List.set_cons_succ]
    refine wpAnyL_pure 5 (v := ?_) rfl (by kernel_rfl) (by kernel_rfl) (by kernel_rfl) (fun _ _ _ h => h) (by rfl) (by intro W; go_simp; with_reducible rfl) ?_; try simp only [Act.put, List.setIfInBounds_toArray, List.set_cons_zero, List.set_cons_succ]
    refine wpAnyL_loud 6 (by kernel_rfl) (by rfl) rfl (fun K hK => ?_)
    go_simp
    refine hK.out _ _ ?_
    clear hK K; try simp only [Act.put, List.setIfInBounds_toArray, List.set_cons_zero, List.set_cons_succ]
    refine wpAnyL_done (by kernel_rfl) ?_ _
    have hs2 := set_two (W0 := w) (u := .string k) (v := .string (k ++ ⟨#[0]⟩)) HB1.out (show w.heap.size ≤ w.heap.size + 1 by omega) HZ.out
    obtain ⟨hb2, y0, y1⟩ := hs2
    have HB2 := hide_ hb2
    clear hb2 ax1 z0 z1 z2 z3
    generalize ((W1.setCell ⟨w.heap.size + 1, 0, none⟩ (.string k)).setCell ⟨w.heap.size + 1, 1, none⟩ (.string (k ++ ⟨#[0]⟩))) = W2 at *
    go_wp2_with fail
    exact bodyPost_ret (v := .agg #[.string k, .string (k ++ ⟨#[0]⟩)]) (by simp [results, Try.results39, go_sem, y0, y1]) rfl ⟨rfl, HB2.out.drew⟩
/-- The spans of changes. -/
def spansC (C : List Chg) : List Spn := C.map fun c => spanC c.1 c.2.1 c.2.2
theorem spansC_snoc (C : List Chg) (c : Chg) : spansC (C ++ [c]) = spansC C ++ [spanC c.1 c.2.1 c.2.2] := by simp [spansC]
theorem srow_snoc (L : List Spn) (s : Spn) : srow (L ++ [s]) = srow L ++ encS s := by simp [srow]
/-- What Spans answers. -/
def SpansPost (C : List Chg) (p : Nat) (w : World) (e : Ending) (w' : World) : Prop :=
  ((chkAll C ≠ 0 ∧ e = .returned (.tuple #[.slice none 0 0, .int .i64 (chkAll C)])) ∨
   (chkAll C = 0 ∧ ∃ (A' : Option Addr) (R : List Spn) (q : Nat), e = .returned (.tuple #[.slice A' q q, .int .i64 0]) ∧ R.length = q ∧ q ≤ p ∧ (A' = none → q = 0) ∧ Rd w' 2 A' q (srow R) ∧ Canon R ∧ ∀ k, InL R k ↔ InL (spansC C) k)) ∧ Later w w'
set_option maxHeartbeats 2000000 in
theorem spans_any {w : World} {A : Option Addr} {p c : Nat} {C : List Chg} (hr : Rd w 3 A p (crow C)) (hl : C.length = p) (hn : p ≤ 1048576) :
    Calls Try.prog 25 #[.slice A p c] w (SpansPost C p w) := by
  have HR := hide_ hr; have HL := hide_ hl
  have hc := hide_ (all_any (c := c) hr hl (by omega))
  have hn2 : (p : Int) ≤ 1048576 := by omega
  clear hr hl
  go_enter Try.func25, Try.ntmps25
  go_wp2_with fail
  refine hc.out.mono ?_; rintro e w1 ⟨rfl, hb1⟩
  have HB1 := hide_ hb1
  clear hb1 hc
  by_cases h0 : chkAll C = 0
  · rw [h0]
    have HC0 := hide_ h0
    have HMEM := hide_ (fun c (hc : c ∈ C) => chk_size (chkAll_mem h0 c hc))
    clear h0
    have HO1 := hide_ (World.ownsRow_nil w1 w.heap.size 34 2)
    go_wp2_with fail
    go_loopw [5, 15] (fun s5 s15 wr => ∃ (k : Nat), k ≤ p ∧ s15 = .int .i64 k ∧ Hid (wr.ownsRow w.heap.size 34 2 s5 k (srow (spansC (C.take k)))) ∧ Hid (Later w wr)) (fun _ i _ => p - (intOf i).toNat)
    case atStart => exact ⟨0, Nat.zero_le _, rfl, HO1, HB1⟩
    case round =>
      obtain ⟨k, hkp, rfl, HO, HB⟩ := hrel
      obtain ⟨A4, c4, rfl⟩ := own_form HO.out
      by_cases hlt : k < p
      · obtain ⟨s, hs⟩ : ∃ s, C[k]? = some s := ⟨_, List.getElem?_eq_getElem (by rw [HL.out]; exact hlt)⟩
        obtain ⟨b, o, rfl, l0, l1, l2⟩ := (HR.out.below HB.out).chg hs
        have q1 : (k : Int) < (p : Int) := by omega
        have q2 : (0 : Int) ≤ (k : Int) := by omega
        have q3 : (k : Int) ≤ 1048576 := by omega
        have HT := hide_ (take_snoc hs)
        have hwa := hide_ (HB.out.alloc HB.out.size (.cells #[.int .i64 s.1, .string s.2.1, .string s.2.2] 32))
        have hsp := hide_ (fun W => pspan_any s.1 s.2.1 s.2.2 (by have := HMEM.out s (List.mem_of_getElem? hs); omega) W)
        have HO2 := hide_ (HO.out.alloc (.cells #[.int .i64 s.1, .string s.2.1, .string s.2.2] 32))
        clear hs
        go_wp2_with fail
        refine (hsp.out _).mono ?_; rintro e w5 ⟨rfl, hb5⟩
        have HB5 := hide_ (show Later w w5 from hwa.out.trans (Below.mono hb5 hwa.out.size))
        have HO5 := hide_ (own_below HO2.out hb5)
        clear hb5 hsp
        go_wp2_with (at_builtin; (refine wpList_append_rd _ rfl (.tmp 19) (.tmp 22) 47 rfl w.heap.size 34 2 32 spanT _ k (srow (spansC (C.take k))) rfl (HO5.out.alloc _) _ 1 1 (encS (spanC s.1 s.2.1 s.2.2)) rfl (Rd.newAt _ #[.string (spanC s.1 s.2.1 s.2.2).1, .string (spanC s.1 s.2.1 s.2.2).2] 34 1 2 _ (0, 0) rfl rfl) (encS_one _) (by omega) (by unfold maxLen; omega) (by have := HB5.out.size; simp; omega) (fun h => nomatch h) ?_; intro v8 w8 hown8 hg8 hat8; have HO8 := hide_ hown8; have HB8 := hide_ (show Later w w8 from own_grown (Below.alloc HB5.out (Below.size HB5.out) _) (HO5.out.alloc _) hg8 (by have := HB5.out.size; simp; omega)); clear hown8 hg8 hat8))
        go_roundw
        case rel => exact ⟨k + 1, by omega, by go_num, hide_ (by rw [HT.out, spansC_snoc, srow_snoc]; exact HO8.out), HB8⟩
        case measure => simp [intOf]; omega
      · have q1 : ¬ (k : Int) < (p : Int) := by omega
        obtain rfl : k = p := by omega
        have hF : spansC (C.take k) = spansC C := by rw [← HL.out, List.take_length]
        have hj := hide_ (join_any (c := c4) (Rd.of_own HO.out) (own_cap2 HO.out).1 (by rw [hF]; simp [spansC]; exact HL.out) (by omega))
        have HF := hide_ hF
        clear hF
        go_wp2_with fail
        refine hj.out.mono ?_; rintro e w5 ⟨⟨A5, R, rfl, hR5, hA5, _, hRn, hc5, hk5⟩, hb5⟩
        obtain ⟨q, hq⟩ : ∃ q, R.length = q := ⟨_, rfl⟩
        rw [hq] at hR5 hRn hA5 ⊢
        rw [HF.out] at hk5
        have HB5 := hide_ (Later.trans HB.out hb5); have HR5 := hide_ hR5; have HC5 := hide_ hc5; have HK5 := hide_ hk5; have HQ := hide_ hq; have HA5 := hide_ hA5
        clear hR5 hc5 hk5 hb5 hq hA5 hj
        go_wp2_with fail
        go_ret2
        exact ⟨.inr ⟨HC0.out, A5, R, q, rfl, HQ.out, hRn, HA5.out, HR5.out, HC5.out, HK5.out⟩, HB5.out⟩
  · have h0' : ¬ (0 : Int) = chkAll C := fun h => h0 h.symm
    go_wp2_with fail
    go_ret2
    exact ⟨.inl ⟨h0, rfl⟩, HB1.out⟩
set_option maxHeartbeats 2000000 in
theorem rspans_any {w : World} {A : Option Addr} {p c : Nat} {C : List Chg} (hr : Rd w 3 A p (crow C)) (hl : C.length = p) (hn : p ≤ 1048576) (h0 : chkAll C = 0) :
    Calls Try.prog 27 #[.slice A p c] w (BuildPost (spansC C) [] w) := by
  have HR := hide_ hr; have HL := hide_ hl
  have hn2 : (p : Int) ≤ 1048576 := by omega
  have HMEM := hide_ (fun c (hc : c ∈ C) => chk_size (chkAll_mem h0 c hc))
  have HO1 := hide_ (show (w.alloc (.cells #[] 34)).ownsRow w.heap.size 34 2 (.slice (some ⟨w.heap.size, 0, none⟩) 0 0) 0 (srow (spansC (C.take 0))) from own_new w #[] 34 2 0 w.heap.size rfl (Nat.zero_le _) (Nat.le_refl _))
  have HB1 := hide_ (later_alloc w (.cells #[] 34))
  clear hr hl h0
  go_enter Try.func27, Try.ntmps27
  go_wp2_with fail
  go_loopw [3, 4] (fun s3 s4 wr => ∃ (k : Nat), k ≤ p ∧ s4 = .int .i64 k ∧ Hid (wr.ownsRow w.heap.size 34 2 s3 k (srow (spansC (C.take k)))) ∧ Hid (Later w wr)) (fun _ i _ => p - (intOf i).toNat)
  case atStart => exact ⟨0, Nat.zero_le _, rfl, HO1, HB1⟩
  case round =>
    obtain ⟨k, hkp, rfl, HO, HB⟩ := hrel
    obtain ⟨A4, c4, rfl⟩ := own_form HO.out
    by_cases hlt : k < p
    · obtain ⟨s, hs⟩ : ∃ s, C[k]? = some s := ⟨_, List.getElem?_eq_getElem (by rw [HL.out]; exact hlt)⟩
      obtain ⟨b, o, rfl, l0, l1, l2⟩ := (HR.out.below HB.out).chg hs
      have q1 : (k : Int) < (p : Int) := by omega
      have q2 : (0 : Int) ≤ (k : Int) := by omega
      have q3 : (k : Int) ≤ 1048576 := by omega
      have HT := hide_ (take_snoc hs)
      have hsp := hide_ (fun W => rspan_any s.1 s.2.1 s.2.2 (by have := HMEM.out s (List.mem_of_getElem? hs); omega) W)
      clear hs
      go_wp2_with fail
      refine (hsp.out _).mono ?_; rintro e w5 ⟨rfl, hb5⟩
      have HB5 := hide_ (show Later w w5 from Later.trans HB.out hb5)
      have HO5 := hide_ (own_below HO.out hb5)
      clear hb5 hsp
      go_wp2_with (at_builtin; (refine wpList_append_rd _ rfl (.tmp 12) (.tmp 18) 47 rfl w.heap.size 34 2 32 spanT _ k (srow (spansC (C.take k))) rfl (HO5.out.alloc _) _ 1 1 (encS (spanC s.1 s.2.1 s.2.2)) rfl (Rd.newAt _ #[.string (spanC s.1 s.2.1 s.2.2).1, .string (spanC s.1 s.2.1 s.2.2).2] 34 1 2 _ (0, 0) rfl rfl) (encS_one _) (by omega) (by unfold maxLen; omega) (by have := HB5.out.size; simp; omega) (fun h => nomatch h) ?_; intro v8 w8 hown8 hg8 hat8; have HO8 := hide_ hown8; have HB8 := hide_ (show Later w w8 from own_grown (Below.alloc HB5.out (Below.size HB5.out) _) (HO5.out.alloc _) hg8 (by have := HB5.out.size; simp; omega)); clear hown8 hg8 hat8))
      go_roundw
      case rel => exact ⟨k + 1, by omega, by go_num, hide_ (by rw [HT.out, spansC_snoc, srow_snoc]; exact HO8.out), HB8⟩
      case measure => simp [intOf]; omega
    · have q1 : ¬ (k : Int) < (p : Int) := by omega
      obtain rfl : k = p := by omega
      have hF : spansC (C.take k) = spansC C := by rw [← HL.out, List.take_length]
      have hj := hide_ (rjoin_any (c := c4) (L := spansC C) (by rw [← hF]; exact Rd.of_own HO.out) (own_cap2 HO.out).1 (by simp [spansC]; exact HL.out) (by omega))
      clear hF
      go_wp2_with fail
      refine hj.out.mono ?_; rintro e w5 ⟨⟨v, R, q, rfl, hq, hc5, hk5, ho5⟩, hb5⟩
      obtain ⟨A5, c5, rfl⟩ := own_form ho5
      have HB5 := hide_ (Later.trans HB.out hb5); have HO5 := hide_ (own_base ho5 (Below.size HB.out)); have HC5 := hide_ hc5; have HK5 := hide_ hk5; have HQ := hide_ hq
      clear hq hc5 hk5 ho5 hb5 hj
      go_wp2_with fail
      go_ret
      exact ⟨⟨_, R, q, rfl, HQ.out, HC5.out, HK5.out, HO5.out⟩, HB5.out⟩

end Go.Proofs.Ytblljpdlmllceaa
