/-
  The document's Marks in memory: New; what is left of a write.
-/
import Derived.Test.YtidlkomgondkiaaKMTwo
namespace Go.Proofs.Ytidlkomgondkiaa
open Go.RowKit
set_option linter.unusedVariables false
set_option linter.unusedSimpArgs false
/-- The document's Marks lie here. -/
def DMAt (w : World) (B : Nat) (v : Value) (f m : Int) : Prop := w.heap[B]? = some (.cells #[v, .int .i64 f, .int .i64 m] 86 (0, 0))
/-- The document's Marks stand here, with all that was written. -/
def DM (w : World) (B : Nat) (W : List Mk) (f m : Int) : Prop := ∃ A n c, DMAt w B (.slice A n c) f m ∧ w.ownsRow (B + 1) 89 3 (.slice A n c) n (mrow W) ∧ W.length = n
theorem DM.lt {w : World} {B : Nat} {W : List Mk} {f m : Int} (h : DM w B W f m) : B < w.heap.size := by obtain ⟨A, n, c, h1, _⟩ := h; exact heap_lt0 h1
theorem DM.below {w w' : World} {B : Nat} {W : List Mk} {f m : Int} (h : DM w B W f m) (hb : Later w w') : DM w' B W f m := by
  obtain ⟨A, n, c, h1, h2, h3⟩ := h
  exact ⟨A, n, c, (hb.block B (heap_lt0 h1)).trans h1, own_below h2 hb, h3⟩
theorem writT : ElemT Try.prog 84 89 3 40 := elem_mk (z := .agg #[.string ByteArray.empty, .string ByteArray.empty, .int .i64 0]) Try.underlying84 (by kernel_rfl) rfl (by decide)
theorem dnew_any (n : Int) (w : World) : Calls Try.prog 18 #[.int .i64 n] w fun e w' => e = .returned (.pointer (some ⟨w.heap.size, 0, none⟩)) ∧ DM w' w.heap.size [] (max n 0) 0 ∧ Later w w' := by
  by_cases h : n < 0
  · have h1 := hide_ (show max n 0 = 0 by omega)
    go_enter Try.func18, Try.ntmps18
    go_wp2_with fail
    go_ret
    exact ⟨rfl, by rw [h1.out]; exact ⟨none, 0, 0, heap_alloc_new _ _, World.ownsRow_nil _ _ _ _, rfl⟩, later_alloc _ _⟩
  · have h1 := hide_ (show max n 0 = n by omega)
    go_enter Try.func18, Try.ntmps18
    go_wp2_with fail
    go_ret
    exact ⟨rfl, by rw [h1.out]; exact ⟨none, 0, 0, heap_alloc_new _ _, World.ownsRow_nil _ _ _ _, rfl⟩, later_alloc _ _⟩
theorem spansW_at {W : List Mk} {i p j : Nat} {k : Mk} (h : W[j]? = some k) (hj : j = i + p) : (spansW (W.drop i))[p]? = some k.1 := by
  unfold spansW; rw [List.getElem?_map, List.getElem?_drop, ← hj, h]; rfl
theorem spansW_len (W : List Mk) (i : Nat) : (spansW (W.drop i)).length = W.length - i := by simp [spansW]
set_option maxRecDepth 100000 in
set_option maxHeartbeats 4000000 in
theorem left_any {w : World} {B : Nat} {W : List Mk} {f m : Int} {i : Nat} {k : Mk} (h : DM w B W f m) (hk : W[i]? = some k) (hn : W.length ≤ 1048576) :
    Calls Try.prog 44 #[.pointer (some ⟨B, 0, none⟩), .int .i64 i] w fun e w' =>
      (∃ (v : Value) (R : List Spn) (q : Nat), e = .returned v ∧ R.length = q ∧ LeftW W i k R ∧ w'.ownsRow w.heap.size 24 2 v q (srow R)) ∧ Later w w' := by
  obtain ⟨A, n, c, hma, ho, hl⟩ := h
  have HMA := hide_ hma; have HR := hide_ (Rd.of_own ho)
  have hin : i < n := by rw [← hl]; exact (List.getElem?_eq_some_iff.1 hk).1
  have HK := hide_ hk
  have HD := hide_ (show (spansW (W.drop (i + 1))).length = n - (i + 1) by rw [spansW_len, hl])
  have HL := hide_ hl
  have hn2 : (n : Int) ≤ 1048576 := by omega
  have hi2 : (i : Int) ≤ 1048576 := by omega
  have hi3 : (0 : Int) ≤ (i : Int) := by omega
  have hi4 : (i : Int) < (n : Int) := by omega
  have HO1 := hide_ (show (w.alloc (.cells #[] 24)).ownsRow w.heap.size 24 2 (.slice (some ⟨w.heap.size, 0, none⟩) 0 0) 0 (srow ((spansW (W.drop (i + 1))).take 0)) from own_new w #[] 24 2 0 w.heap.size rfl (Nat.zero_le _) (Nat.le_refl _))
  have HB1 := hide_ (later_alloc w (.cells #[] 24))
  clear hma ho hl hk
  go_enter Try.func44, Try.ntmps44
  go_wp2_with fail
  go_loopw [5, 6] (fun s5 s6 wr => ∃ (j p : Nat), Hid (j = i + 1 + p) ∧ j ≤ n ∧ s6 = .int .i64 j ∧ Hid (wr.ownsRow w.heap.size 24 2 s5 p (srow ((spansW (W.drop (i + 1))).take p))) ∧ Hid (Later w wr)) (fun _ s _ => n - (intOf s).toNat)
  case atStart => exact ⟨i + 1, 0, hide_ rfl, by omega, by go_num, HO1, HB1⟩
  case round =>
    obtain ⟨j, p, HJ, hj, rfl, HO, HB⟩ := hrel
    obtain ⟨A5, c5, rfl⟩ := own_form HO.out
    have hmx := (HB.out.block B (heap_lt0 HMA.out)).trans HMA.out
    have m0 := cell_of_row _ _ 0 _ _ (0, 0) hmx
    clear hmx
    by_cases hlt : j < n
    · have q1 : (j : Int) < (n : Int) := by omega
      have q2 : (j : Int) ≤ 1048576 := by omega
      have q3 : (0 : Int) ≤ (j : Int) := by omega
      obtain ⟨s, hs⟩ : ∃ s, W[j]? = some s := ⟨_, List.getElem?_eq_getElem (by rw [HL.out]; exact hlt)⟩
      obtain ⟨b, o, rfl, l0, l1, l2⟩ := (HR.out.below HB.out).mark hs
      have HT := hide_ (take_snoc (spansW_at hs HJ.out))
      have hpj : p ≤ j := by have := HJ.out; omega
      have hgw : w.heap.size ≤ wr.heap.size := HB.out.size
      clear hs
      go_wp2_with (at_builtin; go_loud (refine wpList_append_rd _ rfl (.tmp 19) (.tmp 28) 29 rfl w.heap.size 24 2 32 spanT _ p (srow ((spansW (W.drop (i + 1))).take p)) rfl (HO.out.alloc _) _ 1 1 (encS s.1) rfl (Rd.newAt _ #[.string s.1.1, .string s.1.2] 24 1 2 _ (0, 0) rfl rfl) (encS_one _) (by omega) (by unfold maxLen; have := HJ.out; omega) (by have := HB.out.size; simp; omega) (fun h => nomatch h) ?_; intro v8 w8 hown8 hg8 hat8; have HO8 := hide_ hown8; have HB8 := hide_ (show Later w w8 from own_grown (Below.alloc HB.out (Below.size HB.out) _) (HO.out.alloc _) hg8 (by have := HB.out.size; simp; omega)); clear hown8 hg8 hat8))
      go_roundw
      case rel => exact ⟨j + 1, p + 1, hide_ (by have := HJ.out; omega), by omega, by go_num, hide_ (by rw [HT.out, srow_snoc]; exact HO8.out), HB8⟩
      case measure => simp [intOf]; omega
    · have q1 : ¬ (j : Int) < (n : Int) := by omega
      obtain rfl : j = n := by omega
      have hpe : p = j - (i + 1) := by have := HJ.out; omega
      have hF : (spansW (W.drop (i + 1))).take p = spansW (W.drop (i + 1)) := by rw [hpe, ← HD.out, List.take_length]
      have hDp : (spansW (W.drop (i + 1))).length = p := by rw [HD.out, hpe]
      have hj := hide_ (rwithout_any (c := c5) k.1 (by rw [← hF]; exact Rd.of_own HO.out) (own_cap2 HO.out).1 hDp (by omega))
      obtain ⟨b, o, rfl, l0, l1, l2⟩ := (HR.out.below HB.out).mark HK.out
      clear hF hDp hpe
      go_wp2_with fail
      refine hj.out.mono ?_; rintro e w5 ⟨⟨v, R, q, rfl, hq, hc5, hk5, ho5⟩, hb5⟩
      obtain ⟨A5, c5, rfl⟩ := own_form ho5
      have HB5 := hide_ (Later.trans HB.out hb5); have HO5 := hide_ (own_base ho5 (Below.size HB.out)); have HC5 := hide_ hc5; have HK5 := hide_ hk5; have HQ := hide_ hq
      clear hq hc5 hk5 ho5 hb5 hj
      go_wp2_with fail
      go_ret
      exact ⟨⟨_, R, q, rfl, HQ.out, ⟨HC5.out, fun x => (HK5.out x).trans (but_one _ _ x)⟩, HO5.out⟩, HB5.out⟩

end Go.Proofs.Ytidlkomgondkiaa
