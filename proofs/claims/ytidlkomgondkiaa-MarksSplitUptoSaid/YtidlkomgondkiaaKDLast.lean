/-
  The document's Last.
-/
import Derived.Test.YtidlkomgondkiaaKDMem
import Derived.Test.YtidlkomgondkiaaKDPlain
namespace Go.Proofs.Ytidlkomgondkiaa
open Go.RowKit
set_option linter.unusedVariables false
set_option linter.unusedSimpArgs false
theorem set_two2 {W0 W : World} {bk : Nat} {a b u v : Value} {t : TypeId} (h : Later W0 W) (hb : W0.heap.size ≤ bk) (hr : W.heap[bk]? = some (.cells #[a, b] t (0, 0))) :
    Later W0 ((W.setCell ⟨bk, 0, none⟩ u).setCell ⟨bk, 1, none⟩ v) ∧ W0.heap.size ≤ bk ∧ ((W.setCell ⟨bk, 0, none⟩ u).setCell ⟨bk, 1, none⟩ v).heap[bk]? = some (.cells #[u, v] t (0, 0)) := by
  have h1 := heap_setCell_same W bk 0 _ _ u hr
  have h2 := heap_setCell_same _ bk 1 _ _ v h1
  exact ⟨Below.setCell (Below.setCell h hb _) hb _, hb, by simpa using h2⟩
/-- What the inner loop has found: nothing, or a piece that meets. -/
def Got (R : List Spn) (s : Spn) (nn v : Int) (p : Nat) (x : Int) : Prop := (x = nn ∧ ∀ r, r ∈ R.take p → ¬ (smeetS r s).1 < (smeetS r s).2) ∨ (x = v ∧ ∃ r, r ∈ R ∧ (smeetS r s).1 < (smeetS r s).2)
theorem got_start (R : List Spn) (s : Spn) (nn v : Int) : Got R s nn v 0 nn := .inl ⟨rfl, fun r hr => by simp at hr⟩
theorem got_yes {R : List Spn} {s r : Spn} {nn v : Int} {p : Nat} (hr : R[p]? = some r) (hm : (smeetS r s).1 < (smeetS r s).2) : Got R s nn v (p + 1) v := .inr ⟨rfl, r, List.mem_of_getElem? hr, hm⟩
theorem got_no {R : List Spn} {s r : Spn} {nn v x : Int} {p : Nat} (h : Got R s nn v p x) (hr : R[p]? = some r) (hm : ¬ (smeetS r s).1 < (smeetS r s).2) : Got R s nn v (p + 1) x := by
  rcases h with ⟨h1, h2⟩ | h
  · refine .inl ⟨h1, fun t ht => ?_⟩
    rw [take_snoc hr] at ht
    rcases List.mem_append.1 ht with ht | ht
    · exact h2 t ht
    · rw [List.mem_singleton.1 ht]; exact hm
  · exact .inr h
theorem got_end {W : List Mk} {i : Nat} {k : Mk} {R : List Spn} {s : Spn} {f nn x : Int} (h : Got R s nn k.2 R.length x) (hi : LastI W f s i nn) (hf : 0 ≤ f) (hk : W[i]? = some k) (h1 : f < k.2) (h2 : nn < k.2) (hR : LeftW W i k R) : LastI W f s (i + 1) x := by
  rcases h with ⟨rfl, h⟩ | ⟨rfl, r, hr, hm⟩
  · refine lastI_keep hi hf hk (.inr (.inr fun y hy hx => ?_))
    obtain ⟨r, hr, hry⟩ := (hR.2 y).2 hx
    exact h r (by rw [List.take_length]; exact hr) (meets_iff.2 ⟨y, hry, hy⟩)
  · obtain ⟨y, h3, h4⟩ := meets_iff.1 hm
    exact lastI_more hi hf hk h1 h2 ⟨y, h4, (hR.2 y).1 ⟨r, hr, h3⟩⟩
set_option maxRecDepth 100000 in
set_option maxHeartbeats 8000000 in
theorem dlast_any {w : World} {B : Nat} {W L : List Mk} {f m : Int} (s : Spn) (h : DM w B W f m) (hA : Agree L W f) (hM : Marked L) (hf : 0 ≤ f) (hn : W.length ≤ 4096) :
    Calls Try.prog 22 #[.pointer (some ⟨B, 0, none⟩), .agg #[.string s.1, .string s.2]] w fun e w' => e = .returned (.tuple #[.int .i64 (lastL L s), .bool (decide (0 < lastL L s))]) ∧ Later w w' := by
  obtain ⟨W0, hW0⟩ : ∃ W0, W0 = w.alloc (.cells #[.string s.1, .string s.2] 24) := ⟨_, rfl⟩
  have HBS := hide_ (show W0.heap[w.heap.size]? = some (.cells #[.string s.1, .string s.2] 24 (0, 0)) by rw [hW0]; exact heap_alloc_new w _)
  have HB0 := hide_ (show Later w W0 by rw [hW0]; exact later_alloc _ _)
  have HW := hide_ hW0.symm
  have HDM := hide_ h
  obtain ⟨A, n, c, hma, ho, hl⟩ := h
  have HMA := hide_ hma; have HR := hide_ (Rd.of_own ho); have HL := hide_ hl
  have HE := hide_ (fun k hk => agree_last (n := k) (s := s) hA hM hk)
  have HF := hide_ hf
  have HN := hide_ hn
  have hn2 : (n : Int) ≤ 4096 := by omega
  have HST := hide_ (lastI_start W hf s)
  clear hma ho hl hA hM hf hn hW0
  go_enter Try.func22, Try.ntmps22
  go_wp2_with (first | (rw [HW.out]) | fail)
  go_loopw [6, 7] (fun s6 s7 wr => ∃ (i : Nat) (nn : Int), i ≤ n ∧ s7 = .int .i64 i ∧ s6 = .int .i64 nn ∧ Hid (LastI W f s i nn) ∧ Hid (Later W0 wr)) (fun _ i _ => n - (intOf i).toNat)
  case atStart => exact ⟨0, 0, Nat.zero_le _, rfl, rfl, HST, hide_ (Later.refl _)⟩
  case round =>
    obtain ⟨i, nn, hi, rfl, rfl, HI, HB⟩ := hrel
    have hmx := (HB.out.block B (heap_lt0 ((HB0.out.block B (heap_lt0 HMA.out)).trans HMA.out))).trans ((HB0.out.block B (heap_lt0 HMA.out)).trans HMA.out)
    have m0 := cell_of_row _ _ 0 _ _ (0, 0) hmx
    have m1 := cell_of_row _ _ 1 _ _ (0, 0) hmx
    have HMX := hide_ hmx
    have HLT := hide_ (HB0.out.trans HB.out)
    by_cases hlt : i < n
    · have q1 : (i : Int) < (n : Int) := by omega
      have q2 : (i : Int) ≤ 4096 := by omega
      have q3 : (0 : Int) ≤ (i : Int) := by omega
      obtain ⟨k, hk⟩ : ∃ k, W[i]? = some k := ⟨_, List.getElem?_eq_getElem (by rw [HL.out]; exact hlt)⟩
      have HR2 := hide_ ((HR.out.below HB0.out).below HB.out)
      obtain ⟨b, o, rfl, l0, l1, l2⟩ := ((HR.out.below HB0.out).below HB.out).mark hk
      have k0 := later_drew_cell m0
      have k1 := later_drew_cell m1
      have k2 := later_drew_cell l2
      have HK := hide_ hk
      have hle := hide_ (fun (Wx : World) (h : Later w Wx) => left_any (HDM.out.below h) hk (by have := HN.out; omega))
      clear hk hmx
      by_cases e1 : k.2 ≤ f
      · have HG := hide_ (lastI_keep HI.out HF.out HK.out (.inl e1))
        have g1 : decide (k.2 ≤ f) = true := decide_eq_true e1
        go_wp2_with fail
        refine wp_region_k (by kernel_rfl) ?_
        refine wpAnyK_take 0 (v := ?_) rfl (by kernel_rfl) (by kernel_rfl) (by kernel_rfl) (fun _ _ _ h => h) (by rfl) (by intro W hSw; go_simp; with_reducible rfl) ?_; try simp only [Act.put, List.setIfInBounds_toArray, List.set_cons_zero, List.set_cons_succ]
        refine wpAnyK_take 1 (v := ?_) rfl (by kernel_rfl) (by kernel_rfl) (by kernel_rfl) (fun _ _ _ h => h) (by rfl) (by intro W hSw; go_simp; with_reducible rfl) ?_; try simp only [Act.put, List.setIfInBounds_toArray, List.set_cons_zero, List.set_cons_succ]
        refine wpAnyK_take 2 (v := ?_) rfl (by kernel_rfl) (by kernel_rfl) (by kernel_rfl) (fun _ _ _ h => h) (by rfl) (by intro W hSw; go_simp; with_reducible rfl) ?_; try simp only [Act.put, List.setIfInBounds_toArray, List.set_cons_zero, List.set_cons_succ]
        refine wpAnyK_take 3 (v := ?_) rfl (by kernel_rfl) (by kernel_rfl) (by kernel_rfl) (fun _ _ _ h => h) (by rfl) (by intro W hSw; go_simp; with_reducible rfl) ?_; try simp only [Act.put, List.setIfInBounds_toArray, List.set_cons_zero, List.set_cons_succ]
        refine wpAnyK_take 4 (v := ?_) rfl (by kernel_rfl) (by kernel_rfl) (by kernel_rfl) (fun _ _ _ h => h) (by rfl) (by intro W hSw; go_simp; with_reducible rfl) ?_; try simp only [Act.put, List.setIfInBounds_toArray, List.set_cons_zero, List.set_cons_succ]
        refine wpAnyK_take 5 (v := ?_) rfl (by kernel_rfl) (by kernel_rfl) (by kernel_rfl) (fun _ _ _ h => h) (by rfl) (by intro W hSw; go_simp; with_reducible rfl) ?_; try simp only [Act.put, List.setIfInBounds_toArray, List.set_cons_zero, List.set_cons_succ]
        refine wpAnyK_take 6 (v := ?_) rfl (by kernel_rfl) (by kernel_rfl) (by kernel_rfl) (fun _ _ _ h => h) (by rfl) (by intro W hSw; go_simp; with_reducible rfl) ?_; try simp only [Act.put, List.setIfInBounds_toArray, List.set_cons_zero, List.set_cons_succ]
        refine wpAnyK_take 7 (v := ?_) rfl (by kernel_rfl) (by kernel_rfl) (by kernel_rfl) (fun _ _ _ h => h) (by rfl) (by intro W hSw; go_simp; with_reducible rfl) ?_; try simp only [Act.put, List.setIfInBounds_toArray, List.set_cons_zero, List.set_cons_succ]
        refine wpAnyK_take 8 (v := ?_) rfl (by kernel_rfl) (by kernel_rfl) (by kernel_rfl) (fun _ _ _ h => h) (by rfl) (by intro W hSw; go_simp; with_reducible rfl) ?_; try simp only [Act.put, List.setIfInBounds_toArray, List.set_cons_zero, List.set_cons_succ]
        refine wpAnyK_take 9 (v := ?_) rfl (by kernel_rfl) (by kernel_rfl) (by kernel_rfl) (fun _ _ _ h => h) (by rfl) (by intro W hSw; go_simp; with_reducible rfl) ?_; try simp only [Act.put, List.setIfInBounds_toArray, List.set_cons_zero, List.set_cons_succ]
        refine wpAnyK_take 10 (v := ?_) rfl (by kernel_rfl) (by kernel_rfl) (by kernel_rfl) (fun _ _ _ h => h) (by rfl) (by intro W hSw; go_simp; with_reducible rfl) ?_; try simp only [Act.put, List.setIfInBounds_toArray, List.set_cons_zero, List.set_cons_succ]
        refine wpAnyK_take 11 (v := ?_) rfl (by kernel_rfl) (by kernel_rfl) (by kernel_rfl) (fun _ _ _ h => h) (by rfl) (by intro W hSw; go_simp; with_reducible rfl) ?_; try simp only [Act.put, List.setIfInBounds_toArray, List.set_cons_zero, List.set_cons_succ]
        refine wpAnyK_take 12 (v := ?_) rfl (by kernel_rfl) (by kernel_rfl) (by kernel_rfl) (fun _ _ _ h => h) (by rfl) (by intro W hSw; go_simp; with_reducible rfl) ?_; try simp only [Act.put, List.setIfInBounds_toArray, List.set_cons_zero, List.set_cons_succ]
        refine wpAnyK_take 13 (v := ?_) rfl (by kernel_rfl) (by kernel_rfl) (by kernel_rfl) (fun _ _ _ h => h) (by rfl) (by intro W hSw; go_simp; with_reducible rfl) ?_; try simp only [Act.put, List.setIfInBounds_toArray, List.set_cons_zero, List.set_cons_succ]
        refine wpAnyK_skip 14 rfl (by kernel_rfl) (by kernel_rfl) (by kernel_rfl) (fun _ _ _ h => h) (by rfl) ?_; try simp only [Act.put, List.setIfInBounds_toArray, List.set_cons_zero, List.set_cons_succ]
        refine wpAnyK_skip 15 rfl (by kernel_rfl) (by kernel_rfl) (by kernel_rfl) (fun _ _ _ h => h) (by rfl) ?_; try simp only [Act.put, List.setIfInBounds_toArray, List.set_cons_zero, List.set_cons_succ]
        refine wpAnyK_skip 16 rfl (by kernel_rfl) (by kernel_rfl) (by kernel_rfl) (fun _ _ _ h => h) (by rfl) ?_; try simp only [Act.put, List.setIfInBounds_toArray, List.set_cons_zero, List.set_cons_succ]
        refine wpAnyK_skip 17 rfl (by kernel_rfl) (by kernel_rfl) (by kernel_rfl) (fun _ _ _ h => h) (by rfl) ?_; try simp only [Act.put, List.setIfInBounds_toArray, List.set_cons_zero, List.set_cons_succ]
        refine wpAnyK_skip 18 rfl (by kernel_rfl) (by kernel_rfl) (by kernel_rfl) (fun _ _ _ h => h) (by rfl) ?_; try simp only [Act.put, List.setIfInBounds_toArray, List.set_cons_zero, List.set_cons_succ]
        refine wpAnyK_skip 19 rfl (by kernel_rfl) (by kernel_rfl) (by kernel_rfl) (fun _ _ _ h => h) (by rfl) ?_; try simp only [Act.put, List.setIfInBounds_toArray, List.set_cons_zero, List.set_cons_succ]
        refine wpAnyK_skip 20 rfl (by kernel_rfl) (by kernel_rfl) (by kernel_rfl) (fun _ _ _ h => h) (by rfl) ?_; try simp only [Act.put, List.setIfInBounds_toArray, List.set_cons_zero, List.set_cons_succ]
        refine wpAnyK_skip 21 rfl (by kernel_rfl) (by kernel_rfl) (by kernel_rfl) (fun _ _ _ h => h) (by rfl) ?_; try simp only [Act.put, List.setIfInBounds_toArray, List.set_cons_zero, List.set_cons_succ]
        refine wpAnyK_skip 22 rfl (by kernel_rfl) (by kernel_rfl) (by kernel_rfl) (fun _ _ _ h => h) (by rfl) ?_; try simp only [Act.put, List.setIfInBounds_toArray, List.set_cons_zero, List.set_cons_succ]
        refine wpAnyK_skip 23 rfl (by kernel_rfl) (by kernel_rfl) (by kernel_rfl) (fun _ _ _ h => h) (by rfl) ?_; try simp only [Act.put, List.setIfInBounds_toArray, List.set_cons_zero, List.set_cons_succ]
        refine wpAnyK_take 24 (v := ?_) rfl (by kernel_rfl) (by kernel_rfl) (by kernel_rfl) (fun _ _ _ h => h) (by rfl) (by intro W hSw; go_simp; with_reducible rfl) ?_; try simp only [Act.put, List.setIfInBounds_toArray, List.set_cons_zero, List.set_cons_succ]
        refine wpAnyK_done (by kernel_rfl) ?_ _
        go_wp2_with fail
        go_roundw
        case rel => exact ⟨i + 1, nn, by omega, by go_num, rfl, HG, hide_ (HB.out.trans (below_drewN (Later.refl _) 1))⟩
        case measure => simp [intOf]; omega
      · have g1 : decide (k.2 ≤ f) = false := decide_eq_false e1
        by_cases e2 : k.2 ≤ nn
        · have HG := hide_ (lastI_keep HI.out HF.out HK.out (.inr (.inl e2)))
          have g2 : decide (k.2 ≤ nn) = true := decide_eq_true e2
          go_wp2_with fail
          refine wp_region_k (by kernel_rfl) ?_
          refine wpAnyK_take 0 (v := ?_) rfl (by kernel_rfl) (by kernel_rfl) (by kernel_rfl) (fun _ _ _ h => h) (by rfl) (by intro W hSw; go_simp; with_reducible rfl) ?_; try simp only [Act.put, List.setIfInBounds_toArray, List.set_cons_zero, List.set_cons_succ]
          refine wpAnyK_take 1 (v := ?_) rfl (by kernel_rfl) (by kernel_rfl) (by kernel_rfl) (fun _ _ _ h => h) (by rfl) (by intro W hSw; go_simp; with_reducible rfl) ?_; try simp only [Act.put, List.setIfInBounds_toArray, List.set_cons_zero, List.set_cons_succ]
          refine wpAnyK_take 2 (v := ?_) rfl (by kernel_rfl) (by kernel_rfl) (by kernel_rfl) (fun _ _ _ h => h) (by rfl) (by intro W hSw; go_simp; with_reducible rfl) ?_; try simp only [Act.put, List.setIfInBounds_toArray, List.set_cons_zero, List.set_cons_succ]
          refine wpAnyK_take 3 (v := ?_) rfl (by kernel_rfl) (by kernel_rfl) (by kernel_rfl) (fun _ _ _ h => h) (by rfl) (by intro W hSw; go_simp; with_reducible rfl) ?_; try simp only [Act.put, List.setIfInBounds_toArray, List.set_cons_zero, List.set_cons_succ]
          refine wpAnyK_take 4 (v := ?_) rfl (by kernel_rfl) (by kernel_rfl) (by kernel_rfl) (fun _ _ _ h => h) (by rfl) (by intro W hSw; go_simp; with_reducible rfl) ?_; try simp only [Act.put, List.setIfInBounds_toArray, List.set_cons_zero, List.set_cons_succ]
          refine wpAnyK_take 5 (v := ?_) rfl (by kernel_rfl) (by kernel_rfl) (by kernel_rfl) (fun _ _ _ h => h) (by rfl) (by intro W hSw; go_simp; with_reducible rfl) ?_; try simp only [Act.put, List.setIfInBounds_toArray, List.set_cons_zero, List.set_cons_succ]
          refine wpAnyK_take 6 (v := ?_) rfl (by kernel_rfl) (by kernel_rfl) (by kernel_rfl) (fun _ _ _ h => h) (by rfl) (by intro W hSw; go_simp; with_reducible rfl) ?_; try simp only [Act.put, List.setIfInBounds_toArray, List.set_cons_zero, List.set_cons_succ]
          refine wpAnyK_take 7 (v := ?_) rfl (by kernel_rfl) (by kernel_rfl) (by kernel_rfl) (fun _ _ _ h => h) (by rfl) (by intro W hSw; go_simp; with_reducible rfl) ?_; try simp only [Act.put, List.setIfInBounds_toArray, List.set_cons_zero, List.set_cons_succ]
          refine wpAnyK_take 8 (v := ?_) rfl (by kernel_rfl) (by kernel_rfl) (by kernel_rfl) (fun _ _ _ h => h) (by rfl) (by intro W hSw; go_simp; with_reducible rfl) ?_; try simp only [Act.put, List.setIfInBounds_toArray, List.set_cons_zero, List.set_cons_succ]
          refine wpAnyK_take 9 (v := ?_) rfl (by kernel_rfl) (by kernel_rfl) (by kernel_rfl) (fun _ _ _ h => h) (by rfl) (by intro W hSw; go_simp; with_reducible rfl) ?_; try simp only [Act.put, List.setIfInBounds_toArray, List.set_cons_zero, List.set_cons_succ]
          refine wpAnyK_take 10 (v := ?_) rfl (by kernel_rfl) (by kernel_rfl) (by kernel_rfl) (fun _ _ _ h => h) (by rfl) (by intro W hSw; go_simp; with_reducible rfl) ?_; try simp only [Act.put, List.setIfInBounds_toArray, List.set_cons_zero, List.set_cons_succ]
          refine wpAnyK_take 11 (v := ?_) rfl (by kernel_rfl) (by kernel_rfl) (by kernel_rfl) (fun _ _ _ h => h) (by rfl) (by intro W hSw; go_simp; with_reducible rfl) ?_; try simp only [Act.put, List.setIfInBounds_toArray, List.set_cons_zero, List.set_cons_succ]
          refine wpAnyK_take 12 (v := ?_) rfl (by kernel_rfl) (by kernel_rfl) (by kernel_rfl) (fun _ _ _ h => h) (by rfl) (by intro W hSw; go_simp; with_reducible rfl) ?_; try simp only [Act.put, List.setIfInBounds_toArray, List.set_cons_zero, List.set_cons_succ]
          refine wpAnyK_take 13 (v := ?_) rfl (by kernel_rfl) (by kernel_rfl) (by kernel_rfl) (fun _ _ _ h => h) (by rfl) (by intro W hSw; go_simp; with_reducible rfl) ?_; try simp only [Act.put, List.setIfInBounds_toArray, List.set_cons_zero, List.set_cons_succ]
          refine wpAnyK_take 14 (v := ?_) rfl (by kernel_rfl) (by kernel_rfl) (by kernel_rfl) (fun _ _ _ h => h) (by rfl) (by intro W hSw; go_simp; with_reducible rfl) ?_; try simp only [Act.put, List.setIfInBounds_toArray, List.set_cons_zero, List.set_cons_succ]
          refine wpAnyK_take 15 (v := ?_) rfl (by kernel_rfl) (by kernel_rfl) (by kernel_rfl) (fun _ _ _ h => h) (by rfl) (by intro W hSw; go_simp; with_reducible rfl) ?_; try simp only [Act.put, List.setIfInBounds_toArray, List.set_cons_zero, List.set_cons_succ]
          refine wpAnyK_take 16 (v := ?_) rfl (by kernel_rfl) (by kernel_rfl) (by kernel_rfl) (fun _ _ _ h => h) (by rfl) (by intro W hSw; go_simp; with_reducible rfl) ?_; try simp only [Act.put, List.setIfInBounds_toArray, List.set_cons_zero, List.set_cons_succ]
          refine wpAnyK_take 17 (v := ?_) rfl (by kernel_rfl) (by kernel_rfl) (by kernel_rfl) (fun _ _ _ h => h) (by rfl) (by intro W hSw; go_simp; with_reducible rfl) ?_; try simp only [Act.put, List.setIfInBounds_toArray, List.set_cons_zero, List.set_cons_succ]
          refine wpAnyK_take 18 (v := ?_) rfl (by kernel_rfl) (by kernel_rfl) (by kernel_rfl) (fun _ _ _ h => h) (by rfl) (by intro W hSw; go_simp; with_reducible rfl) ?_; try simp only [Act.put, List.setIfInBounds_toArray, List.set_cons_zero, List.set_cons_succ]
          refine wpAnyK_take 19 (v := ?_) rfl (by kernel_rfl) (by kernel_rfl) (by kernel_rfl) (fun _ _ _ h => h) (by rfl) (by intro W hSw; go_simp; with_reducible rfl) ?_; try simp only [Act.put, List.setIfInBounds_toArray, List.set_cons_zero, List.set_cons_succ]
          refine wpAnyK_take 20 (v := ?_) rfl (by kernel_rfl) (by kernel_rfl) (by kernel_rfl) (fun _ _ _ h => h) (by rfl) (by intro W hSw; go_simp; with_reducible rfl) ?_; try simp only [Act.put, List.setIfInBounds_toArray, List.set_cons_zero, List.set_cons_succ]
          refine wpAnyK_take 21 (v := ?_) rfl (by kernel_rfl) (by kernel_rfl) (by kernel_rfl) (fun _ _ _ h => h) (by rfl) (by intro W hSw; go_simp; with_reducible rfl) ?_; try simp only [Act.put, List.setIfInBounds_toArray, List.set_cons_zero, List.set_cons_succ]
          refine wpAnyK_take 22 (v := ?_) rfl (by kernel_rfl) (by kernel_rfl) (by kernel_rfl) (fun _ _ _ h => h) (by rfl) (by intro W hSw; go_simp; with_reducible rfl) ?_; try simp only [Act.put, List.setIfInBounds_toArray, List.set_cons_zero, List.set_cons_succ]
          refine wpAnyK_take 23 (v := ?_) rfl (by kernel_rfl) (by kernel_rfl) (by kernel_rfl) (fun _ _ _ h => h) (by rfl) (by intro W hSw; go_simp; with_reducible rfl) ?_; try simp only [Act.put, List.setIfInBounds_toArray, List.set_cons_zero, List.set_cons_succ]
          refine wpAnyK_take 24 (v := ?_) rfl (by kernel_rfl) (by kernel_rfl) (by kernel_rfl) (fun _ _ _ h => h) (by rfl) (by intro W hSw; go_simp; with_reducible rfl) ?_; try simp only [Act.put, List.setIfInBounds_toArray, List.set_cons_zero, List.set_cons_succ]
          refine wpAnyK_done (by kernel_rfl) ?_ _
          go_wp2_with fail
          go_roundw
          case rel => exact ⟨i + 1, nn, by omega, by go_num, rfl, HG, hide_ (HB.out.trans (below_drewN (Later.refl _) 1))⟩
          case measure => simp [intOf]; omega
        · have g2 : decide (k.2 ≤ nn) = false := decide_eq_false e2
          have E1 := hide_ (show f < k.2 by omega)
          have E2 := hide_ (show nn < k.2 by omega)
          go_wp2_with fail
          refine wp_region_k (by kernel_rfl) ?_
          refine wpAnyK_take 0 (v := ?_) rfl (by kernel_rfl) (by kernel_rfl) (by kernel_rfl) (fun _ _ _ h => h) (by rfl) (by intro W hSw; go_simp; with_reducible rfl) ?_; try simp only [Act.put, List.setIfInBounds_toArray, List.set_cons_zero, List.set_cons_succ]
          refine wpAnyK_take 1 (v := ?_) rfl (by kernel_rfl) (by kernel_rfl) (by kernel_rfl) (fun _ _ _ h => h) (by rfl) (by intro W hSw; go_simp; with_reducible rfl) ?_; try simp only [Act.put, List.setIfInBounds_toArray, List.set_cons_zero, List.set_cons_succ]
          refine wpAnyK_take 2 (v := ?_) rfl (by kernel_rfl) (by kernel_rfl) (by kernel_rfl) (fun _ _ _ h => h) (by rfl) (by intro W hSw; go_simp; with_reducible rfl) ?_; try simp only [Act.put, List.setIfInBounds_toArray, List.set_cons_zero, List.set_cons_succ]
          refine wpAnyK_take 3 (v := ?_) rfl (by kernel_rfl) (by kernel_rfl) (by kernel_rfl) (fun _ _ _ h => h) (by rfl) (by intro W hSw; go_simp; with_reducible rfl) ?_; try simp only [Act.put, List.setIfInBounds_toArray, List.set_cons_zero, List.set_cons_succ]
          refine wpAnyK_take 4 (v := ?_) rfl (by kernel_rfl) (by kernel_rfl) (by kernel_rfl) (fun _ _ _ h => h) (by rfl) (by intro W hSw; go_simp; with_reducible rfl) ?_; try simp only [Act.put, List.setIfInBounds_toArray, List.set_cons_zero, List.set_cons_succ]
          refine wpAnyK_take 5 (v := ?_) rfl (by kernel_rfl) (by kernel_rfl) (by kernel_rfl) (fun _ _ _ h => h) (by rfl) (by intro W hSw; go_simp; with_reducible rfl) ?_; try simp only [Act.put, List.setIfInBounds_toArray, List.set_cons_zero, List.set_cons_succ]
          refine wpAnyK_take 6 (v := ?_) rfl (by kernel_rfl) (by kernel_rfl) (by kernel_rfl) (fun _ _ _ h => h) (by rfl) (by intro W hSw; go_simp; with_reducible rfl) ?_; try simp only [Act.put, List.setIfInBounds_toArray, List.set_cons_zero, List.set_cons_succ]
          refine wpAnyK_take 7 (v := ?_) rfl (by kernel_rfl) (by kernel_rfl) (by kernel_rfl) (fun _ _ _ h => h) (by rfl) (by intro W hSw; go_simp; with_reducible rfl) ?_; try simp only [Act.put, List.setIfInBounds_toArray, List.set_cons_zero, List.set_cons_succ]
          refine wpAnyK_take 8 (v := ?_) rfl (by kernel_rfl) (by kernel_rfl) (by kernel_rfl) (fun _ _ _ h => h) (by rfl) (by intro W hSw; go_simp; with_reducible rfl) ?_; try simp only [Act.put, List.setIfInBounds_toArray, List.set_cons_zero, List.set_cons_succ]
          refine wpAnyK_take 9 (v := ?_) rfl (by kernel_rfl) (by kernel_rfl) (by kernel_rfl) (fun _ _ _ h => h) (by rfl) (by intro W hSw; go_simp; with_reducible rfl) ?_; try simp only [Act.put, List.setIfInBounds_toArray, List.set_cons_zero, List.set_cons_succ]
          refine wpAnyK_take 10 (v := ?_) rfl (by kernel_rfl) (by kernel_rfl) (by kernel_rfl) (fun _ _ _ h => h) (by rfl) (by intro W hSw; go_simp; with_reducible rfl) ?_; try simp only [Act.put, List.setIfInBounds_toArray, List.set_cons_zero, List.set_cons_succ]
          refine wpAnyK_take 11 (v := ?_) rfl (by kernel_rfl) (by kernel_rfl) (by kernel_rfl) (fun _ _ _ h => h) (by rfl) (by intro W hSw; go_simp; with_reducible rfl) ?_; try simp only [Act.put, List.setIfInBounds_toArray, List.set_cons_zero, List.set_cons_succ]
          refine wpAnyK_take 12 (v := ?_) rfl (by kernel_rfl) (by kernel_rfl) (by kernel_rfl) (fun _ _ _ h => h) (by rfl) (by intro W hSw; go_simp; with_reducible rfl) ?_; try simp only [Act.put, List.setIfInBounds_toArray, List.set_cons_zero, List.set_cons_succ]
          refine wpAnyK_take 13 (v := ?_) rfl (by kernel_rfl) (by kernel_rfl) (by kernel_rfl) (fun _ _ _ h => h) (by rfl) (by intro W hSw; go_simp; with_reducible rfl) ?_; try simp only [Act.put, List.setIfInBounds_toArray, List.set_cons_zero, List.set_cons_succ]
          refine wpAnyK_take 14 (v := ?_) rfl (by kernel_rfl) (by kernel_rfl) (by kernel_rfl) (fun _ _ _ h => h) (by rfl) (by intro W hSw; go_simp; with_reducible rfl) ?_; try simp only [Act.put, List.setIfInBounds_toArray, List.set_cons_zero, List.set_cons_succ]
          refine wpAnyK_take 15 (v := ?_) rfl (by kernel_rfl) (by kernel_rfl) (by kernel_rfl) (fun _ _ _ h => h) (by rfl) (by intro W hSw; go_simp; with_reducible rfl) ?_; try simp only [Act.put, List.setIfInBounds_toArray, List.set_cons_zero, List.set_cons_succ]
          refine wpAnyK_take 16 (v := ?_) rfl (by kernel_rfl) (by kernel_rfl) (by kernel_rfl) (fun _ _ _ h => h) (by rfl) (by intro W hSw; go_simp; with_reducible rfl) ?_; try simp only [Act.put, List.setIfInBounds_toArray, List.set_cons_zero, List.set_cons_succ]
          refine wpAnyK_take 17 (v := ?_) rfl (by kernel_rfl) (by kernel_rfl) (by kernel_rfl) (fun _ _ _ h => h) (by rfl) (by intro W hSw; go_simp; with_reducible rfl) ?_; try simp only [Act.put, List.setIfInBounds_toArray, List.set_cons_zero, List.set_cons_succ]
          refine wpAnyK_take 18 (v := ?_) rfl (by kernel_rfl) (by kernel_rfl) (by kernel_rfl) (fun _ _ _ h => h) (by rfl) (by intro W hSw; go_simp; with_reducible rfl) ?_; try simp only [Act.put, List.setIfInBounds_toArray, List.set_cons_zero, List.set_cons_succ]
          refine wpAnyK_take 19 (v := ?_) rfl (by kernel_rfl) (by kernel_rfl) (by kernel_rfl) (fun _ _ _ h => h) (by rfl) (by intro W hSw; go_simp; with_reducible rfl) ?_; try simp only [Act.put, List.setIfInBounds_toArray, List.set_cons_zero, List.set_cons_succ]
          refine wpAnyK_take 20 (v := ?_) rfl (by kernel_rfl) (by kernel_rfl) (by kernel_rfl) (fun _ _ _ h => h) (by rfl) (by intro W hSw; go_simp; with_reducible rfl) ?_; try simp only [Act.put, List.setIfInBounds_toArray, List.set_cons_zero, List.set_cons_succ]
          refine wpAnyK_take 21 (v := ?_) rfl (by kernel_rfl) (by kernel_rfl) (by kernel_rfl) (fun _ _ _ h => h) (by rfl) (by intro W hSw; go_simp; with_reducible rfl) ?_; try simp only [Act.put, List.setIfInBounds_toArray, List.set_cons_zero, List.set_cons_succ]
          refine wpAnyK_take 22 (v := ?_) rfl (by kernel_rfl) (by kernel_rfl) (by kernel_rfl) (fun _ _ _ h => h) (by rfl) (by intro W hSw; go_simp; with_reducible rfl) ?_; try simp only [Act.put, List.setIfInBounds_toArray, List.set_cons_zero, List.set_cons_succ]
          refine wpAnyK_take 23 (v := ?_) rfl (by kernel_rfl) (by kernel_rfl) (by kernel_rfl) (fun _ _ _ h => h) (by rfl) (by intro W hSw; go_simp; with_reducible rfl) ?_; try simp only [Act.put, List.setIfInBounds_toArray, List.set_cons_zero, List.set_cons_succ]
          refine wpAnyK_take 24 (v := ?_) rfl (by kernel_rfl) (by kernel_rfl) (by kernel_rfl) (fun _ _ _ h => h) (by rfl) (by intro W hSw; go_simp; with_reducible rfl) ?_; try simp only [Act.put, List.setIfInBounds_toArray, List.set_cons_zero, List.set_cons_succ]
          refine wpAnyK_done (by kernel_rfl) ?_ _
          clear k0 k1 k2 m0 m1 l0 l1 l2 e1 e2
          have HBD := hide_ (show Later wr wr.drew from below_drewN (Later.refl _) 1)
          go_wp2_with fail
          refine (hle.out _ (HLT.out.trans HBD.out)).mono ?_; rintro e w5 ⟨⟨v, R, q, rfl, hq, hlw, ho5⟩, hb5⟩
          obtain ⟨A5, c5, rfl⟩ := own_form ho5
          have HB5 := hide_ (Later.trans HBD.out hb5); have HO5 := hide_ ho5; have HLW := hide_ hlw; have HQ := hide_ hq
          have hqb : q ≤ 4096 := by have := left_len hlw (by rw [HL.out]; exact hlt); rw [hq] at this; have := HN.out; omega
          have hqb2 : (q : Int) ≤ 4096 := by omega
          have HGE := hide_ (fun (x : Int) (h : Got R s nn k.2 R.length x) => got_end h HI.out HF.out HK.out E1.out E2.out hlw)
          have HRd := hide_ (Rd.of_own ho5)
          clear hle ho5 hb5 hlw hq
          go_wp2_with fail
          go_loopw [6, 9] (fun s6 s9 wr => ∃ (p : Nat) (x : Int), p ≤ q ∧ s9 = .int .i64 p ∧ s6 = .int .i64 x ∧ Hid (Got R s nn k.2 p x) ∧ Hid (Later w5 wr)) (fun _ s _ => q - (intOf s).toNat)
          case atStart => exact ⟨0, nn, Nat.zero_le _, rfl, rfl, hide_ (got_start _ _ _ _), hide_ (Later.refl _)⟩
          case round =>
            obtain ⟨p, x, hp, rfl, rfl, HG, HBq⟩ := hrel
            by_cases hpl : p < q
            · have r1 : (p : Int) < (q : Int) := by omega
              have r2 : (p : Int) ≤ 4096 := by omega
              have r3 : (0 : Int) ≤ (p : Int) := by omega
              obtain ⟨r, hr⟩ : ∃ r, R[p]? = some r := ⟨_, List.getElem?_eq_getElem (by rw [HQ.out]; exact hpl)⟩
              obtain ⟨b5, o5, rfl, y0, y1⟩ := (HRd.out.below HBq.out).span hr
              have HLq := hide_ (HB5.out.trans HBq.out)
              have hsx := (HB.out.block w.heap.size (heap_lt0 HBS.out)).trans HBS.out
              have hsq := (HLq.out.block w.heap.size (heap_lt0 hsx)).trans hsx
              have x0 := later_drew_cell (cell_of_row _ _ 0 _ _ (0, 0) hsq)
              have x1 := later_drew_cell (cell_of_row _ _ 1 _ _ (0, 0) hsq)
              have z0 := later_drew_cell y0
              have z1 := later_drew_cell y1
              have hmeet := hide_ (fun W => srmeet_any r s W)
              have HGY := hide_ (fun (h : (smeetS r s).1 < (smeetS r s).2) => got_yes (nn := nn) (v := k.2) hr h)
              have HGN := hide_ (fun (h : ¬ (smeetS r s).1 < (smeetS r s).2) => got_no HG.out hr h)
              have hgrw : w.heap.size + 1 ≤ wr.heap.size := by have := HLq.out.size; have := heap_lt0 hsx; omega
              obtain ⟨mm, hmm⟩ : ∃ mm, mm = smeetS r s := ⟨_, rfl⟩
              rw [← hmm] at hmeet HGY HGN
              clear hr hsx hsq hmm
              go_wp2_with fail
              apply wp_cut (F := fun bk W => Later wr.drew W ∧ wr.heap.size ≤ bk ∧ W.heap[bk]? = some (.cells #[.string mm.1, .string mm.2] 24 (0, 0)))
              case h1 =>
                refine wp_region_l [7] (by kernel_rfl) ?_
                refine wpAnyL_pure 0 (v := ?_) rfl (by kernel_rfl) (by kernel_rfl) (by kernel_rfl) (fun _ _ _ h => h) (by rfl) (by intro W; go_simp; with_reducible rfl) ?_; try simp only [Act.put, List.setIfInBounds_toArray, List.set_cons_zero, List.set_cons_succ]
                refine wpAnyL_pure 1 (v := ?_) rfl (by kernel_rfl) (by kernel_rfl) (by kernel_rfl) (fun _ _ _ h => h) (by rfl) (by intro W; go_simp; with_reducible rfl) ?_; try simp only [Act.put, List.setIfInBounds_toArray, List.set_cons_zero, List.set_cons_succ]
                refine wpAnyL_pure 2 (v := ?_) rfl (by kernel_rfl) (by kernel_rfl) (by kernel_rfl) (fun _ _ _ h => h) (by rfl) (by intro W; go_simp; with_reducible rfl) ?_; try simp only [Act.put, List.setIfInBounds_toArray, List.set_cons_zero, List.set_cons_succ]
                refine wpAnyL_take 3 (v := ?_) rfl (by kernel_rfl) (by kernel_rfl) (by kernel_rfl) (by kernel_rfl) (fun _ _ _ h => h) (by rfl) (by intro W hSw; go_simp; with_reducible rfl) ?_; try simp only [Act.put, List.setIfInBounds_toArray, List.set_cons_zero, List.set_cons_succ]
                refine wpAnyL_take 4 (v := ?_) rfl (by kernel_rfl) (by kernel_rfl) (by kernel_rfl) (by kernel_rfl) (fun _ _ _ h => h) (by rfl) (by intro W hSw; go_simp; with_reducible rfl) ?_; try simp only [Act.put, List.setIfInBounds_toArray, List.set_cons_zero, List.set_cons_succ]
                refine wpAnyL_two 5 6 (by kernel_rfl) rfl rfl (fun K hK => ?_) (fun K hK => ?_)
                · skip
                  go_simp
                  refine (hmeet.out _).mono ?_; rintro e w12 ⟨rfl, hb12⟩; first | (have zr : w12.heap[wr.heap.size]? = some (.cells #[.string ByteArray.empty, .string ByteArray.empty] 24 (0, 0)) := row_al_later (W := wr.drew) (Z := (.cells #[.string ByteArray.empty, .string ByteArray.empty] 24)) hb12; have z0 := cell_of_row _ _ 0 _ _ (0, 0) zr; have z1 := cell_of_row _ _ 1 _ _ (0, 0) zr; have z2 := frozen_of_row _ _ 0 _ _ zr; have z3 := frozen_of_row _ _ 1 _ _ zr) | skip
                  first | refine hK.out _ _ (by assumption) ?_ | refine hK.out _ _ (Later.refl _) ?_ | refine hK.out _ _ (Below.alloc (Below.refl _ _) (Nat.le_refl _) _) ?_
                  clear hK K; try simp only [Act.put, List.setIfInBounds_toArray, List.set_cons_zero, List.set_cons_succ]
                  refine wpAnyL_one 6 (by kernel_rfl) rfl (fun K hK => ?_)
                  go_simp
                  first | refine hK.out _ _ (by assumption) ?_ | refine hK.out _ _ (Later.refl _) ?_ | refine hK.out _ _ (Below.alloc (Below.refl _ _) (Nat.le_refl _) _) ?_
                  clear hK K; try simp only [Act.put, List.setIfInBounds_toArray, List.set_cons_zero, List.set_cons_succ]
                  refine wpAnyL_loud 7 (by kernel_rfl) (by rfl) rfl (fun K hK => ?_)
                  go_simp
                  refine hK.out _ _ ?_
                  clear hK K; try simp only [Act.put, List.setIfInBounds_toArray, List.set_cons_zero, List.set_cons_succ]
                  refine wpAnyL_done (by kernel_rfl) ?_ _
                  (first | (have hl := hb12; have hgr2 := Below.size hl; generalize hbk : w12.heap.size = bk at *; exact cut_leaf bk rfl ⟨hl.trans (later_alloc _ _), hgr2, by rw [← hbk]; exact heap_alloc_new _ _⟩) | (have hl := (later_alloc wr.drew (.cells #[.string ByteArray.empty, .string ByteArray.empty] 24)).trans hb12; generalize hbk : wr.heap.size = bk at *; have ht := set_two2 (u := .string mm.1) (v := .string mm.2) hl (by have : wr.drew.heap.size = bk := hbk; omega) zr; exact cut_leaf bk rfl ⟨ht.1, Nat.le_refl _, ht.2.2⟩))
                · skip
                  go_simp
                  first | refine hK.out _ _ (by assumption) ?_ | refine hK.out _ _ (Later.refl _) ?_ | refine hK.out _ _ (Below.alloc (Below.refl _ _) (Nat.le_refl _) _) ?_
                  clear hK K; try simp only [Act.put, List.setIfInBounds_toArray, List.set_cons_zero, List.set_cons_succ]
                  refine wpAnyL_one 5 (by kernel_rfl) rfl (fun K hK => ?_)
                  go_simp
                  refine (hmeet.out _).mono ?_; rintro e w12 ⟨rfl, hb12⟩; first | (have zr : w12.heap[wr.heap.size]? = some (.cells #[.string ByteArray.empty, .string ByteArray.empty] 24 (0, 0)) := row_al_later (W := wr.drew) (Z := (.cells #[.string ByteArray.empty, .string ByteArray.empty] 24)) hb12; have z0 := cell_of_row _ _ 0 _ _ (0, 0) zr; have z1 := cell_of_row _ _ 1 _ _ (0, 0) zr; have z2 := frozen_of_row _ _ 0 _ _ zr; have z3 := frozen_of_row _ _ 1 _ _ zr) | skip
                  first | refine hK.out _ _ (by assumption) ?_ | refine hK.out _ _ (Later.refl _) ?_ | refine hK.out _ _ (Below.alloc (Below.refl _ _) (Nat.le_refl _) _) ?_
                  clear hK K; try simp only [Act.put, List.setIfInBounds_toArray, List.set_cons_zero, List.set_cons_succ]
                  refine wpAnyL_loud 7 (by kernel_rfl) (by rfl) rfl (fun K hK => ?_)
                  go_simp
                  refine hK.out _ _ ?_
                  clear hK K; try simp only [Act.put, List.setIfInBounds_toArray, List.set_cons_zero, List.set_cons_succ]
                  refine wpAnyL_done (by kernel_rfl) ?_ _
                  (first | (have hl := hb12; have hgr2 := Below.size hl; generalize hbk : w12.heap.size = bk at *; exact cut_leaf bk rfl ⟨hl.trans (later_alloc _ _), hgr2, by rw [← hbk]; exact heap_alloc_new _ _⟩) | (have hl := (later_alloc wr.drew (.cells #[.string ByteArray.empty, .string ByteArray.empty] 24)).trans hb12; generalize hbk : wr.heap.size = bk at *; have ht := set_two2 (u := .string mm.1) (v := .string mm.2) hl (by have : wr.drew.heap.size = bk := hbk; omega) zr; exact cut_leaf bk rfl ⟨ht.1, Nat.le_refl _, ht.2.2⟩))
              case h2 =>
                rintro bk Wk ⟨hFL, hbk, hmr⟩
                have hFB := Later.trans ((Below.refl _ _).drew) hFL
                have HFB := hide_ (show Later wr Wk from hFB)
                have hm2 := (((HLq.out.trans hFB)).block B (heap_lt0 HMX.out)).trans HMX.out
                have m0 := cell_of_row _ _ 0 _ _ (0, 0) hm2
                have g0 := cell_of_row _ _ 0 _ _ (0, 0) hmr
                have g1 := cell_of_row _ _ 1 _ _ (0, 0) hmr
                obtain ⟨b6, o6, hbo, l0, l1, l2⟩ := (HR2.out.below (HLq.out.trans hFB)).mark HK.out
                injection hbo with hbo; injection hbo with hb1 hb2; subst hb1; subst hb2
                clear hFL hmr hFB hm2 hbk x0 x1 z0 z1 y0 y1
                by_cases hlt2 : mm.1 < mm.2
                · have g2 := (bl _ _).trans (decide_eq_true hlt2)
                  have HGY2 := hide_ (HGY.out hlt2)
                  clear hlt2
                  go_wp2_with fail
                  go_roundw
                  case rel => exact ⟨p + 1, k.2, by omega, by go_num, rfl, HGY2, hide_ (HBq.out.trans HFB.out)⟩
                  case measure => simp [intOf]; omega
                · have g2 := (bl _ _).trans (decide_eq_false hlt2)
                  have HGN2 := hide_ (HGN.out hlt2)
                  clear hlt2
                  go_wp2_with fail
                  go_roundw
                  case rel => exact ⟨p + 1, x, by omega, by go_num, rfl, HGN2, hide_ (HBq.out.trans HFB.out)⟩
                  case measure => simp [intOf]; omega
            · have r1 : ¬ (p : Int) < (q : Int) := by omega
              obtain rfl : p = q := by omega
              have HGE2 := hide_ (HGE.out x (by rw [HQ.out]; exact HG.out))
              go_wp2_with fail
              go_roundw
              case rel => exact ⟨i + 1, x, by omega, by go_num, rfl, HGE2, hide_ (HB.out.trans (HB5.out.trans HBq.out))⟩
              case measure => simp [intOf]; omega
    · have q1 : ¬ (i : Int) < (n : Int) := by omega
      obtain rfl : i = n := by omega
      have HF2 := hide_ (HE.out nn (by rw [HL.out]; exact HI.out))
      go_wp2_with fail
      go_ret2
      refine ⟨?_, HLT.out⟩
      rw [HF2.out]
      first | done | rfl

end Go.Proofs.Ytidlkomgondkiaa
