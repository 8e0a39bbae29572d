/-
  The document's clock: Pass.
-/
import Derived.Test.YtinfeajbnhkkiaaRClock
namespace Go.Proofs.Ytinfeajbnhkkiaa
open Go.RowKit
set_option linter.unusedVariables false
set_option linter.unusedSimpArgs false
theorem due_of {t : Int} : ∀ {M : List Bel} {k : Nat}, (∀ i y, i < k → M[i]? = some y → y.2 ≤ t) → (k = M.length ∨ ∃ y, M[k]? = some y ∧ t < y.2) → dueB t M = M.take k ∧ restB t M = M.drop k
  | [], k, _, h => by simp [dueB, restB]
  | y :: M, 0, _, h => by
    rcases h with h | ⟨z, hz, hn⟩
    · simp at h
    · simp at hz; subst hz
      unfold dueB restB
      rw [List.takeWhile_cons_of_neg (by simp; omega), List.dropWhile_cons_of_neg (by simp; omega)]; simp
  | y :: M, k + 1, h1, h => by
    have hy : y.2 ≤ t := h1 0 y (by omega) rfl
    have ih := due_of (t := t) (M := M) (k := k) (fun i z hi hz => h1 (i + 1) z (by omega) (by simpa using hz)) (by
      rcases h with h | ⟨z, hz, hn⟩
      · left; simpa using h
      · right; exact ⟨z, by simpa using hz, hn⟩)
    unfold dueB restB at *
    rw [List.takeWhile_cons_of_pos (by simpa using hy), List.dropWhile_cons_of_pos (by simpa using hy), ih.1, ih.2]
    simp
def RPassPost (R : Nat) (t k : Int) (L : List Bel) (w : World) (e : Ending) (w' : World) : Prop :=
  (k < 0 ∧ e = .returned (.tuple #[.slice none 0 0, .int .i64 1]) ∧ Later w w') ∨ (0 ≤ k ∧ 1099511627776 - t < k ∧ e = .returned (.tuple #[.slice none 0 0, .int .i64 5]) ∧ Later w w') ∨
  (0 ≤ k ∧ k ≤ 1099511627776 - t ∧ ∃ A m c, e = .returned (.tuple #[.slice A m c, .int .i64 0]) ∧ (dueB (t + k) L).length = m ∧ w'.ownsRow w.heap.size 3 1 (.slice A m c) m (ints ((dueB (t + k) L).map (·.1))) ∧ RK w' R (t + k) (restB (t + k) L) ∧ w.grownBy w' (some R))
/-- How many bells are left in the document's clock, read off the world. -/
def leftR (w : World) (R : Nat) : Nat := match w.heap[R]? with | some (Obj.cells cs _ _) => (match cs.getD 1 undef with | Value.slice _ m _ => m | _ => 0) | _ => 0
theorem leftR_eq {w : World} {R n c : Nat} {t : Int} {A : Option Addr} (h : RAt w R t (.slice A n c)) : leftR w R = n := by unfold leftR RAt at *; rw [h]; rfl
/-- The clock's bells, from a place on. -/
def RLeft (w : World) (R : Nat) (t : Int) (L : List Bel) (j m : Nat) (A : Option Addr) (c : Nat) : Prop := RAt w R t (.slice A m c) ∧ Rd w 2 A m (brow (L.drop j)) ∧ (A = none → c = 0) ∧ ∀ b o, A = some ⟨b, o, none⟩ → R < b
set_option maxRecDepth 100000 in
set_option maxHeartbeats 8000000 in
theorem rpass_any {w : World} {R : Nat} {t : Int} {L : List Bel} (k : Int) (h : RK w R t L) (hn : L.length ≤ 4096) (h0 : 0 ≤ t) (h1 : t ≤ 1099511627776) (hk : k ≤ 9223372036854775807) :
    Calls Try.prog 15 #[.pointer (some ⟨R, 0, none⟩), .int .i64 k] w (RPassPost R t k L w) := by
  obtain ⟨A, n, c, h2, h3, h4, h5, h6, h7⟩ := h
  have H2 := hide_ h2; have H3 := hide_ h3; have HL := hide_ h4; have H6 := hide_ h6; have H7 := hide_ h7
  have m0 := cell_of_row _ _ 0 _ _ (0, 0) h2
  have f0 := frozen_of_row _ _ 0 _ _ h2
  have hRw := theap_lt h2
  have hn4 : n ≤ 4096 := by omega
  clear h2 h3 h4 h6 h7
  by_cases e1 : k < 0
  · go_enter Try.func15, Try.ntmps15
    go_wp2_with fail
    go_ret2
    exact .inl ⟨e1, rfl, Later.refl _⟩
  · by_cases e2 : 1099511627776 - t < k
    · go_enter Try.func15, Try.ntmps15
      go_wp2_with fail
      go_ret2
      exact .inr (.inl ⟨by omega, e2, rfl, Later.refl _⟩)
    · have e3 : 0 ≤ k := by omega
      have e4 : k ≤ 1099511627776 - t := by omega
      have t1 : t + k ≤ 1099511627776 := by omega
      have t0 : 0 ≤ t + k := by omega
      obtain ⟨W1, hW1⟩ : ∃ W1, W1 = (w.setCell ⟨R, 0, none⟩ (.int .i64 (t + k))).alloc (.cells #[] 3) := ⟨_, rfl⟩
      have HW1 := hide_ hW1.symm
      have hr1 : RAt (w.setCell ⟨R, 0, none⟩ (.int .i64 (t + k))) R (t + k) (.slice A n c) := by have := heap_setCell_same w R 0 _ _ (.int .i64 (t + k)) H2.out; unfold RAt; simpa using this
      have hrd : Rd (w.setCell ⟨R, 0, none⟩ (.int .i64 (t + k))) 2 A n (brow L) := by
        refine ⟨H3.out.1, fun hp => ?_⟩
        obtain ⟨b, o, e, hc⟩ := H3.out.2 hp
        exact ⟨b, o, e, fun j u hu => by rw [World.cell?_of_block (Below.heap_setCell _ _ _ _ (fun e2 => by have e2 : b = R := e2; have := H7.out b o e; omega))]; exact hc j u hu⟩
      have hsz : (w.setCell ⟨R, 0, none⟩ (.int .i64 (t + k))).heap.size = w.heap.size := by simp [World.setCell]
      have HS := hide_ (show RLeft W1 R (t + k) L 0 n A c from by rw [hW1]; exact ⟨row_al hr1 _, hrd.alloc _, H6.out, H7.out⟩)
      have HO := hide_ (show W1.ownsRow w.heap.size 3 1 (.slice (some ⟨w.heap.size, 0, none⟩) 0 0) 0 (ints ((L.take 0).map (·.1))) by rw [hW1, ← hsz]; exact own_new _ #[] 3 1 0 _ rfl (Nat.zero_le _) (Nat.le_refl _))
      have HG := hide_ (show w.grownBy W1 (some R) by rw [hW1]; exact grown_alloc (grown_setCell (World.grownBy.refl w (some R)) (.inl rfl) _) _)
      have HBB := hide_ (show ∀ b o, A = some ⟨b, o, none⟩ → 0 < n → b < w.heap.size from fun b o e hp => by
        obtain ⟨b', o', e', hc⟩ := H3.out.2 (by rw [H3.out.1]; omega)
        rw [e] at e'; injection e' with e'; injection e' with e' _; subst e'
        obtain ⟨u, hu⟩ : ∃ u, (brow L)[0]? = some u := ⟨_, List.getElem?_eq_getElem (by rw [H3.out.1]; omega)⟩
        exact cell_lt (hc 0 u hu))
      clear hW1 hr1 hrd hsz
      go_enter Try.func15, Try.ntmps15
      go_wp2_with (rw [HW1.out])
      clear m0 f0
      go_loopw [6] (fun s6 wr => ∃ (j m : Nat) (A : Option Addr) (c : Nat), j + m = n ∧ m ≤ c ∧ Hid (RLeft wr R (t + k) L j m A c) ∧ Hid (∀ i y, i < j → L[i]? = some y → y.2 ≤ t + k) ∧ Hid (wr.ownsRow w.heap.size 3 1 s6 j (ints ((L.take j).map (·.1)))) ∧ Hid (w.grownBy wr (some R)) ∧ Hid (∀ b o, A = some ⟨b, o, none⟩ → 0 < m → b < w.heap.size)) (fun _ wr => leftR wr R)
      case atStart => exact ⟨0, n, A, c, by omega, h5, HS, hide_ (fun i y hi => by omega), HO, HG, HBB⟩
      case round =>
        obtain ⟨j, m, A, c, hjm, hmc, HR, HK, HO, HG, HBB⟩ := hrel
        obtain ⟨A6, c6, rfl⟩ := own_form HO.out
        obtain ⟨r1, r2, r3, r4⟩ := HR.out
        have HR1 := hide_ r1; have HR2 := hide_ r2; have HR3 := hide_ r3; have HR4 := hide_ r4
        have k0 := later_drew_cell (cell_of_row _ _ 0 _ _ (0, 0) r1)
        have k1 := later_drew_cell (cell_of_row _ _ 1 _ _ (0, 0) r1)
        have hm4 : (m : Int) ≤ 4096 := by omega
        have hgw : w.heap.size ≤ wr.heap.size := HG.out.size
        clear r1 r2 r3 r4
        by_cases hm0 : m = 0
        · have q0 : ¬ (0 : Int) < (m : Int) := by omega
          have q1 : decide ((0 : Int) < (m : Int)) = false := decide_eq_false q0
          have q2 : decide (0 < m) = false := decide_eq_false (by omega)
          have HD := hide_ (due_of (M := L) (k := j) HK.out (.inl (by have := HL.out; omega)))
          have HJ := hide_ hjm
          clear hm0 hjm
          go_wp2_with fail
          refine wp_region_k (by kernel_rfl) ?_
          refine wpAnyK_take 0 (v := ?_) rfl (by kernel_rfl) (by kernel_rfl) (by kernel_rfl) (fun _ _ _ h => h) (by rfl) (by intro W hSw; go_simp; with_reducible rfl) ?_; try simp only [Act.put, List.setIfInBounds_toArray, List.set_cons_zero, List.set_cons_succ]
          refine wpAnyK_take 1 (v := ?_) rfl (by kernel_rfl) (by kernel_rfl) (by kernel_rfl) (fun _ _ _ h => h) (by rfl) (by intro W hSw; go_simp; with_reducible rfl) ?_; try simp only [Act.put, List.setIfInBounds_toArray, List.set_cons_zero, List.set_cons_succ]
          refine wpAnyK_take 2 (v := ?_) rfl (by kernel_rfl) (by kernel_rfl) (by kernel_rfl) (fun _ _ _ h => h) (by rfl) (by intro W hSw; go_simp; with_reducible rfl) ?_; try simp only [Act.put, List.setIfInBounds_toArray, List.set_cons_zero, List.set_cons_succ]
          refine wpAnyK_take 3 (v := ?_) rfl (by kernel_rfl) (by kernel_rfl) (by kernel_rfl) (fun _ _ _ h => h) (by rfl) (by intro W hSw; go_simp; with_reducible rfl) ?_; try simp only [Act.put, List.setIfInBounds_toArray, List.set_cons_zero, List.set_cons_succ]
          refine wpAnyK_take 4 (v := ?_) rfl (by kernel_rfl) (by kernel_rfl) (by kernel_rfl) (fun _ _ _ h => h) (by rfl) (by intro W hSw; go_simp; with_reducible rfl) ?_; try simp only [Act.put, List.setIfInBounds_toArray, List.set_cons_zero, List.set_cons_succ]
          refine wpAnyK_take 5 (v := ?_) rfl (by kernel_rfl) (by kernel_rfl) (by kernel_rfl) (fun _ _ _ h => h) (by rfl) (by intro W hSw; go_simp; with_reducible rfl) ?_; try simp only [Act.put, List.setIfInBounds_toArray, List.set_cons_zero, List.set_cons_succ]
          refine wpAnyK_take 6 (v := ?_) rfl (by kernel_rfl) (by kernel_rfl) (by kernel_rfl) (fun _ _ _ h => h) (by rfl) (by intro W hSw; go_simp; with_reducible rfl) ?_; try simp only [Act.put, List.setIfInBounds_toArray, List.set_cons_zero, List.set_cons_succ]
          refine wpAnyK_skip 7 rfl (by kernel_rfl) (by kernel_rfl) (by kernel_rfl) (fun _ _ _ h => h) (by rfl) ?_; try simp only [Act.put, List.setIfInBounds_toArray, List.set_cons_zero, List.set_cons_succ]
          refine wpAnyK_skip 8 rfl (by kernel_rfl) (by kernel_rfl) (by kernel_rfl) (fun _ _ _ h => h) (by rfl) ?_; try simp only [Act.put, List.setIfInBounds_toArray, List.set_cons_zero, List.set_cons_succ]
          refine wpAnyK_skip 9 rfl (by kernel_rfl) (by kernel_rfl) (by kernel_rfl) (fun _ _ _ h => h) (by rfl) ?_; try simp only [Act.put, List.setIfInBounds_toArray, List.set_cons_zero, List.set_cons_succ]
          refine wpAnyK_skip 10 rfl (by kernel_rfl) (by kernel_rfl) (by kernel_rfl) (fun _ _ _ h => h) (by rfl) ?_; try simp only [Act.put, List.setIfInBounds_toArray, List.set_cons_zero, List.set_cons_succ]
          refine wpAnyK_skip 11 rfl (by kernel_rfl) (by kernel_rfl) (by kernel_rfl) (fun _ _ _ h => h) (by rfl) ?_; try simp only [Act.put, List.setIfInBounds_toArray, List.set_cons_zero, List.set_cons_succ]
          refine wpAnyK_skip 12 rfl (by kernel_rfl) (by kernel_rfl) (by kernel_rfl) (fun _ _ _ h => h) (by rfl) ?_; try simp only [Act.put, List.setIfInBounds_toArray, List.set_cons_zero, List.set_cons_succ]
          refine wpAnyK_skip 13 rfl (by kernel_rfl) (by kernel_rfl) (by kernel_rfl) (fun _ _ _ h => h) (by rfl) ?_; try simp only [Act.put, List.setIfInBounds_toArray, List.set_cons_zero, List.set_cons_succ]
          refine wpAnyK_skip 14 rfl (by kernel_rfl) (by kernel_rfl) (by kernel_rfl) (fun _ _ _ h => h) (by rfl) ?_; try simp only [Act.put, List.setIfInBounds_toArray, List.set_cons_zero, List.set_cons_succ]
          refine wpAnyK_skip 15 rfl (by kernel_rfl) (by kernel_rfl) (by kernel_rfl) (fun _ _ _ h => h) (by rfl) ?_; try simp only [Act.put, List.setIfInBounds_toArray, List.set_cons_zero, List.set_cons_succ]
          refine wpAnyK_skip 16 rfl (by kernel_rfl) (by kernel_rfl) (by kernel_rfl) (fun _ _ _ h => h) (by rfl) ?_; try simp only [Act.put, List.setIfInBounds_toArray, List.set_cons_zero, List.set_cons_succ]
          refine wpAnyK_skip 17 rfl (by kernel_rfl) (by kernel_rfl) (by kernel_rfl) (fun _ _ _ h => h) (by rfl) ?_; try simp only [Act.put, List.setIfInBounds_toArray, List.set_cons_zero, List.set_cons_succ]
          refine wpAnyK_skip 18 rfl (by kernel_rfl) (by kernel_rfl) (by kernel_rfl) (fun _ _ _ h => h) (by rfl) ?_; try simp only [Act.put, List.setIfInBounds_toArray, List.set_cons_zero, List.set_cons_succ]
          refine wpAnyK_take 19 (v := ?_) rfl (by kernel_rfl) (by kernel_rfl) (by kernel_rfl) (fun _ _ _ h => h) (by rfl) (by intro W hSw; go_simp; with_reducible rfl) ?_; try simp only [Act.put, List.setIfInBounds_toArray, List.set_cons_zero, List.set_cons_succ]
          refine wpAnyK_done (by kernel_rfl) ?_ _
          go_wp2_with fail
          go_ret2
          refine .inr (.inr ⟨e3, e4, A6, j, c6, rfl, ?_, ?_, ⟨A, m, c, HR1.out, ?_, ?_, hmc, HR3.out, HR4.out⟩, grown_drew HG.out⟩)
          · rw [HD.out.1, List.length_take]; have := HL.out; have := HJ.out; omega
          · rw [HD.out.1]; exact HO.out
          · rw [HD.out.2]; exact HR2.out
          · rw [HD.out.2, List.length_drop]; have := HL.out; have := HJ.out; omega
        · have q0 : (0 : Int) < (m : Int) := by omega
          have q1 : decide ((0 : Int) < (m : Int)) = true := decide_eq_true q0
          have q2 : decide (0 < m) = true := decide_eq_true (by omega)
          have q3 : 0 < m := by omega
          obtain ⟨x, hx⟩ : ∃ x, L[j]? = some x := ⟨_, List.getElem?_eq_getElem (by have := HL.out; omega)⟩
          obtain ⟨b, o, rfl, l0, l1⟩ := HR2.out.bell (i := 0) (x := x) (by rw [List.getElem?_drop]; exact hx)
          simp only [Nat.zero_mul, Nat.add_zero] at l0 l1
          have k2 := later_drew_cell l0
          have k3 := later_drew_cell l1
          have hj4 : j ≤ 4096 := by omega
          have HJ := hide_ hjm
          have HX := hide_ hx
          clear hjm hx
          by_cases hxt : x.2 ≤ t + k
          · have g1 : decide (x.2 ≤ t + k) = true := decide_eq_true hxt
            go_wp2_with fail
            refine wp_region_k (by kernel_rfl) ?_
            refine wpAnyK_take 0 (v := ?_) rfl (by kernel_rfl) (by kernel_rfl) (by kernel_rfl) (fun _ _ _ h => h) (by rfl) (by intro W hSw; go_simp; with_reducible rfl) ?_; try simp only [Act.put, List.setIfInBounds_toArray, List.set_cons_zero, List.set_cons_succ]
            refine wpAnyK_take 1 (v := ?_) rfl (by kernel_rfl) (by kernel_rfl) (by kernel_rfl) (fun _ _ _ h => h) (by rfl) (by intro W hSw; go_simp; with_reducible rfl) ?_; try simp only [Act.put, List.setIfInBounds_toArray, List.set_cons_zero, List.set_cons_succ]
            refine wpAnyK_take 2 (v := ?_) rfl (by kernel_rfl) (by kernel_rfl) (by kernel_rfl) (fun _ _ _ h => h) (by rfl) (by intro W hSw; go_simp; with_reducible rfl) ?_; try simp only [Act.put, List.setIfInBounds_toArray, List.set_cons_zero, List.set_cons_succ]
            refine wpAnyK_take 3 (v := ?_) rfl (by kernel_rfl) (by kernel_rfl) (by kernel_rfl) (fun _ _ _ h => h) (by rfl) (by intro W hSw; go_simp; with_reducible rfl) ?_; try simp only [Act.put, List.setIfInBounds_toArray, List.set_cons_zero, List.set_cons_succ]
            refine wpAnyK_take 4 (v := ?_) rfl (by kernel_rfl) (by kernel_rfl) (by kernel_rfl) (fun _ _ _ h => h) (by rfl) (by intro W hSw; go_simp; with_reducible rfl) ?_; try simp only [Act.put, List.setIfInBounds_toArray, List.set_cons_zero, List.set_cons_succ]
            refine wpAnyK_take 5 (v := ?_) rfl (by kernel_rfl) (by kernel_rfl) (by kernel_rfl) (fun _ _ _ h => h) (by rfl) (by intro W hSw; go_simp; with_reducible rfl) ?_; try simp only [Act.put, List.setIfInBounds_toArray, List.set_cons_zero, List.set_cons_succ]
            refine wpAnyK_take 6 (v := ?_) rfl (by kernel_rfl) (by kernel_rfl) (by kernel_rfl) (fun _ _ _ h => h) (by rfl) (by intro W hSw; go_simp; with_reducible rfl) ?_; try simp only [Act.put, List.setIfInBounds_toArray, List.set_cons_zero, List.set_cons_succ]
            refine wpAnyK_take 7 (v := ?_) rfl (by kernel_rfl) (by kernel_rfl) (by kernel_rfl) (fun _ _ _ h => h) (by rfl) (by intro W hSw; go_simp; with_reducible rfl) ?_; try simp only [Act.put, List.setIfInBounds_toArray, List.set_cons_zero, List.set_cons_succ]
            refine wpAnyK_take 8 (v := ?_) rfl (by kernel_rfl) (by kernel_rfl) (by kernel_rfl) (fun _ _ _ h => h) (by rfl) (by intro W hSw; go_simp; with_reducible rfl) ?_; try simp only [Act.put, List.setIfInBounds_toArray, List.set_cons_zero, List.set_cons_succ]
            refine wpAnyK_take 9 (v := ?_) rfl (by kernel_rfl) (by kernel_rfl) (by kernel_rfl) (fun _ _ _ h => h) (by rfl) (by intro W hSw; go_simp; with_reducible rfl) ?_; try simp only [Act.put, List.setIfInBounds_toArray, List.set_cons_zero, List.set_cons_succ]
            refine wpAnyK_take 10 (v := ?_) rfl (by kernel_rfl) (by kernel_rfl) (by kernel_rfl) (fun _ _ _ h => h) (by rfl) (by intro W hSw; go_simp; with_reducible rfl) ?_; try simp only [Act.put, List.setIfInBounds_toArray, List.set_cons_zero, List.set_cons_succ]
            refine wpAnyK_take 11 (v := ?_) rfl (by kernel_rfl) (by kernel_rfl) (by kernel_rfl) (fun _ _ _ h => h) (by rfl) (by intro W hSw; go_simp; with_reducible rfl) ?_; try simp only [Act.put, List.setIfInBounds_toArray, List.set_cons_zero, List.set_cons_succ]
            refine wpAnyK_take 12 (v := ?_) rfl (by kernel_rfl) (by kernel_rfl) (by kernel_rfl) (fun _ _ _ h => h) (by rfl) (by intro W hSw; go_simp; with_reducible rfl) ?_; try simp only [Act.put, List.setIfInBounds_toArray, List.set_cons_zero, List.set_cons_succ]
            refine wpAnyK_take 13 (v := ?_) rfl (by kernel_rfl) (by kernel_rfl) (by kernel_rfl) (fun _ _ _ h => h) (by rfl) (by intro W hSw; go_simp; with_reducible rfl) ?_; try simp only [Act.put, List.setIfInBounds_toArray, List.set_cons_zero, List.set_cons_succ]
            refine wpAnyK_take 14 (v := ?_) rfl (by kernel_rfl) (by kernel_rfl) (by kernel_rfl) (fun _ _ _ h => h) (by rfl) (by intro W hSw; go_simp; with_reducible rfl) ?_; try simp only [Act.put, List.setIfInBounds_toArray, List.set_cons_zero, List.set_cons_succ]
            refine wpAnyK_take 15 (v := ?_) rfl (by kernel_rfl) (by kernel_rfl) (by kernel_rfl) (fun _ _ _ h => h) (by rfl) (by intro W hSw; go_simp; with_reducible rfl) ?_; try simp only [Act.put, List.setIfInBounds_toArray, List.set_cons_zero, List.set_cons_succ]
            refine wpAnyK_take 16 (v := ?_) rfl (by kernel_rfl) (by kernel_rfl) (by kernel_rfl) (fun _ _ _ h => h) (by rfl) (by intro W hSw; go_simp; with_reducible rfl) ?_; try simp only [Act.put, List.setIfInBounds_toArray, List.set_cons_zero, List.set_cons_succ]
            refine wpAnyK_take 17 (v := ?_) rfl (by kernel_rfl) (by kernel_rfl) (by kernel_rfl) (fun _ _ _ h => h) (by rfl) (by intro W hSw; go_simp; with_reducible rfl) ?_; try simp only [Act.put, List.setIfInBounds_toArray, List.set_cons_zero, List.set_cons_succ]
            refine wpAnyK_take 18 (v := ?_) rfl (by kernel_rfl) (by kernel_rfl) (by kernel_rfl) (fun _ _ _ h => h) (by rfl) (by intro W hSw; go_simp; with_reducible rfl) ?_; try simp only [Act.put, List.setIfInBounds_toArray, List.set_cons_zero, List.set_cons_succ]
            refine wpAnyK_take 19 (v := ?_) rfl (by kernel_rfl) (by kernel_rfl) (by kernel_rfl) (fun _ _ _ h => h) (by rfl) (by intro W hSw; go_simp; with_reducible rfl) ?_; try simp only [Act.put, List.setIfInBounds_toArray, List.set_cons_zero, List.set_cons_succ]
            refine wpAnyK_done (by kernel_rfl) ?_ _
            clear k0 k1 k2 k3
            obtain ⟨W2, hW2⟩ : ∃ W2, W2 = wr.drew := ⟨_, rfl⟩
            have hra : RAt W2 R (t + k) (.slice (some ⟨b, o, none⟩) m c) := by rw [hW2]; exact HR1.out
            have z0 : W2.cell? ⟨b, o, none⟩ = some (.int .i64 x.1) := by rw [hW2]; exact l0
            have hoW : W2.ownsRow w.heap.size 3 1 (.slice A6 j c6) j (ints ((L.take j).map (·.1))) := by rw [hW2]; exact HO.out
            have hgW : w.grownBy W2 (some R) := by rw [hW2]; exact grown_drew HG.out
            have hrd : Rd W2 2 (some ⟨b, o, none⟩) m (brow (L.drop j)) := by rw [hW2]; exact HR2.out
            rw [← hW2]
            have z1 := cell_of_row _ _ 1 _ _ (0, 0) hra
            have HRA := hide_ hra; have HOW := hide_ hoW; have HGW := hide_ hgW; have HRD := hide_ hrd
            have hgs : w.heap.size ≤ W2.heap.size := hgW.size
            have hbw := HBB.out b o rfl q3
            have p1 : (j + 1) * 8 ≤ 140737488355328 := by omega
            have p2 : j + 1 ≤ maxLen := by unfold maxLen; omega
            have p3 : ∀ o, w.heap.size ≤ (W2.alloc o).heap.size := fun o => by simp; omega
            have HT := hide_ (take_snoc HX.out)
            have i1 : (1 : Int) ≤ (m : Int) := by omega
            have i2 : 1 ≤ m := by omega
            have i3 : (1 : Int) ≤ (c : Int) := by omega
            have i4 : 1 ≤ c := by omega
            have HK2 := hide_ (show ∀ i y, i < j + 1 → L[i]? = some y → y.2 ≤ t + k from fun i y hi hy => by
              by_cases e : i = j
              · subst e; rw [HX.out] at hy; injection hy with hy; exact hy ▸ hxt
              · exact HK.out i y (by omega) hy)
            clear hW2 hra hoW hgW hrd l0 l1 hxt hm0 g1 q0 q1 q2
            by_cases i5 : c = 1
            · have HRC := hide_ (show Rd W2 2 (some ⟨b, o, none⟩) (m - 1) (brow (L.drop (j + 1))) by
                have h := Rd.cut HRD.out (k := 1) (cap := c) i2 hmc
                rw [if_pos i5, brow, rec_drop encL_len, List.drop_drop] at h; exact h)
              go_wp2_with (at_builtin; go_loud (refine wpList_append_rd _ rfl (.tmp 45) (.tmp 53) 30 rfl w.heap.size 3 1 8 intT _ j (ints ((L.take j).map (·.1))) rfl (HOW.out.alloc _) _ 1 1 [.int .i64 x.1] rfl (Rd.newAt _ #[.int .i64 x.1] 3 1 1 _ (0, 0) rfl rfl) (ints_one [x.1]) p1 p2 (p3 _) (fun h => nomatch h) ?_; intro v8 w8 hown8 hg8 hat8; have hr8 := (hg8.block R (by simp; omega) (own_ne HOW.out hRw)).trans (row_al HRA.out _); have HR8 := hide_ hr8; have x1 := cell_of_row _ _ 1 _ _ (0, 0) hr8; have f1 := frozen_of_row _ _ 1 _ _ hr8; have HO8 := hide_ hown8; have HB8 := hide_ (own_grown (B := w.heap.size) ((Below.refl w.heap.size W2).alloc hgs _) (HOW.out.alloc _) hg8 (p3 _)); clear hown8 hg8 hat8 hr8))
              have hw9 : RAt (w8.setCell ⟨R, 1, none⟩ (.slice (some ⟨b, o, none⟩) (m - 1) 0)) R (t + k) (.slice (some ⟨b, o, none⟩) (m - 1) 0) := by have := heap_setCell_same w8 R 1 _ _ (.slice (some ⟨b, o, none⟩) (m - 1) 0) HR8.out; unfold RAt; simpa using this
              have hrd9 : Rd (w8.setCell ⟨R, 1, none⟩ (.slice (some ⟨b, o, none⟩) (m - 1) 0)) 2 (some ⟨b, o, none⟩) (m - 1) (brow (L.drop (j + 1))) := by
                refine ⟨HRC.out.1, fun hp => ?_⟩
                obtain ⟨b', o', e, hc⟩ := HRC.out.2 hp
                injection e with e; injection e with e5 e6; subst e5; subst e6
                have hbR := HR4.out b o rfl
                exact ⟨b, _, rfl, fun i u hu => by rw [World.cell?_of_block (Below.heap_setCell _ _ _ _ (fun e2 => by have e2 : b = R := e2; omega)), World.cell?_of_block (HB8.out.block b hbw)]; exact hc i u hu⟩
              have ho9 := own_put (B := R) (j := 1) (u := .slice (some ⟨b, o, none⟩) (m - 1) 0) HO8.out hRw
              have HG9 := hide_ (show w.grownBy (w8.setCell ⟨R, 1, none⟩ (.slice (some ⟨b, o, none⟩) (m - 1) 0)) (some R) from grown_setCell ⟨HB8.out.os.trans HGW.out.os, HB8.out.tape.trans HGW.out.tape, HB8.out.output.trans HGW.out.output, Nat.le_trans HGW.out.size HB8.out.size, fun i hi h2 => (HB8.out.block i hi).trans (HGW.out.block i hi h2)⟩ (.inl rfl) _)
              have HS9 := hide_ (show RLeft (w8.setCell ⟨R, 1, none⟩ (.slice (some ⟨b, o, none⟩) (m - 1) 0)) R (t + k) L (j + 1) (m - 1) (some ⟨b, o, none⟩) 0 from ⟨hw9, hrd9, fun h => (nomatch h), fun b' o' e => by injection e with e; injection e with e5 e6; subst e5; exact HR4.out b o rfl⟩)
              have HM := hide_ (show leftR (w8.setCell ⟨R, 1, none⟩ (.slice (some ⟨b, o, none⟩) (m - 1) 0)) R < leftR wr R by rw [leftR_eq hw9, leftR_eq HR1.out]; omega)
              have HO9 := hide_ (show (w8.setCell ⟨R, 1, none⟩ (.slice (some ⟨b, o, none⟩) (m - 1) 0)).ownsRow w.heap.size 3 1 v8 (j + 1) (ints ((L.take (j + 1)).map (·.1))) by rw [HT.out, List.map_append]; simpa [ints] using ho9)
              clear hw9 hrd9 ho9
              go_roundw
              case rel => exact ⟨j + 1, m - 1, _, 0, by have := HJ.out; omega, by omega, HS9, HK2, HO9, HG9, hide_ (fun b' o' e hp => by injection e with e; injection e with e5 e6; subst e5; exact hbw)⟩
              case measure => exact HM.out
            · have HRC := hide_ (show Rd W2 2 (some ⟨b, o + 2, none⟩) (m - 1) (brow (L.drop (j + 1))) by
                have h := Rd.cut HRD.out (k := 1) (cap := c) i2 hmc
                rw [if_neg i5, Option.map_some, add_plain, brow, rec_drop encL_len, List.drop_drop] at h; exact h)
              go_wp2_with (at_builtin; go_loud (refine wpList_append_rd _ rfl (.tmp 45) (.tmp 53) 30 rfl w.heap.size 3 1 8 intT _ j (ints ((L.take j).map (·.1))) rfl (HOW.out.alloc _) _ 1 1 [.int .i64 x.1] rfl (Rd.newAt _ #[.int .i64 x.1] 3 1 1 _ (0, 0) rfl rfl) (ints_one [x.1]) p1 p2 (p3 _) (fun h => nomatch h) ?_; intro v8 w8 hown8 hg8 hat8; have hr8 := (hg8.block R (by simp; omega) (own_ne HOW.out hRw)).trans (row_al HRA.out _); have HR8 := hide_ hr8; have x1 := cell_of_row _ _ 1 _ _ (0, 0) hr8; have f1 := frozen_of_row _ _ 1 _ _ hr8; have HO8 := hide_ hown8; have HB8 := hide_ (own_grown (B := w.heap.size) ((Below.refl w.heap.size W2).alloc hgs _) (HOW.out.alloc _) hg8 (p3 _)); clear hown8 hg8 hat8 hr8))
              have hw9 : RAt (w8.setCell ⟨R, 1, none⟩ (.slice (some ⟨b, o + 2, none⟩) (m - 1) (c - 1))) R (t + k) (.slice (some ⟨b, o + 2, none⟩) (m - 1) (c - 1)) := by have := heap_setCell_same w8 R 1 _ _ (.slice (some ⟨b, o + 2, none⟩) (m - 1) (c - 1)) HR8.out; unfold RAt; simpa using this
              have hrd9 : Rd (w8.setCell ⟨R, 1, none⟩ (.slice (some ⟨b, o + 2, none⟩) (m - 1) (c - 1))) 2 (some ⟨b, o + 2, none⟩) (m - 1) (brow (L.drop (j + 1))) := by
                refine ⟨HRC.out.1, fun hp => ?_⟩
                obtain ⟨b', o', e, hc⟩ := HRC.out.2 hp
                injection e with e; injection e with e5 e6; subst e5; subst e6
                have hbR := HR4.out b o rfl
                exact ⟨b, _, rfl, fun i u hu => by rw [World.cell?_of_block (Below.heap_setCell _ _ _ _ (fun e2 => by have e2 : b = R := e2; omega)), World.cell?_of_block (HB8.out.block b hbw)]; exact hc i u hu⟩
              have ho9 := own_put (B := R) (j := 1) (u := .slice (some ⟨b, o + 2, none⟩) (m - 1) (c - 1)) HO8.out hRw
              have HG9 := hide_ (show w.grownBy (w8.setCell ⟨R, 1, none⟩ (.slice (some ⟨b, o + 2, none⟩) (m - 1) (c - 1))) (some R) from grown_setCell ⟨HB8.out.os.trans HGW.out.os, HB8.out.tape.trans HGW.out.tape, HB8.out.output.trans HGW.out.output, Nat.le_trans HGW.out.size HB8.out.size, fun i hi h2 => (HB8.out.block i hi).trans (HGW.out.block i hi h2)⟩ (.inl rfl) _)
              have HS9 := hide_ (show RLeft (w8.setCell ⟨R, 1, none⟩ (.slice (some ⟨b, o + 2, none⟩) (m - 1) (c - 1))) R (t + k) L (j + 1) (m - 1) (some ⟨b, o + 2, none⟩) (c - 1) from ⟨hw9, hrd9, fun h => (nomatch h), fun b' o' e => by injection e with e; injection e with e5 e6; subst e5; exact HR4.out b o rfl⟩)
              have HM := hide_ (show leftR (w8.setCell ⟨R, 1, none⟩ (.slice (some ⟨b, o + 2, none⟩) (m - 1) (c - 1))) R < leftR wr R by rw [leftR_eq hw9, leftR_eq HR1.out]; omega)
              have HO9 := hide_ (show (w8.setCell ⟨R, 1, none⟩ (.slice (some ⟨b, o + 2, none⟩) (m - 1) (c - 1))).ownsRow w.heap.size 3 1 v8 (j + 1) (ints ((L.take (j + 1)).map (·.1))) by rw [HT.out, List.map_append]; simpa [ints] using ho9)
              clear hw9 hrd9 ho9
              go_roundw
              case rel => exact ⟨j + 1, m - 1, _, c - 1, by have := HJ.out; omega, by omega, HS9, HK2, HO9, HG9, hide_ (fun b' o' e hp => by injection e with e; injection e with e5 e6; subst e5; exact hbw)⟩
              case measure => exact HM.out
          · have g1 : decide (x.2 ≤ t + k) = false := decide_eq_false hxt
            have HD := hide_ (due_of (M := L) (k := j) HK.out (.inr ⟨x, HX.out, by omega⟩))
            go_wp2_with fail
            refine wp_region_k (by kernel_rfl) ?_
            refine wpAnyK_take 0 (v := ?_) rfl (by kernel_rfl) (by kernel_rfl) (by kernel_rfl) (fun _ _ _ h => h) (by rfl) (by intro W hSw; go_simp; with_reducible rfl) ?_; try simp only [Act.put, List.setIfInBounds_toArray, List.set_cons_zero, List.set_cons_succ]
            refine wpAnyK_take 1 (v := ?_) rfl (by kernel_rfl) (by kernel_rfl) (by kernel_rfl) (fun _ _ _ h => h) (by rfl) (by intro W hSw; go_simp; with_reducible rfl) ?_; try simp only [Act.put, List.setIfInBounds_toArray, List.set_cons_zero, List.set_cons_succ]
            refine wpAnyK_take 2 (v := ?_) rfl (by kernel_rfl) (by kernel_rfl) (by kernel_rfl) (fun _ _ _ h => h) (by rfl) (by intro W hSw; go_simp; with_reducible rfl) ?_; try simp only [Act.put, List.setIfInBounds_toArray, List.set_cons_zero, List.set_cons_succ]
            refine wpAnyK_take 3 (v := ?_) rfl (by kernel_rfl) (by kernel_rfl) (by kernel_rfl) (fun _ _ _ h => h) (by rfl) (by intro W hSw; go_simp; with_reducible rfl) ?_; try simp only [Act.put, List.setIfInBounds_toArray, List.set_cons_zero, List.set_cons_succ]
            refine wpAnyK_take 4 (v := ?_) rfl (by kernel_rfl) (by kernel_rfl) (by kernel_rfl) (fun _ _ _ h => h) (by rfl) (by intro W hSw; go_simp; with_reducible rfl) ?_; try simp only [Act.put, List.setIfInBounds_toArray, List.set_cons_zero, List.set_cons_succ]
            refine wpAnyK_take 5 (v := ?_) rfl (by kernel_rfl) (by kernel_rfl) (by kernel_rfl) (fun _ _ _ h => h) (by rfl) (by intro W hSw; go_simp; with_reducible rfl) ?_; try simp only [Act.put, List.setIfInBounds_toArray, List.set_cons_zero, List.set_cons_succ]
            refine wpAnyK_take 6 (v := ?_) rfl (by kernel_rfl) (by kernel_rfl) (by kernel_rfl) (fun _ _ _ h => h) (by rfl) (by intro W hSw; go_simp; with_reducible rfl) ?_; try simp only [Act.put, List.setIfInBounds_toArray, List.set_cons_zero, List.set_cons_succ]
            refine wpAnyK_take 7 (v := ?_) rfl (by kernel_rfl) (by kernel_rfl) (by kernel_rfl) (fun _ _ _ h => h) (by rfl) (by intro W hSw; go_simp; with_reducible rfl) ?_; try simp only [Act.put, List.setIfInBounds_toArray, List.set_cons_zero, List.set_cons_succ]
            refine wpAnyK_take 8 (v := ?_) rfl (by kernel_rfl) (by kernel_rfl) (by kernel_rfl) (fun _ _ _ h => h) (by rfl) (by intro W hSw; go_simp; with_reducible rfl) ?_; try simp only [Act.put, List.setIfInBounds_toArray, List.set_cons_zero, List.set_cons_succ]
            refine wpAnyK_take 9 (v := ?_) rfl (by kernel_rfl) (by kernel_rfl) (by kernel_rfl) (fun _ _ _ h => h) (by rfl) (by intro W hSw; go_simp; with_reducible rfl) ?_; try simp only [Act.put, List.setIfInBounds_toArray, List.set_cons_zero, List.set_cons_succ]
            refine wpAnyK_take 10 (v := ?_) rfl (by kernel_rfl) (by kernel_rfl) (by kernel_rfl) (fun _ _ _ h => h) (by rfl) (by intro W hSw; go_simp; with_reducible rfl) ?_; try simp only [Act.put, List.setIfInBounds_toArray, List.set_cons_zero, List.set_cons_succ]
            refine wpAnyK_take 11 (v := ?_) rfl (by kernel_rfl) (by kernel_rfl) (by kernel_rfl) (fun _ _ _ h => h) (by rfl) (by intro W hSw; go_simp; with_reducible rfl) ?_; try simp only [Act.put, List.setIfInBounds_toArray, List.set_cons_zero, List.set_cons_succ]
            refine wpAnyK_take 12 (v := ?_) rfl (by kernel_rfl) (by kernel_rfl) (by kernel_rfl) (fun _ _ _ h => h) (by rfl) (by intro W hSw; go_simp; with_reducible rfl) ?_; try simp only [Act.put, List.setIfInBounds_toArray, List.set_cons_zero, List.set_cons_succ]
            refine wpAnyK_take 13 (v := ?_) rfl (by kernel_rfl) (by kernel_rfl) (by kernel_rfl) (fun _ _ _ h => h) (by rfl) (by intro W hSw; go_simp; with_reducible rfl) ?_; try simp only [Act.put, List.setIfInBounds_toArray, List.set_cons_zero, List.set_cons_succ]
            refine wpAnyK_take 14 (v := ?_) rfl (by kernel_rfl) (by kernel_rfl) (by kernel_rfl) (fun _ _ _ h => h) (by rfl) (by intro W hSw; go_simp; with_reducible rfl) ?_; try simp only [Act.put, List.setIfInBounds_toArray, List.set_cons_zero, List.set_cons_succ]
            refine wpAnyK_take 15 (v := ?_) rfl (by kernel_rfl) (by kernel_rfl) (by kernel_rfl) (fun _ _ _ h => h) (by rfl) (by intro W hSw; go_simp; with_reducible rfl) ?_; try simp only [Act.put, List.setIfInBounds_toArray, List.set_cons_zero, List.set_cons_succ]
            refine wpAnyK_take 16 (v := ?_) rfl (by kernel_rfl) (by kernel_rfl) (by kernel_rfl) (fun _ _ _ h => h) (by rfl) (by intro W hSw; go_simp; with_reducible rfl) ?_; try simp only [Act.put, List.setIfInBounds_toArray, List.set_cons_zero, List.set_cons_succ]
            refine wpAnyK_take 17 (v := ?_) rfl (by kernel_rfl) (by kernel_rfl) (by kernel_rfl) (fun _ _ _ h => h) (by rfl) (by intro W hSw; go_simp; with_reducible rfl) ?_; try simp only [Act.put, List.setIfInBounds_toArray, List.set_cons_zero, List.set_cons_succ]
            refine wpAnyK_take 18 (v := ?_) rfl (by kernel_rfl) (by kernel_rfl) (by kernel_rfl) (fun _ _ _ h => h) (by rfl) (by intro W hSw; go_simp; with_reducible rfl) ?_; try simp only [Act.put, List.setIfInBounds_toArray, List.set_cons_zero, List.set_cons_succ]
            refine wpAnyK_take 19 (v := ?_) rfl (by kernel_rfl) (by kernel_rfl) (by kernel_rfl) (fun _ _ _ h => h) (by rfl) (by intro W hSw; go_simp; with_reducible rfl) ?_; try simp only [Act.put, List.setIfInBounds_toArray, List.set_cons_zero, List.set_cons_succ]
            refine wpAnyK_done (by kernel_rfl) ?_ _
            go_wp2_with fail
            go_ret2
            refine .inr (.inr ⟨e3, e4, A6, j, c6, rfl, ?_, ?_, ⟨_, m, c, HR1.out, ?_, ?_, hmc, HR3.out, HR4.out⟩, grown_drew HG.out⟩)
            · rw [HD.out.1, List.length_take]; have := HL.out; have := HJ.out; omega
            · rw [HD.out.1]; exact HO.out
            · rw [HD.out.2]; exact HR2.out
            · rw [HD.out.2, List.length_drop]; have := HL.out; have := HJ.out; omega

end Go.Proofs.Ytinfeajbnhkkiaa
