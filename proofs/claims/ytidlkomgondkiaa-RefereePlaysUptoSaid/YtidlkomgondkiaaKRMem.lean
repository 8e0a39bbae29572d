/-
  The referee in memory: New, Begin, Ends; no referee; slices.Clone of numbers.
-/
import Derived.Test.YtidlkomgondkiaaKMTwo
namespace Go.Proofs.Ytidlkomgondkiaa
open Go.RowKit
set_option linter.unusedVariables false
set_option linter.unusedSimpArgs false
set_option maxHeartbeats 400000 in
theorem iclone_nil (c : Nat) (w : World) : Calls Try.prog 48 #[.slice none 0 c] w fun e w' => e = .returned (.slice none 0 0) ∧ w = w' := by
  have hq := fun W => eql_slice_nil_any Try.underlying35 W none 0 c 0 0
  go_enter Try.func48, Try.ntmps48
  go_wp2_with fail
  go_ret
  exact ⟨rfl, rfl⟩
set_option maxHeartbeats 400000 in
theorem iclone_some {w : World} {b o n : Nat} {V : List Int} (hr : Rd w 1 (some ⟨b, o, none⟩) n (ints V)) (c : Nat) (hn : n ≤ 1048576) :
    Calls Try.prog 48 #[.slice (some ⟨b, o, none⟩) n c] w fun e w' =>
      (∃ v, e = .returned v ∧ w'.ownsRow w.heap.size 3 1 v n (ints V)) ∧ Below w.heap.size w w' := by
  have hq := fun W => eql_slice_nil_any Try.underlying35 W (some ⟨b, o, none⟩) n c 0 0
  have HR := hide_ hr
  have hown := hide_ (own_new w #[] 3 1 0 w.heap.size rfl (Nat.zero_le _) (Nat.le_refl _))
  clear hr
  go_enter Try.func48, Try.ntmps48
  go_wp2_with (at_builtin; go_loud (refine wpList_append_rd _ rfl (.tmp 5) (.tmp 6) 35 rfl w.heap.size 3 1 8 intT _ 0 [] rfl hown.out _ n _ (ints V) rfl (HR.out.alloc _) (ints_one V) (by omega) (by unfold maxLen; omega) (by simp) (fun h => nomatch h) ?_; intro v2 w2 hown2 hg2 hat2; have hb2 := hide_ (own_grown ((Below.refl _ _).alloc (Nat.le_refl _) _) hown.out hg2 (by simp)); have HO2 := hide_ hown2; clear hown2 hg2 hat2))
  go_ret
  have h2 := HO2.out
  simp only [Nat.zero_add, List.nil_append] at h2
  exact ⟨⟨_, rfl, h2⟩, hb2.out⟩
/-- A copy of a row of numbers. -/
theorem iclone_any {w : World} {base n c : Nat} {A : Option Addr} {V : List Int} (ho : w.ownsRow base 3 1 (.slice A n c) n (ints V)) (hn : n ≤ 1048576) :
    Calls Try.prog 48 #[.slice A n c] w fun e w' => (∃ v, e = .returned v ∧ w'.ownsRow w.heap.size 3 1 v n (ints V)) ∧ Later w w' := by
  rcases own_cases ho with ⟨rfl, rfl, rfl, hx⟩ | ⟨g, rfl⟩
  · refine (iclone_nil 0 w).mono ?_
    rintro e w' ⟨rfl, rfl⟩
    rw [hx]
    exact ⟨⟨_, rfl, World.ownsRow_nil _ _ _ _⟩, Later.refl _⟩
  · exact iclone_some (Rd.of_own ho) c hn
/-- The referee lies here. -/
def RefAt (w : World) (R0 : Nat) (E V : Int) (mv : Value) (J : Bool) (tv : Value) : Prop := w.heap[R0]? = some (.cells #[.int .i64 E, .int .i64 V, mv, .bool J, tv] 98 (0, 0))
theorem rnew_any (w : World) : Calls Try.prog 27 #[] w fun e w' => e = .returned (.pointer (some ⟨w.heap.size, 0, none⟩)) ∧ RefAt w' w.heap.size 0 0 (.pointer none) false (.slice none 0 0) ∧ Later w w' := by
  go_enter Try.func27, Try.ntmps27
  go_wp2_with fail
  go_ret
  exact ⟨rfl, heap_alloc_new _ _, later_alloc _ _⟩
theorem heap_five {w : World} {B : Nat} {a b c d e : Value} {t : TypeId} (h : w.heap[B]? = some (.cells #[a, b, c, d, e] t (0, 0))) (u0 u1 u2 u3 u4 : Value) : (((((w.setCell ⟨B, 0, none⟩ u0).setCell ⟨B, 1, none⟩ u1).setCell ⟨B, 2, none⟩ u2).setCell ⟨B, 3, none⟩ u3).setCell ⟨B, 4, none⟩ u4).heap[B]? = some (.cells #[u0, u1, u2, u3, u4] t (0, 0)) := by
  have h1 := heap_setCell_same w B 0 _ _ u0 h
  have h2 := heap_setCell_same _ B 1 _ _ u1 h1
  have h3 := heap_setCell_same _ B 2 _ _ u2 h2
  have h4 := heap_setCell_same _ B 3 _ _ u3 h3
  exact heap_setCell_same _ B 4 _ _ u4 h4
/-- What Begin answers, and leaves. -/
def BeginPost (R0 : Nat) (E V e v : Int) (mv : Value) (J : Bool) (tv : Value) (w : World) (en : Ending) (w' : World) : Prop :=
  (((e < 1 ∨ v < 0) ∧ en = .returned (.int .i64 1)) ∧ RefAt w' R0 E V mv J tv ∧ Later w w') ∨
  ((¬ (e < 1 ∨ v < 0) ∧ e < E ∧ en = .returned (.int .i64 7)) ∧ RefAt w' R0 E V mv J tv ∧ Later w w') ∨
  ((¬ (e < 1 ∨ v < 0) ∧ e = E ∧ en = .returned (.int .i64 0)) ∧ RefAt w' R0 E V mv J tv ∧ Later w w') ∨
  (¬ (e < 1 ∨ v < 0) ∧ E < e ∧ en = .returned (.int .i64 0) ∧ RefAt w' R0 e v (.pointer (some ⟨w.heap.size, 0, none⟩)) false (.slice none 0 0) ∧ MK w' w.heap.size [] v 0 ∧ w.grownBy w' (some R0))
set_option maxHeartbeats 2000000 in
theorem begin_any {w : World} {R0 : Nat} {E V : Int} {mv tv : Value} {J : Bool} (e v : Int) (h : RefAt w R0 E V mv J tv) :
    Calls Try.prog 29 #[.pointer (some ⟨R0, 0, none⟩), .int .i64 e, .int .i64 v] w (BeginPost R0 E V e v mv J tv w) := by
  have H := hide_ h
  have m0 := cell_of_row _ _ 0 _ _ (0, 0) h
  have hB := heap_lt0 h
  clear h
  by_cases h1 : e < 1
  · have H1 := hide_ h1
    go_enter Try.func29, Try.ntmps29
    go_wp2_with fail
    go_ret
    exact .inl ⟨⟨.inl H1.out, rfl⟩, H.out, Later.refl _⟩
  · by_cases h2 : v < 0
    · have H2 := hide_ h2
      go_enter Try.func29, Try.ntmps29
      go_wp2_with fail
      go_ret
      exact .inl ⟨⟨.inr H2.out, rfl⟩, H.out, Later.refl _⟩
    · have H12 := hide_ (show ¬ (e < 1 ∨ v < 0) from fun h => h.elim h1 h2)
      by_cases h3 : e < E
      · have H3 := hide_ h3
        go_enter Try.func29, Try.ntmps29
        go_wp2_with fail
        go_ret
        exact .inr (.inl ⟨⟨H12.out, H3.out, rfl⟩, H.out, Later.refl _⟩)
      · by_cases h4 : E < e
        · have H4 := hide_ h4
          have H2 := hide_ (show 0 ≤ v by omega)
          go_enter Try.func29, Try.ntmps29
          go_wp2_with fail
          refine (new_any _ _).mono ?_; rintro en w1 ⟨rfl, hm, hb1⟩
          rw [Int.max_eq_left H2.out] at hm
          have HMA := hide_ hm
          have hx := later_row hb1 H.out
          have HX := hide_ hx
          have HB1 := hide_ hb1
          have fz := fun k => frozen_of_row _ _ k _ _ hx
          have x0 := cell_of_row _ _ 0 _ _ (0, 0) hx
          have x1 := cell_of_row _ _ 1 _ _ (0, 0) hx
          have x2 := cell_of_row _ _ 2 _ _ (0, 0) hx
          have x3 := cell_of_row _ _ 3 _ _ (0, 0) hx
          have x4 := cell_of_row _ _ 4 _ _ (0, 0) hx
          clear hm hb1 hx m0
          go_wp2_with fail
          go_ret
          refine .inr (.inr (.inr ⟨H12.out, H4.out, rfl, ?_, ⟨none, 0, 0, ?_, World.ownsRow_nil _ _ _ _, rfl⟩, ?_⟩))
          · exact heap_five HX.out _ _ _ _ _
          · have hne : ∀ k, w.heap.size ≠ (⟨R0, k, none⟩ : Addr).block := fun k e => by have e : w.heap.size = R0 := e; omega
            unfold MarksAt
            rw [Below.heap_setCell _ _ _ _ (hne 4), Below.heap_setCell _ _ _ _ (hne 3), Below.heap_setCell _ _ _ _ (hne 2), Below.heap_setCell _ _ _ _ (hne 1), Below.heap_setCell _ _ _ _ (hne 0)]
            exact HMA.out
          · exact grown_setCell (grown_setCell (grown_setCell (grown_setCell (grown_setCell (grown_later HB1.out (some R0)) (.inl rfl) _) (.inl rfl) _) (.inl rfl) _) (.inl rfl) _) (.inl rfl) _
        · have H4 := hide_ (show e = E by omega)
          go_enter Try.func29, Try.ntmps29
          go_wp2_with fail
          go_ret
          exact .inr (.inr (.inl ⟨⟨H12.out, H4.out, rfl⟩, H.out, Later.refl _⟩))
theorem rends_any {w : World} {R0 : Nat} {E V : Int} {mv tv : Value} {J : Bool} (h : RefAt w R0 E V mv J tv) :
    Calls Try.prog 32 #[.pointer (some ⟨R0, 0, none⟩)] w fun en w' => en = .returned (.tuple #[.int .i64 E, .int .i64 V]) ∧ Later w w' := by
  have m0 := cell_of_row _ _ 0 _ _ (0, 0) h
  have m1 := cell_of_row _ _ 1 _ _ (0, 0) h
  clear h
  go_enter Try.func32, Try.ntmps32
  go_wp2_with fail
  have k0 := later_drew_cell m0
  have k1 := later_drew_cell m1
  refine wp_region_k (by kernel_rfl) ?_
  refine wpAnyK_take 0 (v := ?_) rfl (by kernel_rfl) (by kernel_rfl) (by kernel_rfl) (fun _ _ _ h => h) (by rfl) (by intro W hSw; go_simp; with_reducible rfl) ?_; try simp only [Act.put, List.setIfInBounds_toArray, List.set_cons_zero, List.set_cons_succ]
  refine wpAnyK_take 1 (v := ?_) rfl (by kernel_rfl) (by kernel_rfl) (by kernel_rfl) (fun _ _ _ h => h) (by rfl) (by intro W hSw; go_simp; with_reducible rfl) ?_; try simp only [Act.put, List.setIfInBounds_toArray, List.set_cons_zero, List.set_cons_succ]
  refine wpAnyK_take 2 (v := ?_) rfl (by kernel_rfl) (by kernel_rfl) (by kernel_rfl) (fun _ _ _ h => h) (by rfl) (by intro W hSw; go_simp; with_reducible rfl) ?_; try simp only [Act.put, List.setIfInBounds_toArray, List.set_cons_zero, List.set_cons_succ]
  refine wpAnyK_take 3 (v := ?_) rfl (by kernel_rfl) (by kernel_rfl) (by kernel_rfl) (fun _ _ _ h => h) (by rfl) (by intro W hSw; go_simp; with_reducible rfl) ?_; try simp only [Act.put, List.setIfInBounds_toArray, List.set_cons_zero, List.set_cons_succ]
  refine wpAnyK_take 4 (v := ?_) rfl (by kernel_rfl) (by kernel_rfl) (by kernel_rfl) (fun _ _ _ h => h) (by rfl) (by intro W hSw; go_simp; with_reducible rfl) ?_; try simp only [Act.put, List.setIfInBounds_toArray, List.set_cons_zero, List.set_cons_succ]
  refine wpAnyK_take 5 (v := ?_) rfl (by kernel_rfl) (by kernel_rfl) (by kernel_rfl) (fun _ _ _ h => h) (by rfl) (by intro W hSw; go_simp; with_reducible rfl) ?_; try simp only [Act.put, List.setIfInBounds_toArray, List.set_cons_zero, List.set_cons_succ]
  refine wpAnyK_take 6 (v := ?_) rfl (by kernel_rfl) (by kernel_rfl) (by kernel_rfl) (fun _ _ _ h => h) (by rfl) (by intro W hSw; go_simp; with_reducible rfl) ?_; try simp only [Act.put, List.setIfInBounds_toArray, List.set_cons_zero, List.set_cons_succ]
  refine wpAnyK_take 7 (v := ?_) rfl (by kernel_rfl) (by kernel_rfl) (by kernel_rfl) (fun _ _ _ h => h) (by rfl) (by intro W hSw; go_simp; with_reducible rfl) ?_; try simp only [Act.put, List.setIfInBounds_toArray, List.set_cons_zero, List.set_cons_succ]
  refine wpAnyK_take 8 (v := ?_) rfl (by kernel_rfl) (by kernel_rfl) (by kernel_rfl) (fun _ _ _ h => h) (by rfl) (by intro W hSw; go_simp; with_reducible rfl) ?_; try simp only [Act.put, List.setIfInBounds_toArray, List.set_cons_zero, List.set_cons_succ]
  refine wpAnyK_take 9 (v := ?_) rfl (by kernel_rfl) (by kernel_rfl) (by kernel_rfl) (fun _ _ _ h => h) (by rfl) (by intro W hSw; go_simp; with_reducible rfl) ?_; try simp only [Act.put, List.setIfInBounds_toArray, List.set_cons_zero, List.set_cons_succ]
  refine wpAnyK_done (by kernel_rfl) ?_ _
  go_wp2_with fail
  go_ret2
  exact ⟨rfl, below_drewN (Later.refl _) 1⟩
/-! No referee. -/
theorem rjudge_none (a b c : Int) (x : Value) (w : World) : Calls Try.prog 30 #[.pointer none, .int .i64 a, .int .i64 b, .int .i64 c, x] w fun e w' => e = .returned (.tuple #[.slice none 0 0, .int .i64 1]) ∧ Later w w' := by
  go_enter Try.func30, Try.ntmps30
  go_wp2_with fail
  go_ret2
  exact ⟨rfl, Later.refl _⟩
theorem begin_none (a b : Int) (w : World) : Calls Try.prog 29 #[.pointer none, .int .i64 a, .int .i64 b] w fun e w' => e = .returned (.int .i64 1) ∧ Later w w' := by
  go_enter Try.func29, Try.ntmps29
  go_wp2_with fail
  go_ret
  exact ⟨rfl, Later.refl _⟩
theorem ends_none (w : World) : Calls Try.prog 32 #[.pointer none] w fun e w' => e = .returned (.tuple #[.int .i64 0, .int .i64 0]) ∧ Later w w' := by
  go_enter Try.func32, Try.ntmps32
  go_wp2_with fail
  go_ret2
  exact ⟨rfl, Later.refl _⟩

end Go.Proofs.Ytidlkomgondkiaa
