/-
  front: New, Ends, Stuck; what a front that is none answers.
-/
import Derived.Test.YtcmollfhlillfaaGreatDoorFrAt
namespace Go.Proofs.YtcmollfhlillfaaGreatDoor
open Go.RowKit
set_option linter.unusedVariables false
set_option linter.unusedSimpArgs false
def newBad (node g e r version : Int) (C R : List Int) (B : List ByteArray) : Prop := node < 0 ∨ 255 < node ∨ stateB g e r C = false ∨ e < 1 ∨ C.length = 0 ∨ version < 0 ∨ R.length ≠ B.length + 1
def fr0 (node g e r version : Int) (C R : List Int) (B : List ByteArray) : Fr := ⟨node, g, e, r, C, R, B, version, version, false, [], [], [], 0, none, 0, false⟩
theorem ends_nil (w : World) : Calls Tryz.prog 10 #[.pointer none] w fun e w' => e = .returned (.tuple #[.int .i64 0, .int .i64 0]) ∧ w' = w := by
  go_enter Tryz.func10, Tryz.ntmps10
  go_wp2_with fail
  go_ret2
  exact ⟨rfl, rfl⟩
theorem stuck_nil (w : World) : Calls Tryz.prog 13 #[.pointer none] w fun e w' => e = .returned (.int .i64 0) ∧ w' = w := by
  go_enter Tryz.func13, Tryz.ntmps13
  go_wp2_with fail
  go_ret
  exact ⟨rfl, rfl⟩
set_option maxRecDepth 100000 in
theorem tick_nil (w : World) : Calls Tryz.prog 16 #[.pointer none] w fun e w' => e = .returned (.slice none 0 0) ∧ w' = w := by
  go_enter Tryz.func16, Tryz.ntmps16
  go_wp2_with fail
  go_ret
  exact ⟨rfl, rfl⟩
set_option maxRecDepth 100000 in
theorem take_nil (m : Value) (hm : ∃ a b c d e f g h, m = .agg #[a, b, c, d, e, f, g, h]) (w : World) : Calls Tryz.prog 15 #[.pointer none, m] w fun e w' => e = .returned (.slice none 0 0) ∧ Later w w' := by
  obtain ⟨a, b, c, d, e, f, g, h, rfl⟩ := hm
  have HB := hide_ (later_alloc w (.cells #[a, b, c, d, e, f, g, h] 53))
  go_enter Tryz.func15, Tryz.ntmps15
  go_wp2_with fail
  refine wp_region_k (by kernel_rfl) ?_
  refine wpAnyK_take 0 (v := ?_) rfl (by kernel_rfl) (by kernel_rfl) (by kernel_rfl) (fun _ _ _ h => h) (by rfl) (by intro W hSw; go_simp; with_reducible rfl) ?_; try simp only [Act.put, List.setIfInBounds_toArray, List.set_cons_zero, List.set_cons_succ]
  refine wpAnyK_take 1 (v := ?_) rfl (by kernel_rfl) (by kernel_rfl) (by kernel_rfl) (fun _ _ _ h => h) (by rfl) (by intro W hSw; go_simp; with_reducible rfl) ?_; try simp only [Act.put, List.setIfInBounds_toArray, List.set_cons_zero, List.set_cons_succ]
  refine wpAnyK_take 2 (v := ?_) rfl (by kernel_rfl) (by kernel_rfl) (by kernel_rfl) (fun _ _ _ h => h) (by rfl) (by intro W hSw; go_simp; with_reducible rfl) ?_; try simp only [Act.put, List.setIfInBounds_toArray, List.set_cons_zero, List.set_cons_succ]
  refine wpAnyK_skip 3 rfl (by kernel_rfl) (by kernel_rfl) (by kernel_rfl) (fun _ _ _ h => h) (by rfl) ?_; try simp only [Act.put, List.setIfInBounds_toArray, List.set_cons_zero, List.set_cons_succ]
  refine wpAnyK_skip 4 rfl (by kernel_rfl) (by kernel_rfl) (by kernel_rfl) (fun _ _ _ h => h) (by rfl) ?_; try simp only [Act.put, List.setIfInBounds_toArray, List.set_cons_zero, List.set_cons_succ]
  refine wpAnyK_skip 5 rfl (by kernel_rfl) (by kernel_rfl) (by kernel_rfl) (fun _ _ _ h => h) (by rfl) ?_; try simp only [Act.put, List.setIfInBounds_toArray, List.set_cons_zero, List.set_cons_succ]
  refine wpAnyK_skip 6 rfl (by kernel_rfl) (by kernel_rfl) (by kernel_rfl) (fun _ _ _ h => h) (by rfl) ?_; try simp only [Act.put, List.setIfInBounds_toArray, List.set_cons_zero, List.set_cons_succ]
  refine wpAnyK_skip 7 rfl (by kernel_rfl) (by kernel_rfl) (by kernel_rfl) (fun _ _ _ h => h) (by rfl) ?_; try simp only [Act.put, List.setIfInBounds_toArray, List.set_cons_zero, List.set_cons_succ]
  refine wpAnyK_skip 8 rfl (by kernel_rfl) (by kernel_rfl) (by kernel_rfl) (fun _ _ _ h => h) (by rfl) ?_; try simp only [Act.put, List.setIfInBounds_toArray, List.set_cons_zero, List.set_cons_succ]
  refine wpAnyK_skip 9 rfl (by kernel_rfl) (by kernel_rfl) (by kernel_rfl) (fun _ _ _ h => h) (by rfl) ?_; try simp only [Act.put, List.setIfInBounds_toArray, List.set_cons_zero, List.set_cons_succ]
  refine wpAnyK_take 10 (v := ?_) rfl (by kernel_rfl) (by kernel_rfl) (by kernel_rfl) (fun _ _ _ h => h) (by rfl) (by intro W hSw; go_simp; with_reducible rfl) ?_; try simp only [Act.put, List.setIfInBounds_toArray, List.set_cons_zero, List.set_cons_succ]
  refine wpAnyK_take 11 (v := ?_) rfl (by kernel_rfl) (by kernel_rfl) (by kernel_rfl) (fun _ _ _ h => h) (by rfl) (by intro W hSw; go_simp; with_reducible rfl) ?_; try simp only [Act.put, List.setIfInBounds_toArray, List.set_cons_zero, List.set_cons_succ]
  refine wpAnyK_skip 12 rfl (by kernel_rfl) (by kernel_rfl) (by kernel_rfl) (fun _ _ _ h => h) (by rfl) ?_; try simp only [Act.put, List.setIfInBounds_toArray, List.set_cons_zero, List.set_cons_succ]
  refine wpAnyK_skip 13 rfl (by kernel_rfl) (by kernel_rfl) (by kernel_rfl) (fun _ _ _ h => h) (by rfl) ?_; try simp only [Act.put, List.setIfInBounds_toArray, List.set_cons_zero, List.set_cons_succ]
  refine wpAnyK_skip 14 rfl (by kernel_rfl) (by kernel_rfl) (by kernel_rfl) (fun _ _ _ h => h) (by rfl) ?_; try simp only [Act.put, List.setIfInBounds_toArray, List.set_cons_zero, List.set_cons_succ]
  refine wpAnyK_skip 15 rfl (by kernel_rfl) (by kernel_rfl) (by kernel_rfl) (fun _ _ _ h => h) (by rfl) ?_; try simp only [Act.put, List.setIfInBounds_toArray, List.set_cons_zero, List.set_cons_succ]
  refine wpAnyK_skip 16 rfl (by kernel_rfl) (by kernel_rfl) (by kernel_rfl) (fun _ _ _ h => h) (by rfl) ?_; try simp only [Act.put, List.setIfInBounds_toArray, List.set_cons_zero, List.set_cons_succ]
  refine wpAnyK_skip 17 rfl (by kernel_rfl) (by kernel_rfl) (by kernel_rfl) (fun _ _ _ h => h) (by rfl) ?_; try simp only [Act.put, List.setIfInBounds_toArray, List.set_cons_zero, List.set_cons_succ]
  refine wpAnyK_skip 18 rfl (by kernel_rfl) (by kernel_rfl) (by kernel_rfl) (fun _ _ _ h => h) (by rfl) ?_; try simp only [Act.put, List.setIfInBounds_toArray, List.set_cons_zero, List.set_cons_succ]
  refine wpAnyK_skip 19 rfl (by kernel_rfl) (by kernel_rfl) (by kernel_rfl) (fun _ _ _ h => h) (by rfl) ?_; try simp only [Act.put, List.setIfInBounds_toArray, List.set_cons_zero, List.set_cons_succ]
  refine wpAnyK_skip 20 rfl (by kernel_rfl) (by kernel_rfl) (by kernel_rfl) (fun _ _ _ h => h) (by rfl) ?_; try simp only [Act.put, List.setIfInBounds_toArray, List.set_cons_zero, List.set_cons_succ]
  refine wpAnyK_skip 21 rfl (by kernel_rfl) (by kernel_rfl) (by kernel_rfl) (fun _ _ _ h => h) (by rfl) ?_; try simp only [Act.put, List.setIfInBounds_toArray, List.set_cons_zero, List.set_cons_succ]
  refine wpAnyK_skip 22 rfl (by kernel_rfl) (by kernel_rfl) (by kernel_rfl) (fun _ _ _ h => h) (by rfl) ?_; try simp only [Act.put, List.setIfInBounds_toArray, List.set_cons_zero, List.set_cons_succ]
  refine wpAnyK_skip 23 rfl (by kernel_rfl) (by kernel_rfl) (by kernel_rfl) (fun _ _ _ h => h) (by rfl) ?_; try simp only [Act.put, List.setIfInBounds_toArray, List.set_cons_zero, List.set_cons_succ]
  refine wpAnyK_skip 24 rfl (by kernel_rfl) (by kernel_rfl) (by kernel_rfl) (fun _ _ _ h => h) (by rfl) ?_; try simp only [Act.put, List.setIfInBounds_toArray, List.set_cons_zero, List.set_cons_succ]
  refine wpAnyK_take 25 (v := ?_) rfl (by kernel_rfl) (by kernel_rfl) (by kernel_rfl) (fun _ _ _ h => h) (by rfl) (by intro W hSw; go_simp; with_reducible rfl) ?_; try simp only [Act.put, List.setIfInBounds_toArray, List.set_cons_zero, List.set_cons_succ]
  refine wpAnyK_done (by kernel_rfl) ?_ _
  go_wp2_with fail
  go_ret
  exact ⟨rfl, HB.out.dr⟩
theorem ends_any {w : World} {f : Nat} {s : Fr} {X : List Nat} (h : FrH w f s X) : Calls Tryz.prog 10 #[.pointer (some ⟨f, 0, none⟩)] w fun e w' => e = .returned (.tuple #[.int .i64 s.version, .int .i64 s.known]) ∧ Later w w' := by
  obtain ⟨c, h1, _⟩ := h
  have c7 := later_drew_cell (show w.cell? ⟨f, 7, none⟩ = some (.int .i64 s.version) from cell_of_row _ _ 7 _ _ (0, 0) h1.row)
  have c8 := later_drew_cell (show w.cell? ⟨f, 8, none⟩ = some (.int .i64 s.known) from cell_of_row _ _ 8 _ _ (0, 0) h1.row)
  clear h1
  have HB := hide_ (Later.refl w).dr
  go_enter Tryz.func10, Tryz.ntmps10
  go_wp2_with fail
  refine wp_region_k (by kernel_rfl) ?_
  refine wpAnyK_take 0 (v := ?_) rfl (by kernel_rfl) (by kernel_rfl) (by kernel_rfl) (fun _ _ _ h => h) (by rfl) (by intro W hSw; go_simp; with_reducible rfl) ?_; try simp only [Act.put, List.setIfInBounds_toArray, List.set_cons_zero, List.set_cons_succ]
  refine wpAnyK_take 1 (v := ?_) rfl (by kernel_rfl) (by kernel_rfl) (by kernel_rfl) (fun _ _ _ h => h) (by rfl) (by intro W hSw; go_simp; with_reducible rfl) ?_; try simp only [Act.put, List.setIfInBounds_toArray, List.set_cons_zero, List.set_cons_succ]
  refine wpAnyK_take 2 (v := ?_) rfl (by kernel_rfl) (by kernel_rfl) (by kernel_rfl) (fun _ _ _ h => h) (by rfl) (by intro W hSw; go_simp; with_reducible rfl) ?_; try simp only [Act.put, List.setIfInBounds_toArray, List.set_cons_zero, List.set_cons_succ]
  refine wpAnyK_take 3 (v := ?_) rfl (by kernel_rfl) (by kernel_rfl) (by kernel_rfl) (fun _ _ _ h => h) (by rfl) (by intro W hSw; go_simp; with_reducible rfl) ?_; try simp only [Act.put, List.setIfInBounds_toArray, List.set_cons_zero, List.set_cons_succ]
  refine wpAnyK_take 4 (v := ?_) rfl (by kernel_rfl) (by kernel_rfl) (by kernel_rfl) (fun _ _ _ h => h) (by rfl) (by intro W hSw; go_simp; with_reducible rfl) ?_; try simp only [Act.put, List.setIfInBounds_toArray, List.set_cons_zero, List.set_cons_succ]
  refine wpAnyK_take 5 (v := ?_) rfl (by kernel_rfl) (by kernel_rfl) (by kernel_rfl) (fun _ _ _ h => h) (by rfl) (by intro W hSw; go_simp; with_reducible rfl) ?_; try simp only [Act.put, List.setIfInBounds_toArray, List.set_cons_zero, List.set_cons_succ]
  refine wpAnyK_take 6 (v := ?_) rfl (by kernel_rfl) (by kernel_rfl) (by kernel_rfl) (fun _ _ _ h => h) (by rfl) (by intro W hSw; go_simp; with_reducible rfl) ?_; try simp only [Act.put, List.setIfInBounds_toArray, List.set_cons_zero, List.set_cons_succ]
  refine wpAnyK_take 7 (v := ?_) rfl (by kernel_rfl) (by kernel_rfl) (by kernel_rfl) (fun _ _ _ h => h) (by rfl) (by intro W hSw; go_simp; with_reducible rfl) ?_; try simp only [Act.put, List.setIfInBounds_toArray, List.set_cons_zero, List.set_cons_succ]
  refine wpAnyK_take 8 (v := ?_) rfl (by kernel_rfl) (by kernel_rfl) (by kernel_rfl) (fun _ _ _ h => h) (by rfl) (by intro W hSw; go_simp; with_reducible rfl) ?_; try simp only [Act.put, List.setIfInBounds_toArray, List.set_cons_zero, List.set_cons_succ]
  refine wpAnyK_take 9 (v := ?_) rfl (by kernel_rfl) (by kernel_rfl) (by kernel_rfl) (fun _ _ _ h => h) (by rfl) (by intro W hSw; go_simp; with_reducible rfl) ?_; try simp only [Act.put, List.setIfInBounds_toArray, List.set_cons_zero, List.set_cons_succ]
  refine wpAnyK_done (by kernel_rfl) ?_ _
  go_wp2_with fail
  go_ret2
  exact ⟨rfl, HB.out⟩
theorem stuck_any {w : World} {f : Nat} {s : Fr} {X : List Nat} (h : FrH w f s X) : Calls Tryz.prog 13 #[.pointer (some ⟨f, 0, none⟩)] w fun e w' => e = .returned (.int .i64 s.stuck) ∧ w' = w := by
  obtain ⟨c, h1, _⟩ := h
  have c15 : w.cell? ⟨f, 15, none⟩ = some (.int .i64 s.stuck) := cell_of_row _ _ 15 _ _ (0, 0) h1.row
  clear h1
  go_enter Tryz.func13, Tryz.ntmps13
  go_wp2_with fail
  go_ret
  exact ⟨rfl, rfl⟩
/-- A front that was just made. -/
def NewPost (w : World) (s : Fr) (e : Ending) (w' : World) : Prop := ∃ f X, e = .returned (.tuple #[.pointer (some ⟨f, 0, none⟩), .int .i64 0]) ∧ FrH w' f s X ∧ (∀ k ∈ X, w.heap.size ≤ k) ∧ Later w w'
structure NewArgs (w : World) (Ac Ar Ab : Option Addr) (cc cr cb : Nat) (C R : List Int) (B : List ByteArray) : Prop where
  c : Rd w 1 Ac C.length (ints C)
  r : Rd w 1 Ar R.length (ints R)
  b : Rd w 1 Ab B.length (strs B)
  cn : C.length ≤ 1099511627776
  rn : R.length ≤ 1099511627776
  bn : B.length ≤ 1099511627776
  c0 : Ac = none → C.length = 0
  r0 : Ar = none → R.length = 0
  b0 : Ab = none → B.length = 0
theorem NewArgs.later {w w' : World} {Ac Ar Ab : Option Addr} {cc cr cb : Nat} {C R : List Int} {B : List ByteArray} (h : NewArgs w Ac Ar Ab cc cr cb C R B) (hl : Later w w') : NewArgs w' Ac Ar Ab cc cr cb C R B :=
  ⟨h.c.below hl, h.r.below hl, h.b.below hl, h.cn, h.rn, h.bn, h.c0, h.r0, h.b0⟩
set_option maxHeartbeats 4000000 in
set_option maxRecDepth 100000 in
theorem new_bad {w : World} {Ac Ar Ab : Option Addr} {cc cr cb : Nat} {C R : List Int} {B : List ByteArray} (ha : NewArgs w Ac Ar Ab cc cr cb C R B) (node g e0 r version : Int) (hbad : newBad node g e0 r version C R B) :
    Calls Tryz.prog 14 #[.int .i64 node, .agg #[.int .i64 g, .int .i64 e0, .int .i64 r, .slice Ac C.length cc], .int .i64 version, .slice Ar R.length cr, .slice Ab B.length cb] w fun e w' => e = .returned (.tuple #[.pointer none, .int .i64 1]) ∧ Later w w' := by
  obtain ⟨n1, hn1⟩ : ∃ n, n = C.length := ⟨_, rfl⟩
  obtain ⟨n2, hn2⟩ : ∃ n, n = R.length := ⟨_, rfl⟩
  obtain ⟨n3, hn3⟩ : ∃ n, n = B.length := ⟨_, rfl⟩
  have HL := hide_ (later_alloc w (.cells #[.int .i64 g, .int .i64 e0, .int .i64 r, .slice Ac n1 cc] 37))
  have HST := hide_ (state_any (w := (w.alloc (.cells #[.int .i64 g, .int .i64 e0, .int .i64 r, .slice Ac n1 cc] 37))) (c := cc) (g := g) (e0 := e0) (r := r) ((ha.c.below HL.out)) rfl (by have := ha.cn; omega))
  have b1 : n1 ≤ 1099511627776 := by have := ha.cn; omega
  have b2 : n2 ≤ 1099511627776 := by have := ha.rn; omega
  have b3 : n3 ≤ 1099511627776 := by have := ha.bn; omega
  have hbad2 : node < 0 ∨ 255 < node ∨ stateB g e0 r C = false ∨ e0 < 1 ∨ n1 = 0 ∨ version < 0 ∨ n2 ≠ n3 + 1 := by rw [hn1, hn2, hn3]; exact hbad
  rw [← hn1] at HST ⊢
  rw [← hn2, ← hn3]
  clear hbad ha hn1 hn2 hn3
  obtain ⟨sb, hsb⟩ : ∃ b, b = stateB g e0 r C := ⟨_, rfl⟩
  rw [← hsb] at HST hbad2
  clear hsb
  by_cases c1 : node < 0
  · clear hbad2
    go_enter Tryz.func14, Tryz.ntmps14
    go_wp2_with fail
    go_ret2
    exact ⟨rfl, HL.out⟩
  · by_cases c2 : 255 < node
    · clear hbad2
      go_enter Tryz.func14, Tryz.ntmps14
      go_wp2_with fail
      go_ret2
      exact ⟨rfl, HL.out⟩
    · by_cases c3 : sb = false
      · clear hbad2
        subst c3
        go_enter Tryz.func14, Tryz.ntmps14
        go_wp2_with fail
        refine HST.out.mono ?_; rintro e w2 ⟨rfl, hl2⟩
        have hrow := later_row hl2 (heap_alloc_new w _)
        have z1 : w2.cell? ⟨w.heap.size, 1, none⟩ = some (.int .i64 e0) := cell_of_row _ _ 1 _ _ (0, 0) hrow
        have z3 : w2.cell? ⟨w.heap.size, 3, none⟩ = some (.slice Ac n1 cc) := cell_of_row _ _ 3 _ _ (0, 0) hrow
        have HL2 := hide_ (HL.out.trans hl2)
        clear hrow hl2 HST
        go_wp2_with fail
        go_ret2
        exact ⟨rfl, HL2.out⟩
      · by_cases c4 : e0 < 1
        · clear hbad2
          have c3t : sb = true := by simpa using c3
          subst c3t
          go_enter Tryz.func14, Tryz.ntmps14
          go_wp2_with fail
          refine HST.out.mono ?_; rintro e w2 ⟨rfl, hl2⟩
          have hrow := later_row hl2 (heap_alloc_new w _)
          have z1 : w2.cell? ⟨w.heap.size, 1, none⟩ = some (.int .i64 e0) := cell_of_row _ _ 1 _ _ (0, 0) hrow
          have z3 : w2.cell? ⟨w.heap.size, 3, none⟩ = some (.slice Ac n1 cc) := cell_of_row _ _ 3 _ _ (0, 0) hrow
          have HL2 := hide_ (HL.out.trans hl2)
          clear hrow hl2 HST
          go_wp2_with fail
          go_ret2
          exact ⟨rfl, HL2.out⟩
        · by_cases c5 : n1 = 0
          · clear hbad2
            have c3t : sb = true := by simpa using c3
            subst c3t
            subst c5
            go_enter Tryz.func14, Tryz.ntmps14
            go_wp2_with fail
            refine HST.out.mono ?_; rintro e w2 ⟨rfl, hl2⟩
            have hrow := later_row hl2 (heap_alloc_new w _)
            have z1 : w2.cell? ⟨w.heap.size, 1, none⟩ = some (.int .i64 e0) := cell_of_row _ _ 1 _ _ (0, 0) hrow
            have z3 : w2.cell? ⟨w.heap.size, 3, none⟩ = some (.slice Ac 0 cc) := cell_of_row _ _ 3 _ _ (0, 0) hrow
            have HL2 := hide_ (HL.out.trans hl2)
            clear hrow hl2 HST
            go_wp2_with fail
            go_ret2
            exact ⟨rfl, HL2.out⟩
          · by_cases c6 : version < 0
            · clear hbad2
              have c3t : sb = true := by simpa using c3
              subst c3t
              have c5' : ((n1 : Int) == 0) = false := by simp; omega
              go_enter Tryz.func14, Tryz.ntmps14
              go_wp2_with fail
              refine HST.out.mono ?_; rintro e w2 ⟨rfl, hl2⟩
              have hrow := later_row hl2 (heap_alloc_new w _)
              have z1 : w2.cell? ⟨w.heap.size, 1, none⟩ = some (.int .i64 e0) := cell_of_row _ _ 1 _ _ (0, 0) hrow
              have z3 : w2.cell? ⟨w.heap.size, 3, none⟩ = some (.slice Ac n1 cc) := cell_of_row _ _ 3 _ _ (0, 0) hrow
              have HL2 := hide_ (HL.out.trans hl2)
              clear hrow hl2 HST
              go_wp2_with fail
              go_ret2
              exact ⟨rfl, HL2.out⟩
            · by_cases c7 : n2 ≠ n3 + 1
              · clear hbad2
                have c3t : sb = true := by simpa using c3
                subst c3t
                have c5' : ((n1 : Int) == 0) = false := by simp; omega
                have c7' : (((n2 : Int)) != (n3 : Int) + 1) = true := by rw [bne_iff_ne]; omega
                go_enter Tryz.func14, Tryz.ntmps14
                go_wp2_with fail
                refine HST.out.mono ?_; rintro e w2 ⟨rfl, hl2⟩
                have hrow := later_row hl2 (heap_alloc_new w _)
                have z1 : w2.cell? ⟨w.heap.size, 1, none⟩ = some (.int .i64 e0) := cell_of_row _ _ 1 _ _ (0, 0) hrow
                have z3 : w2.cell? ⟨w.heap.size, 3, none⟩ = some (.slice Ac n1 cc) := cell_of_row _ _ 3 _ _ (0, 0) hrow
                have HL2 := hide_ (HL.out.trans hl2)
                clear hrow hl2 HST
                go_wp2_with fail
                go_ret2
                exact ⟨rfl, HL2.out⟩
              · exfalso; rcases hbad2 with h | h | h | h | h | h | h <;> first | exact c1 h | exact c2 h | exact c3 h | exact c4 h | exact c5 h | exact c6 h | exact c7 h
set_option maxHeartbeats 8000000 in
set_option maxRecDepth 100000 in
theorem new_form {w : World} {Ac Ar Ab : Option Addr} {cc cr cb : Nat} {C R : List Int} {B : List ByteArray} (ha : NewArgs w Ac Ar Ab cc cr cb C R B) (node g e0 r version : Int) (hgood : ¬ newBad node g e0 r version C R B) (hB : bndB B = false) :
    Calls Tryz.prog 14 #[.int .i64 node, .agg #[.int .i64 g, .int .i64 e0, .int .i64 r, .slice Ac C.length cc], .int .i64 version, .slice Ar R.length cr, .slice Ab B.length cb] w fun e w' => e = .returned (.tuple #[.pointer none, .int .i64 2]) ∧ Later w w' := by
  have HA := hide_ ha
  have hx : ¬ node < 0 ∧ ¬ 255 < node ∧ stateB g e0 r C = true ∧ ¬ e0 < 1 ∧ ¬ C.length = 0 ∧ ¬ version < 0 ∧ R.length = B.length + 1 := by
    unfold newBad at hgood
    refine ⟨fun h => hgood (.inl h), fun h => hgood (.inr (.inl h)), ?_, fun h => hgood (.inr (.inr (.inr (.inl h)))), fun h => hgood (.inr (.inr (.inr (.inr (.inl h))))), fun h => hgood (.inr (.inr (.inr (.inr (.inr (.inl h)))))), ?_⟩
    · cases hs : stateB g e0 r C with
      | true => rfl
      | false => exact absurd (.inr (.inr (.inl hs))) hgood
    · refine Decidable.byContradiction fun h => hgood (.inr (.inr (.inr (.inr (.inr (.inr h))))))
  obtain ⟨c1, c2, c3, c4, c5, c6, c7⟩ := hx
  obtain ⟨n1, hn1⟩ : ∃ n, n = C.length := ⟨_, rfl⟩
  obtain ⟨n2, hn2⟩ : ∃ n, n = R.length := ⟨_, rfl⟩
  obtain ⟨n3, hn3⟩ : ∃ n, n = B.length := ⟨_, rfl⟩
  have HL := hide_ (later_alloc w (.cells #[.int .i64 g, .int .i64 e0, .int .i64 r, .slice Ac n1 cc] 37))
  have HST := hide_ (state_any (w := (w.alloc (.cells #[.int .i64 g, .int .i64 e0, .int .i64 r, .slice Ac n1 cc] 37))) (c := cc) (g := g) (e0 := e0) (r := r) ((ha.c.below HL.out)) rfl (by have := ha.cn; omega))
  have b1 : n1 ≤ 1099511627776 := by have := ha.cn; omega
  have b2 : n2 ≤ 1099511627776 := by have := ha.rn; omega
  have b3 : n3 ≤ 1099511627776 := by have := ha.bn; omega
  rw [← hn1] at c5 HST ⊢
  rw [← hn2, ← hn3]
  rw [← hn2, ← hn3] at c7
  rw [c3] at HST
  have HN1 := hide_ hn1; have HN2 := hide_ hn2; have HN3 := hide_ hn3
  have HB := hide_ hB
  have HC7 := hide_ c7
  have c5' : ((n1 : Int) == 0) = false := by simp; omega
  have c7' : (((n2 : Int)) != (n3 : Int) + 1) = false := by simp; omega
  clear hgood ha hn1 hn2 hn3 c3 c5 c7 hB
  go_enter Tryz.func14, Tryz.ntmps14
  go_wp2_with fail
  refine HST.out.mono ?_; rintro e w2 ⟨rfl, hl2⟩
  have hrow := later_row hl2 (heap_alloc_new w _)
  have z1 : w2.cell? ⟨w.heap.size, 1, none⟩ = some (.int .i64 e0) := cell_of_row _ _ 1 _ _ (0, 0) hrow
  have z3 : w2.cell? ⟨w.heap.size, 3, none⟩ = some (.slice Ac n1 cc) := cell_of_row _ _ 3 _ _ (0, 0) hrow
  have HRW := hide_ hrow
  have HL2 := hide_ (HL.out.trans hl2)
  have HP := hide_ (Piece_any (w := w2) (c := cb) (HA.out.b.below HL2.out) rfl (by have := HA.out.bn; omega) 0)
  rw [← HN3.out] at HP
  clear hrow hl2 HST
  go_wp2_with fail
  refine HP.out.mono ?_; rintro e w3 ⟨rfl, hl3⟩
  have e2 : pieceE B 0 = 2 := by unfold pieceE; rw [HB.out]; rfl
  rw [e2]
  have HL3 := hide_ (HL2.out.trans hl3)
  clear e2 hl3 HP z1 z3
  go_wp2_with fail
  go_ret2
  exact ⟨rfl, HL3.out.al _⟩
theorem new_fin {w W5 Wf : World} {node g e0 r version : Int} {C R : List Int} {B : List ByteArray} {b1 b2 b3 mb fb : Nat} {v1 v2 v3 : Value} (hl : Later w W5) (hl2 : Later W5 Wf) (h1 : W5.ownsRow b1 3 1 v1 C.length (ints C)) (hb1 : w.heap.size ≤ b1)
    (h2 : Wf.ownsRow b2 3 1 v2 R.length (ints R)) (hb2 : W5.heap.size ≤ b2) (h3 : Wf.ownsRow b3 9 1 v3 B.length (strs B)) (hb3 : w.heap.size ≤ b3) (hm : MapM Wf mb []) (hmb : w.heap.size ≤ mb)
    (hrow : Wf.heap[fb]? = some (.cells #[.int .i64 node, .int .i64 g, .int .i64 e0, .int .i64 r, v1, v2, v3, .int .i64 version, .int .i64 version, .bool false, .map (some mb), .slice none 0 0, .slice none 0 0, .int .i64 0, .pointer none, .int .i64 0, .bool false] 75 (0, 0))) (hfb : w.heap.size ≤ fb) :
    NewPost w (fr0 node g e0 r version C R B) (.returned (.tuple #[.pointer (some ⟨fb, 0, none⟩), .int .i64 0])) Wf := by
  have g1 := own_below h1 hl2
  have hC : ∀ g, v1.ownBlock = some g → w.heap.size ≤ g ∧ g < W5.heap.size ∧ ∃ cs, Wf.heap[g]? = some (.cells cs 3 (0, 0)) := fun g hg => by
    obtain ⟨x1, x2, x3⟩ := own_block h1 hg
    obtain ⟨_, _, x4⟩ := own_block g1 hg
    exact ⟨by omega, x2, x4⟩
  have hR : ∀ g, v2.ownBlock = some g → W5.heap.size ≤ g ∧ ∃ cs, Wf.heap[g]? = some (.cells cs 3 (0, 0)) := fun g hg => by
    obtain ⟨x1, x2, x3⟩ := own_block h2 hg
    exact ⟨by omega, x3⟩
  have hBs : ∀ g, v3.ownBlock = some g → w.heap.size ≤ g ∧ ∃ cs, Wf.heap[g]? = some (.cells cs 9 (0, 0)) := fun g hg => by
    obtain ⟨x1, x2, x3⟩ := own_block h3 hg
    exact ⟨by omega, x3⟩
  obtain ⟨es, ck, hmap⟩ := hm.map
  have ne : ∀ {i j : Nat} {cs cs2 : Array Value} {t t2 : TypeId} {f f2 : Nat × Nat}, Wf.heap[i]? = some (.cells cs t f) → Wf.heap[j]? = some (.cells cs2 t2 f2) → t ≠ t2 → i ≠ j := fun h k ht e => by
    subst e; rw [h] at k; injection k with k; injection k with _ k _; exact ht k
  have nem : ∀ {i : Nat} {cs : Array Value} {t : TypeId} {f : Nat × Nat}, Wf.heap[i]? = some (.cells cs t f) → i ≠ mb := fun h e => by
    subst e; rw [h] at hmap; injection hmap with hmap; cases hmap
  have hls := hl.size
  refine ⟨fb, _, rfl, ⟨⟨v1, v2, v3, mb, .slice none 0 0, .slice none 0 0, .pointer none, obL v1, obL v2, obL v3, [], [], []⟩, ⟨hrow, ints_holds.2 ⟨v1, rfl, own_base g1 (Nat.zero_le _), rfl⟩, ints_holds.2 ⟨v2, rfl, own_base h2 (Nat.zero_le _), rfl⟩, strs_holds.2 ⟨v3, rfl, own_base h3 (Nat.zero_le _), rfl⟩, hm, ⟨_, [], [], rfl, World.ownsRow_nil _ _ _ _, trivial, rfl⟩, ⟨_, [], [], rfl, World.ownsRow_nil _ _ _ _, trivial, rfl⟩, rfl, rfl⟩, rfl, ?_⟩, ?_, hl.trans hl2⟩
  · simp only [FrC.blocks, List.append_nil, List.nodup_cons, List.mem_cons, List.mem_append, mem_obL, not_or, List.nodup_append]
    refine ⟨⟨nem hrow, ⟨fun h => ?_, fun h => ?_⟩, fun h => ?_⟩, ⟨⟨fun h => ?_, fun h => ?_⟩, fun h => ?_⟩, ⟨?_, ?_, ?_⟩, ?_, ?_⟩
    · obtain ⟨_, _, cs, x⟩ := hC _ h; exact ne hrow x (by decide) rfl
    · obtain ⟨_, cs, x⟩ := hR _ h; exact ne hrow x (by decide) rfl
    · obtain ⟨_, cs, x⟩ := hBs _ h; exact ne hrow x (by decide) rfl
    · obtain ⟨_, _, cs, x⟩ := hC _ h; exact nem x rfl
    · obtain ⟨_, cs, x⟩ := hR _ h; exact nem x rfl
    · obtain ⟨_, cs, x⟩ := hBs _ h; exact nem x rfl
    · exact obL_nodup v1
    · exact obL_nodup v2
    · intro a ha b hb
      have x1 := (hC a ha).2.1
      have x2 := (hR b hb).1
      omega
    · exact obL_nodup v3
    · intro a ha b hb
      obtain ⟨_, cs, x⟩ := hBs b hb
      rcases ha with h | h
      · obtain ⟨_, _, cs2, y⟩ := hC a h; exact ne y x (by decide)
      · obtain ⟨_, cs2, y⟩ := hR a h; exact ne y x (by decide)
  · intro k hk
    simp only [FrC.blocks, List.append_nil, List.mem_cons, List.mem_append, mem_obL] at hk
    rcases hk with rfl | rfl | (hk | hk) | hk
    · exact hfb
    · exact hmb
    · exact (hC k hk).1
    · have := (hR k hk).1; omega
    · exact (hBs k hk).1
set_option maxHeartbeats 8000000 in
set_option maxRecDepth 100000 in
theorem new_ok {w : World} {Ac Ar Ab : Option Addr} {cc cr cb : Nat} {C R : List Int} {B : List ByteArray} (ha : NewArgs w Ac Ar Ab cc cr cb C R B) (node g e0 r version : Int) (hgood : ¬ newBad node g e0 r version C R B) (hB : bndB B = true) :
    Calls Tryz.prog 14 #[.int .i64 node, .agg #[.int .i64 g, .int .i64 e0, .int .i64 r, .slice Ac C.length cc], .int .i64 version, .slice Ar R.length cr, .slice Ab B.length cb] w (NewPost w (fr0 node g e0 r version C R B)) := by
  have HA := hide_ ha
  have hx : ¬ node < 0 ∧ ¬ 255 < node ∧ stateB g e0 r C = true ∧ ¬ e0 < 1 ∧ ¬ C.length = 0 ∧ ¬ version < 0 ∧ R.length = B.length + 1 := by
    unfold newBad at hgood
    refine ⟨fun h => hgood (.inl h), fun h => hgood (.inr (.inl h)), ?_, fun h => hgood (.inr (.inr (.inr (.inl h)))), fun h => hgood (.inr (.inr (.inr (.inr (.inl h))))), fun h => hgood (.inr (.inr (.inr (.inr (.inr (.inl h)))))), ?_⟩
    · cases hs : stateB g e0 r C with
      | true => rfl
      | false => exact absurd (.inr (.inr (.inl hs))) hgood
    · refine Decidable.byContradiction fun h => hgood (.inr (.inr (.inr (.inr (.inr (.inr h))))))
  obtain ⟨c1, c2, c3, c4, c5, c6, c7⟩ := hx
  obtain ⟨n1, hn1⟩ : ∃ n, n = C.length := ⟨_, rfl⟩
  obtain ⟨n2, hn2⟩ : ∃ n, n = R.length := ⟨_, rfl⟩
  obtain ⟨n3, hn3⟩ : ∃ n, n = B.length := ⟨_, rfl⟩
  have HL := hide_ (later_alloc w (.cells #[.int .i64 g, .int .i64 e0, .int .i64 r, .slice Ac n1 cc] 37))
  have HST := hide_ (state_any (w := (w.alloc (.cells #[.int .i64 g, .int .i64 e0, .int .i64 r, .slice Ac n1 cc] 37))) (c := cc) (g := g) (e0 := e0) (r := r) ((ha.c.below HL.out)) rfl (by have := ha.cn; omega))
  have b1 : n1 ≤ 1099511627776 := by have := ha.cn; omega
  have b2 : n2 ≤ 1099511627776 := by have := ha.rn; omega
  have b3 : n3 ≤ 1099511627776 := by have := ha.bn; omega
  rw [← hn1] at c5 HST ⊢
  rw [← hn2, ← hn3]
  rw [← hn2, ← hn3] at c7
  rw [c3] at HST
  have HN1 := hide_ hn1; have HN2 := hide_ hn2; have HN3 := hide_ hn3
  have HB := hide_ hB
  have HC7 := hide_ c7
  have c5' : ((n1 : Int) == 0) = false := by simp; omega
  have c7' : (((n2 : Int)) != (n3 : Int) + 1) = false := by simp; omega
  clear hgood ha hn1 hn2 hn3 c3 c5 c7 hB
  go_enter Tryz.func14, Tryz.ntmps14
  go_wp2_with fail
  refine HST.out.mono ?_; rintro e w2 ⟨rfl, hl2⟩
  have hrow := later_row hl2 (heap_alloc_new w _)
  have z1 : w2.cell? ⟨w.heap.size, 1, none⟩ = some (.int .i64 e0) := cell_of_row _ _ 1 _ _ (0, 0) hrow
  have z3 : w2.cell? ⟨w.heap.size, 3, none⟩ = some (.slice Ac n1 cc) := cell_of_row _ _ 3 _ _ (0, 0) hrow
  have HRW := hide_ hrow
  have HL2 := hide_ (HL.out.trans hl2)
  have HP := hide_ (Piece_any (w := w2) (c := cb) (HA.out.b.below HL2.out) rfl (by have := HA.out.bn; omega) 0)
  rw [← HN3.out] at HP
  clear hrow hl2 HST
  go_wp2_with fail
  refine HP.out.mono ?_; rintro e w3 ⟨rfl, hl3⟩
  have e2 : pieceE B 0 = 0 := by unfold pieceE; rw [HB.out, if_neg (by decide), if_neg (by omega)]
  rw [e2]
  have HL3 := hide_ (HL2.out.trans hl3)
  have HRW3 := hide_ (later_row hl3 HRW.out)
  clear e2 hl3 HP z1 z3 HRW
  have zlt : w.heap.size < w3.heap.size := theap_lt HRW3.out
  have z3 : w3.cell? ⟨w.heap.size, 3, none⟩ = some (.slice Ac n1 cc) := cell_of_row _ _ 3 _ _ (0, 0) HRW3.out
  go_wp2_with fail
  obtain ⟨W3, hW3⟩ : ∃ W, W = w3.alloc (.cells #[.string (pieceV B 0).1, .string (pieceV B 0).2] 81) := ⟨_, rfl⟩
  have HR4 := hide_ (show W3.heap[w.heap.size]? = some (.cells #[.int .i64 g, .int .i64 e0, .int .i64 r, .slice Ac n1 cc] 37 (0, 0)) by rw [hW3]; exact row_al HRW3.out _)
  have HL4 := hide_ (show Later w W3 by rw [hW3]; exact HL3.out.al _)
  rw [← hW3]
  have HR3 := HR4
  clear hW3 z3 zlt HRW3 HL3 HL2 HL
  have HCL := hide_ (clone_int (w := W3) (c := cc) (HA.out.c.below HL4.out) (ints_one _) HA.out.cn HA.out.c0)
  rw [← HN1.out] at HCL
  refine HCL.out.mono ?_; rintro e w4 ⟨A4, c4', rfl, ho4, hl4, hn4⟩
  have hr4 := later_row hl4 HR4.out
  have z3 : w4.cell? ⟨w.heap.size, 3, none⟩ = some (.slice Ac n1 cc) := cell_of_row _ _ 3 _ _ (0, 0) hr4
  have zf := frozen_of_row _ _ 3 _ _ hr4
  have HO4 := hide_ ho4; have HR5 := hide_ hr4; have HL5 := hide_ (HL4.out.trans hl4)
  clear ho4 hl4 hn4 hr4 HCL HR4
  go_wp2_with fail
  obtain ⟨W5, hW5⟩ : ∃ W, W = w4.setCell ⟨w.heap.size, 3, none⟩ (.slice A4 n1 c4') := ⟨_, rfl⟩
  rw [← hW5]
  have hr6 : W5.heap[w.heap.size]? = some (.cells #[.int .i64 g, .int .i64 e0, .int .i64 r, .slice A4 n1 c4'] 37 (0, 0)) := by rw [hW5]; exact heap_setCell_same w4 _ 3 _ _ _ HR5.out
  have hl6 : Later w W5 := by
    rw [hW5]
    exact Below.trans HL5.out (((Hits.refl (· = w.heap.size) w4).setCell (g := w.heap.size) (fun _ => rfl) 3 _).below (B := w.heap.size) HL5.out.size fun k hk => by omega)
  have HO6 := hide_ (show W5.ownsRow W3.heap.size 3 1 (.slice A4 n1 c4') n1 (ints C) by rw [hW5]; exact own_put HO4.out (theap_lt (later_row (Later.refl _) (show W3.heap[w.heap.size]? = _ from HR3.out))))
  have hlt6 := theap_lt hr6
  have k0 := Stands.cell (X := fun k => k < W5.heap.size) (show W5.cell? ⟨w.heap.size, 0, none⟩ = some (.int .i64 g) from cell_of_row _ _ 0 _ _ (0, 0) hr6) hlt6
  have k1 := Stands.cell (X := fun k => k < W5.heap.size) (show W5.cell? ⟨w.heap.size, 1, none⟩ = some (.int .i64 e0) from cell_of_row _ _ 1 _ _ (0, 0) hr6) hlt6
  have k2 := Stands.cell (X := fun k => k < W5.heap.size) (show W5.cell? ⟨w.heap.size, 2, none⟩ = some (.int .i64 r) from cell_of_row _ _ 2 _ _ (0, 0) hr6) hlt6
  have k3 := Stands.cell (X := fun k => k < W5.heap.size) (show W5.cell? ⟨w.heap.size, 3, none⟩ = some (.slice A4 n1 c4') from cell_of_row _ _ 3 _ _ (0, 0) hr6) hlt6
  have hmm := @run_makeMap Tryz.prog
  have HQr := hide_ (show Rd w 1 Ar n2 (ints R) by rw [HN2.out]; exact HA.out.r)
  have HQb := hide_ (show Rd w 1 Ab n3 (strs B) by rw [HN3.out]; exact HA.out.b)
  have HZr := hide_ (show Ar = none → n2 = 0 by rw [HN2.out]; exact HA.out.r0)
  have HZb := hide_ (show Ab = none → n3 = 0 by rw [HN3.out]; exact HA.out.b0)
  have HR6 := hide_ hr6
  clear hr6 hW5 z3 zf HR5 HL5 HO4
  refine wp_region_z (R := Stands (fun k => k < W5.heap.size)) [] (by kernel_rfl) ?_
  refine wpAnyZ_take0 (Stands.steady (fun k => k < W5.heap.size)) 0 (v := ?_) rfl (by kernel_rfl) (by kernel_rfl) (by kernel_rfl) (fun _ _ _ h => h) (by rfl) (by intro W hSw; go_simp; with_reducible rfl) ?_; try simp only [Act.put, List.setIfInBounds_toArray, List.set_cons_zero, List.set_cons_succ]
  refine wpAnyZ_take0 (Stands.steady (fun k => k < W5.heap.size)) 1 (v := ?_) rfl (by kernel_rfl) (by kernel_rfl) (by kernel_rfl) (fun _ _ _ h => h) (by rfl) (by intro W hSw; have hS0 := Stands.trans (show Stands (fun k => k < W5.heap.size) W5 _ from by repeat first | assumption | exact Stands.refl _ _ | refine Stands.alloc ?_ _ | refine Stands.drew ?_ | refine Stands.trans ?_ (by assumption)) hSw; go_simp; with_reducible rfl) ?_; try simp only [Act.put, List.setIfInBounds_toArray, List.set_cons_zero, List.set_cons_succ]
  refine wpAnyZ_take0 (Stands.steady (fun k => k < W5.heap.size)) 2 (v := ?_) rfl (by kernel_rfl) (by kernel_rfl) (by kernel_rfl) (fun _ _ _ h => h) (by rfl) (by intro W hSw; go_simp; with_reducible rfl) ?_; try simp only [Act.put, List.setIfInBounds_toArray, List.set_cons_zero, List.set_cons_succ]
  refine wpAnyZ_take0 (Stands.steady (fun k => k < W5.heap.size)) 4 (v := ?_) rfl (by kernel_rfl) (by kernel_rfl) (by kernel_rfl) (fun _ _ _ h => h) (by rfl) (by intro W hSw; go_simp; with_reducible rfl) ?_; try simp only [Act.put, List.setIfInBounds_toArray, List.set_cons_zero, List.set_cons_succ]
  refine wpAnyZ_take0 (Stands.steady (fun k => k < W5.heap.size)) 6 (v := ?_) rfl (by kernel_rfl) (by kernel_rfl) (by kernel_rfl) (fun _ _ _ h => h) (by rfl) (by intro W hSw; go_simp; with_reducible rfl) ?_; try simp only [Act.put, List.setIfInBounds_toArray, List.set_cons_zero, List.set_cons_succ]
  refine wpAnyZ_take0 (Stands.steady (fun k => k < W5.heap.size)) 7 (v := ?_) rfl (by kernel_rfl) (by kernel_rfl) (by kernel_rfl) (fun _ _ _ h => h) (by rfl) (by intro W hSw; go_simp; with_reducible rfl) ?_; try simp only [Act.put, List.setIfInBounds_toArray, List.set_cons_zero, List.set_cons_succ]
  refine wpAnyZ_two 3 8 (by kernel_rfl) rfl rfl (fun K hK => ?_) (fun K hK => ?_)
  rotate_right 1
  focus
    go_simp
    refine hK.out _ _ (.inr (by repeat first | assumption | exact Stands.refl _ _ | refine Stands.alloc ?_ _ | refine Stands.drew ?_ | refine Stands.of_later ?_)) ?_
    clear hK K; try simp only [Act.put, List.setIfInBounds_toArray, List.set_cons_zero, List.set_cons_succ]
    refine wpAnyZ_one 3 (by kernel_rfl) rfl (fun K hK => ?_)
    go_simp
    refine (clone_int (c := cr) (HQr.out.below (by show Later w _; repeat (first | with_reducible exact hl6 | with_reducible refine Later.al ?_ _ | with_reducible refine Later.dr ?_ | with_reducible refine Later.trans ?_ hlb6 | with_reducible refine Later.trans ?_ hlb7))) (ints_one _) b2 HZr.out).mono ?_; rintro e w6 ⟨A6, c6, rfl, ho6, hlb6, hn6⟩; have HO7 := hide_ ho6; have hs6 : Stands (fun k => k < W5.heap.size) _ w6 := Stands.of_later hlb6; clear ho6 hn6
    refine hK.out _ _ (by repeat first | assumption | exact Stands.refl _ _ | refine Stands.alloc ?_ _ | refine Stands.drew ?_ | refine Stands.of_later ?_) ?_
    clear hK K; try simp only [Act.put, List.setIfInBounds_toArray, List.set_cons_zero, List.set_cons_succ]
    refine wpAnyZ_one 5 (by kernel_rfl) rfl (fun K hK => ?_)
    go_simp
    refine (clone_str (c := cb) (HQb.out.below (by show Later w _; repeat (first | with_reducible exact hl6 | with_reducible refine Later.al ?_ _ | with_reducible refine Later.dr ?_ | with_reducible refine Later.trans ?_ hlb6 | with_reducible refine Later.trans ?_ hlb7))) (strs_one _) b3 HZb.out).mono ?_; rintro e w7 ⟨A7, c7s, rfl, ho7, hlb7, hn7⟩; have HO8 := hide_ ho7; have hs7 : Stands (fun k => k < W5.heap.size) _ w7 := Stands.of_later hlb7; clear ho7 hn7
    refine hK.out _ _ (by repeat first | assumption | exact Stands.refl _ _ | refine Stands.alloc ?_ _ | refine Stands.drew ?_ | refine Stands.of_later ?_) ?_
    clear hK K; try simp only [Act.put, List.setIfInBounds_toArray, List.set_cons_zero, List.set_cons_succ]
    refine wpAnyZ_take0 (Stands.steady (fun k => k < W5.heap.size)) 9 (v := ?_) rfl (by kernel_rfl) (by kernel_rfl) (by kernel_rfl) (fun _ _ _ h => h) (by rfl) (by intro W hSw; go_simp; with_reducible rfl) ?_; try simp only [Act.put, List.setIfInBounds_toArray, List.set_cons_zero, List.set_cons_succ]
    refine wpAnyZ_one 10 (by kernel_rfl) rfl (fun K hK => ?_)
    go_simp
    refine hK.out _ _ (by repeat first | assumption | exact Stands.refl _ _ | refine Stands.alloc ?_ _ | refine Stands.drew ?_ | refine Stands.of_later ?_) ?_
    clear hK K; try simp only [Act.put, List.setIfInBounds_toArray, List.set_cons_zero, List.set_cons_succ]
    refine wpAnyZ_take0 (Stands.steady (fun k => k < W5.heap.size)) 11 (v := ?_) rfl (by kernel_rfl) (by kernel_rfl) (by kernel_rfl) (fun _ _ _ h => h) (by rfl) (by intro W hSw; go_simp; with_reducible rfl) ?_; try simp only [Act.put, List.setIfInBounds_toArray, List.set_cons_zero, List.set_cons_succ]
    refine wpAnyZ_take0 (Stands.steady (fun k => k < W5.heap.size)) 12 (v := ?_) rfl (by kernel_rfl) (by kernel_rfl) (by kernel_rfl) (fun _ _ _ h => h) (by rfl) (by intro W hSw; go_simp; with_reducible rfl) ?_; try simp only [Act.put, List.setIfInBounds_toArray, List.set_cons_zero, List.set_cons_succ]
    refine wpAnyZ_done (by kernel_rfl) ?_ _
  rotate_right 1
  focus
    go_simp
    refine (clone_int (c := cr) (HQr.out.below (by show Later w _; repeat (first | with_reducible exact hl6 | with_reducible refine Later.al ?_ _ | with_reducible refine Later.dr ?_ | with_reducible refine Later.trans ?_ hlb6 | with_reducible refine Later.trans ?_ hlb7))) (ints_one _) b2 HZr.out).mono ?_; rintro e w6 ⟨A6, c6, rfl, ho6, hlb6, hn6⟩; have HO7 := hide_ ho6; have hs6 : Stands (fun k => k < W5.heap.size) _ w6 := Stands.of_later hlb6; clear ho6 hn6
    refine hK.out _ _ (.inr (by repeat first | assumption | exact Stands.refl _ _ | refine Stands.alloc ?_ _ | refine Stands.drew ?_ | refine Stands.of_later ?_)) ?_
    clear hK K; try simp only [Act.put, List.setIfInBounds_toArray, List.set_cons_zero, List.set_cons_succ]
    refine wpAnyZ_two 5 8 (by kernel_rfl) rfl rfl (fun K hK => ?_) (fun K hK => ?_)
    rotate_right 1
    focus
      go_simp
      refine hK.out _ _ (.inr (by repeat first | assumption | exact Stands.refl _ _ | refine Stands.alloc ?_ _ | refine Stands.drew ?_ | refine Stands.of_later ?_)) ?_
      clear hK K; try simp only [Act.put, List.setIfInBounds_toArray, List.set_cons_zero, List.set_cons_succ]
      refine wpAnyZ_one 5 (by kernel_rfl) rfl (fun K hK => ?_)
      go_simp
      refine (clone_str (c := cb) (HQb.out.below (by show Later w _; repeat (first | with_reducible exact hl6 | with_reducible refine Later.al ?_ _ | with_reducible refine Later.dr ?_ | with_reducible refine Later.trans ?_ hlb6 | with_reducible refine Later.trans ?_ hlb7))) (strs_one _) b3 HZb.out).mono ?_; rintro e w7 ⟨A7, c7s, rfl, ho7, hlb7, hn7⟩; have HO8 := hide_ ho7; have hs7 : Stands (fun k => k < W5.heap.size) _ w7 := Stands.of_later hlb7; clear ho7 hn7
      refine hK.out _ _ (by repeat first | assumption | exact Stands.refl _ _ | refine Stands.alloc ?_ _ | refine Stands.drew ?_ | refine Stands.of_later ?_) ?_
      clear hK K; try simp only [Act.put, List.setIfInBounds_toArray, List.set_cons_zero, List.set_cons_succ]
      refine wpAnyZ_take0 (Stands.steady (fun k => k < W5.heap.size)) 9 (v := ?_) rfl (by kernel_rfl) (by kernel_rfl) (by kernel_rfl) (fun _ _ _ h => h) (by rfl) (by intro W hSw; go_simp; with_reducible rfl) ?_; try simp only [Act.put, List.setIfInBounds_toArray, List.set_cons_zero, List.set_cons_succ]
      refine wpAnyZ_one 10 (by kernel_rfl) rfl (fun K hK => ?_)
      go_simp
      refine hK.out _ _ (by repeat first | assumption | exact Stands.refl _ _ | refine Stands.alloc ?_ _ | refine Stands.drew ?_ | refine Stands.of_later ?_) ?_
      clear hK K; try simp only [Act.put, List.setIfInBounds_toArray, List.set_cons_zero, List.set_cons_succ]
      refine wpAnyZ_take0 (Stands.steady (fun k => k < W5.heap.size)) 11 (v := ?_) rfl (by kernel_rfl) (by kernel_rfl) (by kernel_rfl) (fun _ _ _ h => h) (by rfl) (by intro W hSw; go_simp; with_reducible rfl) ?_; try simp only [Act.put, List.setIfInBounds_toArray, List.set_cons_zero, List.set_cons_succ]
      refine wpAnyZ_take0 (Stands.steady (fun k => k < W5.heap.size)) 12 (v := ?_) rfl (by kernel_rfl) (by kernel_rfl) (by kernel_rfl) (fun _ _ _ h => h) (by rfl) (by intro W hSw; go_simp; with_reducible rfl) ?_; try simp only [Act.put, List.setIfInBounds_toArray, List.set_cons_zero, List.set_cons_succ]
      refine wpAnyZ_done (by kernel_rfl) ?_ _
    rotate_right 1
    focus
      go_simp
      refine (clone_str (c := cb) (HQb.out.below (by show Later w _; repeat (first | with_reducible exact hl6 | with_reducible refine Later.al ?_ _ | with_reducible refine Later.dr ?_ | with_reducible refine Later.trans ?_ hlb6 | with_reducible refine Later.trans ?_ hlb7))) (strs_one _) b3 HZb.out).mono ?_; rintro e w7 ⟨A7, c7s, rfl, ho7, hlb7, hn7⟩; have HO8 := hide_ ho7; have hs7 : Stands (fun k => k < W5.heap.size) _ w7 := Stands.of_later hlb7; clear ho7 hn7
      refine hK.out _ _ (.inr (by repeat first | assumption | exact Stands.refl _ _ | refine Stands.alloc ?_ _ | refine Stands.drew ?_ | refine Stands.of_later ?_)) ?_
      clear hK K; try simp only [Act.put, List.setIfInBounds_toArray, List.set_cons_zero, List.set_cons_succ]
      refine wpAnyZ_one 8 (by kernel_rfl) rfl (fun K hK => ?_)
      go_simp
      refine hK.out _ _ (by repeat first | assumption | exact Stands.refl _ _ | refine Stands.alloc ?_ _ | refine Stands.drew ?_ | refine Stands.of_later ?_) ?_
      clear hK K; try simp only [Act.put, List.setIfInBounds_toArray, List.set_cons_zero, List.set_cons_succ]
      refine wpAnyZ_take0 (Stands.steady (fun k => k < W5.heap.size)) 9 (v := ?_) rfl (by kernel_rfl) (by kernel_rfl) (by kernel_rfl) (fun _ _ _ h => h) (by rfl) (by intro W hSw; go_simp; with_reducible rfl) ?_; try simp only [Act.put, List.setIfInBounds_toArray, List.set_cons_zero, List.set_cons_succ]
      refine wpAnyZ_one 10 (by kernel_rfl) rfl (fun K hK => ?_)
      go_simp
      refine hK.out _ _ (by repeat first | assumption | exact Stands.refl _ _ | refine Stands.alloc ?_ _ | refine Stands.drew ?_ | refine Stands.of_later ?_) ?_
      clear hK K; try simp only [Act.put, List.setIfInBounds_toArray, List.set_cons_zero, List.set_cons_succ]
      refine wpAnyZ_take0 (Stands.steady (fun k => k < W5.heap.size)) 11 (v := ?_) rfl (by kernel_rfl) (by kernel_rfl) (by kernel_rfl) (fun _ _ _ h => h) (by rfl) (by intro W hSw; go_simp; with_reducible rfl) ?_; try simp only [Act.put, List.setIfInBounds_toArray, List.set_cons_zero, List.set_cons_succ]
      refine wpAnyZ_take0 (Stands.steady (fun k => k < W5.heap.size)) 12 (v := ?_) rfl (by kernel_rfl) (by kernel_rfl) (by kernel_rfl) (fun _ _ _ h => h) (by rfl) (by intro W hSw; go_simp; with_reducible rfl) ?_; try simp only [Act.put, List.setIfInBounds_toArray, List.set_cons_zero, List.set_cons_succ]
      refine wpAnyZ_done (by kernel_rfl) ?_ _
  all_goals (
    go_wp2_with fail
    have e1 := HN1.out; have e2 := HN2.out; have e3 := HN3.out
    subst e1 e2 e3
    go_ret2
    have s4 := hl6.size
    have s5 := HL4.out.size
    have L56 : Later W5 w6 := by first | exact (Later.refl W5).dr.trans hlb6 | exact ((Later.refl W5).al _).dr.trans hlb6
    have L67 : Later w6 w7 := by first | exact hlb7 | exact ((Later.refl w6).al _).trans hlb7
    have s6 := L56.size
    have s7 := L67.size
    first
      | exact new_fin (W5 := W5) (Wf := (w7.alloc _).alloc _) hl6 ((((L56.trans L67).al _)).al _) HO6.out (by omega) (own_below HO7.out ((L67.al _).al _)) (by simp) (own_below HO8.out (((Later.refl w7).al _).al _)) (by omega) ((MapM.made w7).later (later_alloc _ _)) (by omega) (row_new2 w7 _ _) (by omega)
      | exact new_fin (W5 := W5) (Wf := w7.alloc _) hl6 ((L56.trans L67).al _) HO6.out (by omega) (own_below HO7.out (L67.al _)) (by simp) (own_below HO8.out (later_alloc _ _)) (by simp; omega) ((MapM.made w6).later (hlb7.al _)) (by omega) (heap_alloc_new w7 _) (by omega)
      | exact new_fin (W5 := W5) (Wf := w7.alloc _) hl6 ((L56.trans L67).al _) HO6.out (by omega) (own_below HO7.out (L67.al _)) (by simp) (own_below HO8.out (later_alloc _ _)) (by omega) ((MapM.made W5).later ((Later.refl (W5.alloc (.map #[] 0))).dr.trans (hlb6.trans (L67.al _)))) (by omega) (heap_alloc_new w7 _) (by omega))

end Go.Proofs.YtcmollfhlillfaaGreatDoor
