/-
  Words for memory that a seat needs that has no texts of spans: rows that stay, new blocks, rows of numbers.
-/
import Derived.Test.YtcmollfhlillfaaGreatDoorProg
import Derived.Test.YtcmollfhlillfaaGreatDoorTurns
import Derived.Test.YtcmollfhlillfaaGreatDoorRec
namespace Go.Proofs.YtcmollfhlillfaaGreatDoor
open Go.RowKit
set_option linter.unusedVariables false
theorem heap_lt0 {w : World} {k : Nat} {o : Obj} (h : w.heap[k]? = some o) : k < w.heap.size := by
  rcases Nat.lt_or_ge k w.heap.size with hlt | hge
  · exact hlt
  · rw [Array.getElem?_eq_none hge] at h; cases h
theorem own_cap2 {w : World} {base n size c : Nat} {e : TypeId} {A : Option Addr} {xs : List Value} (h : w.ownsRow base e size (.slice A n c) n xs) : (A = none → n = 0) ∧ n ≤ c := by
  rcases h.2 with ⟨h1, h2, _⟩ | ⟨g, cap, cur, h1, _, _, h2, _⟩
  · injection h1 with h1 h3 h4; subst h1
    exact ⟨fun _ => by omega, by omega⟩
  · injection h1 with h1 h3 h4; subst h1 h4
    exact ⟨fun h => (by cases h), h2⟩
theorem row_al {w : World} {k : Nat} {o : Obj} (h : w.heap[k]? = some o) (ob : Obj) : (w.alloc ob).heap[k]? = some o := by
  rw [← h]; exact Below.heap_alloc w ob k (heap_lt0 h)
theorem later_alloc (w : World) (ob : Obj) : Later w (w.alloc ob) := (Below.refl _ _).alloc (Nat.le_refl _) _
theorem row_al_later {W W' : World} {Z : Obj} (h : Later (W.alloc Z) W') : W'.heap[W.heap.size]? = some Z := (h.block _ (by simp)).trans (heap_alloc_new W _)
theorem row_new2 (w : World) (o1 o2 : Obj) : ((w.alloc o1).alloc o2).heap[w.heap.size + 1]? = some o2 := by
  have h := heap_alloc_new (w.alloc o1) o2
  rwa [show (w.alloc o1).heap.size = w.heap.size + 1 by simp] at h
theorem take_snoc {α : Type} {L : List α} {k : Nat} {x : α} (h : L[k]? = some x) : L.take (k + 1) = L.take k ++ [x] := by
  have e := List.getElem?_eq_some_iff.1 h
  rw [← List.take_append_getElem e.1, e.2]
theorem own_base {w : World} {base base' : Nat} {e : TypeId} {size n : Nat} {v : Value} {xs : List Value} (h : w.ownsRow base e size v n xs) (hb : base' ≤ base) : w.ownsRow base' e size v n xs := by
  refine ⟨h.1, ?_⟩
  rcases h.2 with h0 | ⟨g, cap, cur, hv, hbb, hh, hr⟩
  · exact .inl h0
  · exact .inr ⟨g, cap, cur, hv, by omega, hh, hr⟩
theorem alloc2_at (w : World) (o1 o2 : Obj) : ((w.alloc o1).alloc o2).heap[w.heap.size]? = some o1 ∧ ((w.alloc o1).alloc o2).heap[w.heap.size + 1]? = some o2 ∧ Later w ((w.alloc o1).alloc o2) :=
  ⟨row_al (heap_alloc_new w o1) o2, row_new2 w o1 o2, (later_alloc _ _).trans (later_alloc _ _)⟩
theorem alloc3_at (w : World) (o1 o2 o3 : Obj) : (((w.alloc o1).alloc o2).alloc o3).heap[w.heap.size]? = some o1 ∧ (((w.alloc o1).alloc o2).alloc o3).heap[w.heap.size + 1]? = some o2 ∧ (((w.alloc o1).alloc o2).alloc o3).heap[w.heap.size + 1 + 1]? = some o3 ∧ Later w (((w.alloc o1).alloc o2).alloc o3) := by
  obtain ⟨h1, h2, h3⟩ := alloc2_at w o1 o2
  refine ⟨row_al h1 o3, row_al h2 o3, ?_, h3.trans (later_alloc _ _)⟩
  have h := heap_alloc_new ((w.alloc o1).alloc o2) o3
  rwa [show ((w.alloc o1).alloc o2).heap.size = w.heap.size + 1 + 1 by simp] at h
theorem later_row {w w' : World} {k : Nat} {o : Obj} (h : Later w w') (hk : w.heap[k]? = some o) : w'.heap[k]? = some o := (h.block k (heap_lt0 hk)).trans hk
def ints (V : List Int) : List Value := V.map (Value.int .i64)
theorem ints_one (V : List Int) : ∀ u ∈ ints V, u.oneCell' = true := by
  intro u hu
  obtain ⟨x, _, rfl⟩ := List.mem_map.1 hu
  rfl
theorem intT : ElemT Tryz.prog 35 3 1 8 := elem_mk (z := .int .i64 0) Tryz.underlying35 (by kernel_rfl) rfl (by decide)
theorem ints_snoc (V : List Int) (j : Int) : ints (V ++ [j]) = ints V ++ [.int .i64 j] := by simp [ints]
/-- A row of numbers, told by its cells. -/
theorem ints_cells {w : World} {base n c : Nat} {A : Option Addr} {V : List Int} (h : w.ownsRow base 3 1 (.slice A n c) n (ints V)) (hV : V.length = n) (hn : 0 < n) : ∃ b o, A = some ⟨b, o, none⟩ ∧ ∀ (i : Nat) (v : Int), V[i]? = some v → w.cell? ⟨b, o + i, none⟩ = some (.int .i64 v) := by
  obtain ⟨b, o, e, hc⟩ := (Rd.of_own h).2 (by simp [ints]; omega)
  exact ⟨b, o, e, fun i v hi => hc i _ (by simp [ints, hi])⟩
theorem own_put {w : World} {B j base size n : Nat} {e : TypeId} {v u : Value} {xs : List Value} (ho : w.ownsRow base e size v n xs) (hB : B < base) : (w.setCell ⟨B, j, none⟩ u).ownsRow base e size v n xs := by
  refine ⟨ho.1, ?_⟩
  rcases ho.2 with h0 | ⟨g, cap, cur, hv, hb, hh, hr⟩
  · exact .inl h0
  · exact .inr ⟨g, cap, cur, hv, hb, (Below.heap_setCell _ _ _ _ (fun e => by have e : g = B := e; omega)).trans hh, hr⟩
/-- A row that grows: its block is of the sort, or new. -/
theorem Turns.grew {B base size n : Nat} {S : TypeId → Prop} {w w1 w2 : World} {e : TypeId} {v : Value} {xs : List Value} (h : Turns B S w w1) (ho : w1.ownsRow base e size v n xs) (hg : w1.grownBy w2 v.ownBlock) (hB : B ≤ base) (hBs : B ≤ w.heap.size) (hs : S e ∨ w.heap.size ≤ base) : Turns B S w w2 := by
  have hk : ∀ g, v.ownBlock = some g → B ≤ g ∧ OfSort S w g := fun g hgb => by
    have h1 := (ho.lt g hgb).1
    refine ⟨by omega, ?_⟩
    rcases hs with hs | hs
    · rcases ho.2 with ⟨rfl, _⟩ | ⟨g', cap, cur, rfl, _, hh, _⟩
      · cases hgb
      · obtain rfl : g' = g := by injection hgb
        intro o hoo
        by_cases hn : ∃ cs t fz, o = .cells cs t fz ∧ S t
        · exact hn
        · have h2 := h.kept g' o hoo (fun cs t fz e2 h2 => hn ⟨cs, t, fz, e2, h2⟩)
          rw [hh] at h2
          exact ⟨_, _, _, (Option.some.inj h2).symm, hs⟩
    · exact OfSort.new (by omega)
  refine ⟨hg.os.trans h.os, hg.tape.trans h.tape, hg.output.trans h.output, Nat.le_trans h.size hg.size, fun k hk2 => ?_, fun k o hk2 hn => ?_⟩
  · exact (hg.block k (by have := h.size; omega) (fun e2 => by have := (hk k e2.symm).1; omega)).trans (h.block k hk2)
  · have h1 := h.kept k o hk2 hn
    exact (hg.block k (theap_lt h1) (fun e2 => by
      obtain ⟨cs, t, fz, e3, h3⟩ := (hk k e2.symm).2 o hk2
      exact hn cs t fz e3 h3)).trans h1
end Go.Proofs.YtcmollfhlillfaaGreatDoor
