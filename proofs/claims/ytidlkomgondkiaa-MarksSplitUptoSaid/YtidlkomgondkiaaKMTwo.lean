/-
  One or two transactions in a new row.
-/
import Derived.Test.YtidlkomgondkiaaKMAw
import Derived.Test.YtidlkomgondkiaaKMRTxn
namespace Go.Proofs.Ytidlkomgondkiaa
open Go.RowKit
theorem txRow_one {w : World} {b n1 c1 n2 c2 : Nat} {A1 A2 : Option Addr} {r : Int} {R : List Spn} {C : List Chg} {t : TypeId} (hx : w.heap[b]? = some (.cells #[.int .i64 r, .slice A1 n1 c1, .slice A2 n2 c2] t (0, 0))) (h1 : R.length = n1) (h2 : C.length = n2) (h3 : n1 ≤ 1048576) (h4 : n2 ≤ 1048576) (hR : Rd w 2 A1 n1 (srow R)) (hC : Rd w 3 A2 n2 (crow C)) :
    TxRow w (some ⟨b, 0, none⟩) 1 [(r, R, C)] := by
  subst h1 h2
  have hcell := fun k => cell_of_row _ _ k _ _ (0, 0) hx
  refine txRow_of rfl fun i t hi => ?_
  match i, hi with
  | 0, hi =>
    obtain rfl := Option.some.inj hi
    exact ⟨_, _, _, _, hcell 0, hcell 1, hcell 2, h3, h4, hR, hC⟩
  | k + 1, hi => exact absurd hi (by simp)
theorem txRow_two {w : World} {b n1 c1 n2 c2 n1' c1' n2' c2' : Nat} {A1 A2 A1' A2' : Option Addr} {r r' : Int} {R R' : List Spn} {C C' : List Chg} {t : TypeId} (hx : w.heap[b]? = some (.cells #[.int .i64 r, .slice A1 n1 c1, .slice A2 n2 c2, .int .i64 r', .slice A1' n1' c1', .slice A2' n2' c2'] t (0, 0))) (h1 : R.length = n1) (h2 : C.length = n2) (h3 : n1 ≤ 1048576) (h4 : n2 ≤ 1048576) (hR : Rd w 2 A1 n1 (srow R)) (hC : Rd w 3 A2 n2 (crow C))
    (h1' : R'.length = n1') (h2' : C'.length = n2') (h3' : n1' ≤ 1048576) (h4' : n2' ≤ 1048576) (hR' : Rd w 2 A1' n1' (srow R')) (hC' : Rd w 3 A2' n2' (crow C')) :
    TxRow w (some ⟨b, 0, none⟩) 2 [(r, R, C), (r', R', C')] := by
  subst h1 h2 h1' h2'
  have hcell := fun k => cell_of_row _ _ k _ _ (0, 0) hx
  refine txRow_of rfl fun i t hi => ?_
  match i, hi with
  | 0, hi =>
    obtain rfl := Option.some.inj hi
    exact ⟨_, _, _, _, hcell 0, hcell 1, hcell 2, h3, h4, hR, hC⟩
  | 1, hi =>
    obtain rfl := Option.some.inj hi
    exact ⟨_, _, _, _, hcell 3, hcell 4, hcell 5, h3', h4', hR', hC'⟩
  | k + 2, hi => exact absurd hi (by simp)
theorem mcell_stay {w : World} {b o : Nat} {u : Value} (h : w.cell? ⟨b, o, none⟩ = some u) : ∀ ob, (w.alloc ob).cell? ⟨b, o, none⟩ = some u := fun ob => (World.cell?_alloc_lt w ob _ (cell_lt h)).trans h
theorem mcell_stay2 {w : World} {b o : Nat} {u : Value} (h : w.cell? ⟨b, o, none⟩ = some u) : ∀ ob ob', ((w.alloc ob).alloc ob').cell? ⟨b, o, none⟩ = some u := fun ob ob' => mcell_stay (mcell_stay h ob) ob'
theorem alloc2_at (w : World) (o1 o2 : Obj) : ((w.alloc o1).alloc o2).heap[w.heap.size]? = some o1 ∧ ((w.alloc o1).alloc o2).heap[w.heap.size + 1]? = some o2 ∧ Later w ((w.alloc o1).alloc o2) :=
  ⟨row_al (heap_alloc_new w o1) o2, row_new2 w o1 o2, (later_alloc _ _).trans (later_alloc _ _)⟩
theorem alloc3_at (w : World) (o1 o2 o3 : Obj) : (((w.alloc o1).alloc o2).alloc o3).heap[w.heap.size]? = some o1 ∧ (((w.alloc o1).alloc o2).alloc o3).heap[w.heap.size + 1]? = some o2 ∧ (((w.alloc o1).alloc o2).alloc o3).heap[w.heap.size + 1 + 1]? = some o3 ∧ Later w (((w.alloc o1).alloc o2).alloc o3) := by
  obtain ⟨h1, h2, h3⟩ := alloc2_at w o1 o2
  refine ⟨row_al h1 o3, row_al h2 o3, ?_, h3.trans (later_alloc _ _)⟩
  have h := heap_alloc_new ((w.alloc o1).alloc o2) o3
  rwa [show ((w.alloc o1).alloc o2).heap.size = w.heap.size + 1 + 1 by simp] at h
theorem alloc4_at (w : World) (o1 o2 o3 o4 : Obj) : ((((w.alloc o1).alloc o2).alloc o3).alloc o4).heap[w.heap.size]? = some o1 ∧ ((((w.alloc o1).alloc o2).alloc o3).alloc o4).heap[w.heap.size + 1]? = some o2 ∧ ((((w.alloc o1).alloc o2).alloc o3).alloc o4).heap[w.heap.size + 1 + 1]? = some o3 ∧ ((((w.alloc o1).alloc o2).alloc o3).alloc o4).heap[w.heap.size + 1 + 1 + 1]? = some o4 ∧ Later w ((((w.alloc o1).alloc o2).alloc o3).alloc o4) := by
  obtain ⟨h1, h2, h3, h4⟩ := alloc3_at w o1 o2 o3
  refine ⟨row_al h1 o4, row_al h2 o4, row_al h3 o4, ?_, h4.trans (later_alloc _ _)⟩
  have h := heap_alloc_new (((w.alloc o1).alloc o2).alloc o3) o4
  rwa [show (((w.alloc o1).alloc o2).alloc o3).heap.size = w.heap.size + 1 + 1 + 1 by simp] at h
theorem rd_block {w : World} {b n size : Nat} {cs : Array Value} {t : TypeId} (hx : w.heap[b]? = some (.cells cs t (0, 0))) (h : cs.size = n * size) : Rd w size (some ⟨b, 0, none⟩) n cs.toList :=
  ⟨by simpa using h, fun _ => ⟨b, 0, rfl, fun j u hu => by
    rw [Nat.zero_add, cell_of_row w b j _ _ (0, 0) hx, ← Array.getElem?_toList]; exact hu⟩⟩
theorem later_row {w w' : World} {k : Nat} {o : Obj} (h : Later w w') (hk : w.heap[k]? = some o) : w'.heap[k]? = some o := (h.block k (heap_lt0 hk)).trans hk
/-- Marks, and what lies elsewhere, behind Judge. -/
theorem later_of_grown {w w0 w' : World} {B0 : Nat} (h0 : Later w w0) (hg : w0.grownBy w' (some B0)) (hB : w.heap.size ≤ B0) : Later w w' :=
  ⟨hg.os.trans h0.os, hg.tape.trans h0.tape, hg.output.trans h0.output, Nat.le_trans h0.size hg.size, fun k hk => (hg.block k (Nat.lt_of_lt_of_le hk h0.size) (fun e => by have := Option.some.inj e; omega)).trans (h0.block k hk)⟩
/-- A row of numbers, told by its cells. -/
theorem ints_cells {w : World} {base n c : Nat} {A : Option Addr} {V : List Int} (h : w.ownsRow base 3 1 (.slice A n c) n (ints V)) (hV : V.length = n) (hn : 0 < n) : ∃ b o, A = some ⟨b, o, none⟩ ∧ ∀ (i : Nat) (v : Int), V[i]? = some v → w.cell? ⟨b, o + i, none⟩ = some (.int .i64 v) := by
  obtain ⟨b, o, e, hc⟩ := (Rd.of_own h).2 (by simp [ints]; omega)
  exact ⟨b, o, e, fun i v hi => hc i _ (by simp [ints, hi])⟩
end Go.Proofs.Ytidlkomgondkiaa
