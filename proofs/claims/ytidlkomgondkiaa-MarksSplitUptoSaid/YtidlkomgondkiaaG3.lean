/-
  Texts of this seat in one: Rec, Rows2, Still, Only.
-/
import Derived.Test.YtidlkomgondkiaaG1
import Derived.Handy
import Derived.Laws.CopyOwn
import Derived.Deep.RegionLaw
import Derived.Test.YtidlkomgondkiaaG2
/-
  Rows of records: a list whose elements stand in memory as some cells each.
-/
namespace Go.Proofs.Ytidlkomgondkiaa
open Go.RowKit
section
variable {α : Type} {enc : α → List Value} {k : Nat}
theorem rec_append (a b : List α) : (a ++ b).flatMap enc = a.flatMap enc ++ b.flatMap enc := List.flatMap_append ..
theorem rec_len (hk : ∀ x, (enc x).length = k) (L : List α) : (L.flatMap enc).length = L.length * k := by
  induction L with
  | nil => simp
  | cons y L ih =>
    rw [List.flatMap_cons, List.length_append, ih, hk, List.length_cons, Nat.add_mul, Nat.one_mul, Nat.add_comm]
theorem rec_at (hk : ∀ x, (enc x).length = k) {L : List α} {i : Nat} {x : α} (hx : L[i]? = some x) (j : Nat) (hj : j < k) : (L.flatMap enc)[i * k + j]? = (enc x)[j]? := by
  induction L generalizing i with
  | nil => simp at hx
  | cons y L ih =>
    rw [List.flatMap_cons]
    cases i with
    | zero =>
      simp at hx; subst hx
      rw [List.getElem?_append_left (by rw [hk]; omega)]; simp
    | succ i =>
      simp at hx
      rw [List.getElem?_append_right (by rw [hk, Nat.succ_mul]; omega), hk, show (i + 1) * k + j - k = i * k + j from by rw [Nat.succ_mul]; omega]
      exact ih hx
theorem rec_take (hk : ∀ x, (enc x).length = k) (L : List α) (i : Nat) : (L.flatMap enc).take (i * k) = (L.take i).flatMap enc := by
  rcases Nat.lt_or_ge i L.length with hi | hi
  · have h : L.flatMap enc = (L.take i).flatMap enc ++ (L.drop i).flatMap enc := by rw [← rec_append, List.take_append_drop]
    rw [h, List.take_left' (by rw [rec_len hk, List.length_take, Nat.min_eq_left (by omega)])]
  · rw [List.take_of_length_le (by rw [rec_len hk]; exact Nat.mul_le_mul_right _ hi), List.take_of_length_le hi]
theorem rec_drop (hk : ∀ x, (enc x).length = k) (L : List α) (i : Nat) : (L.flatMap enc).drop (i * k) = (L.drop i).flatMap enc := by
  rcases Nat.lt_or_ge i L.length with hi | hi
  · have h : L.flatMap enc = (L.take i).flatMap enc ++ (L.drop i).flatMap enc := by rw [← rec_append, List.take_append_drop]
    rw [h, List.drop_left' (by rw [rec_len hk, List.length_take, Nat.min_eq_left (by omega)])]
  · rw [List.drop_of_length_le (by rw [rec_len hk]; exact Nat.mul_le_mul_right _ hi), List.drop_of_length_le hi]; rfl
theorem rec_one (h1 : ∀ x, ∀ u ∈ enc x, u.oneCell' = true) (L : List α) : ∀ u ∈ L.flatMap enc, u.oneCell' = true := by
  intro u hu
  obtain ⟨x, _, hu⟩ := List.mem_flatMap.1 hu
  exact h1 x u hu
theorem rec_set (hk : ∀ x, (enc x).length = k) {L : List α} {i : Nat} (hi : i < L.length) (x : α) : (L.set i x).flatMap enc = (L.flatMap enc).take (i * k) ++ enc x ++ (L.flatMap enc).drop ((i + 1) * k) := by
  rw [rec_take hk, rec_drop hk, List.set_eq_take_append_cons_drop, if_pos hi, rec_append, List.flatMap_cons, List.append_assoc]
end
/-- A new block, its number given. -/
theorem Rd.newAt (w : World) (cs : Array Value) (t : TypeId) (n size b : Nat) (fz : Nat × Nat) (h : cs.size = n * size) (hb : b = w.heap.size) : Rd (w.alloc (.cells cs t fz)) size (some ⟨b, 0, none⟩) n cs.toList := by
  subst hb
  exact Rd.new w cs t n fz h
section
variable {w : World} {base : Nat} {e : TypeId} {size : Nat} {g n cap : Nat} {xs : List Value}
/-- A cell of an own row is written. -/
theorem own_setCell (ho : w.ownsRow base e size (.slice (some ⟨g, 0, none⟩) n cap) n xs) (j : Nat) (u : Value) :
    (w.setCell ⟨g, j, none⟩ u).ownsRow base e size (.slice (some ⟨g, 0, none⟩) n cap) n (xs.set j u) := by
  refine ⟨by rw [List.length_set]; exact ho.1, .inr ?_⟩
  rcases ho.2 with ⟨h, _⟩ | ⟨g', cap', cur, hv, hb, hh, hn, hm, hc, ht⟩
  · cases h
  · injection hv with h1 _ h3
    injection h1 with h1
    injection h1 with h1
    subst h1; subst h3
    have h2 := heap_setCell_same w g j _ _ u hh
    refine ⟨g, cap, _, rfl, hb, h2, hn, hm, by simpa using hc, ?_⟩
    rw [← ht]
    simp only [Array.toList_setIfInBounds, List.take_set]
end
end Go.Proofs.Ytidlkomgondkiaa
/-
  Words for a row that is turned in place: append within the capacity, clear.
-/
namespace Go.Proofs.Ytidlkomgondkiaa
open Go.RowKit
section
variable {P : Program}
/-- append within the capacity, inside a region that draws its order. -/
theorem step_append_in {w : World} {ops : Array Oper} {o : Oper} {a : Act} {K : Act → World → Prop} {Q : Exit → Act → World → Prop} {E : Prop} (hgd : Region.wanted o (yielded ops a.tmps) = true) (s x : Operand) (t : TypeId)
    (ho : o.op = .call { callee := .builtin .append, args := #[s, x], argTypes := #[t, t] })
    (e : TypeId) (size bytes : Nat) (ET : ElemT P t e size bytes) (g n cap : Nat) (cur : Array Value) (hg : w.heap[g]? = some (.cells cur e (0, 0)))
    (hs : a.eval s = .slice (some ⟨g, 0, none⟩) n cap) (ad : Addr) (m c : Nat) (news : List Value) (hx : a.eval x = .slice (some ad) m c) (hr : Rd w size (some ad) m news) (h1 : ∀ u ∈ news, u.oneCell' = true)
    (hroom : n + m ≤ cap) (hcur : cur.size = cap * size)
    (h : K (a.put o.dst (.slice (some ⟨g, 0, none⟩) (n + m) cap)) (w.setRow g (cur.toList.take (n * size) ++ news ++ cur.toList.drop (n * size + news.length)).toArray)) :
    if Region.wanted o (yielded ops a.tmps) = true then Oper.wp P o a w K Q else E := by
  rw [if_pos hgd]
  obtain ⟨ht, i, z, hi, hz, hsize, hby, hzs, hsz⟩ := ET
  have hcells : ∀ j u, news[j]? = some u → w.cell? (ad.add j) = some u := by
    intro j u hu
    have hl : 0 < news.length := by have := (List.getElem?_eq_some_iff.1 hu).1; omega
    obtain ⟨b, o, he, hc⟩ := hr.2 hl
    injection he with he
    subst he
    rw [add_plain]
    exact hc j u hu
  have hle : (n + m) * size ≤ cap * size := Nat.mul_le_mul_right _ hroom
  have hfit : n * i.size + news.length ≤ cur.size := by rw [hsize, hr.1, hcur, ← Nat.add_mul]; exact hle
  have hrun := run_append_room (P := P) w t o.type e i ht hi g n cap cur hg ad m c news (by rw [hr.1, hsize]) hcells h1 hroom hfit
  rw [hsize] at hrun
  unfold Oper.wp execOp
  simp only [ho, resolve, invoke, builtin, Sem.run_bind, Sem.run_pure, Result.andThen_ok, List.map_toArray, List.map_cons, List.map_nil, hs, hx, hrun]
  exact h
/-- 'clear' of a piece of a row. -/
theorem run_clear_row (t e ty : TypeId) (z : Value) (size : Nat) (ht : P.underlying t = some (.slice e)) (hv : ∀ w, (zeroValue e).run P w = .ok z w) (hz : z.cells.size = size) (h1 : ∀ u ∈ z.cells, u.oneCell' = true) (hsz : 0 < size)
    (w : World) (g o n c : Nat) (cur : Array Value) (hn : 0 < n) (hg : w.heap[g]? = some (.cells cur e (0, 0))) (hfit : o + n * size ≤ cur.size) :
    (Builtin.clear_ #[t] ty #[.slice (some ⟨g, o, none⟩) n c]).run P w =
      .ok (.tuple #[]) (w.setRow g (cur.toList.take o ++ (Builtin.zeroCells z.cells n).toList ++ cur.toList.drop (o + (Builtin.zeroCells z.cells n).toList.length)).toArray) := by
  have hlen : (Builtin.zeroCells z.cells n).toList.length = n * size := by rw [Array.length_toList, size_zeroCells, hz]
  have hone : ∀ v ∈ (Builtin.zeroCells z.cells n).toList, v.oneCell' = true := by
    intro v hv'
    obtain ⟨k, hk, rfl⟩ := List.getElem_of_mem hv'
    have hk' : k < n * z.cells.size := by rw [hlen] at hk; rw [hz]; exact hk
    have hm : k % z.cells.size < z.cells.size := Nat.mod_lt _ (by omega)
    refine h1 _ ?_
    simp [Builtin.zeroCells, hm]
  have hst := run_storeCells_at P g o e (Builtin.zeroCells z.cells n).toList 0 cur w hg (by rw [hlen]; omega) hone
  simp only [Nat.add_zero] at hst
  obtain ⟨m, rfl⟩ : ∃ m, n = m + 1 := ⟨n - 1, by omega⟩
  simp [Builtin.clear_, run_underlying ht, hv, hst]
/-- Whole knowledge of an own row that is not nil. -/
theorem own_row {w : World} {base : Nat} {e : TypeId} {size n g cap : Nat} {xs : List Value} (h : w.ownsRow base e size (.slice (some ⟨g, 0, none⟩) n cap) n xs) :
    ∃ cur, base ≤ g ∧ w.heap[g]? = some (.cells cur e (0, 0)) ∧ n ≤ cap ∧ cap ≤ maxLen ∧ cur.size = cap * size ∧ cur.toList.take (n * size) = xs := by
  rcases h.2 with ⟨h0, _⟩ | ⟨g', cap', cur, hv, hb, hh, hn, hm, hc, ht⟩
  · cases h0
  · injection hv with h1 _ h3
    injection h1 with h1
    injection h1 with h1
    subst h1; subst h3
    exact ⟨cur, hb, hh, hn, hm, hc, ht⟩
end
end Go.Proofs.Ytidlkomgondkiaa
/-
  Below a block number all stands but one block.
-/
namespace Go.Proofs.Ytidlkomgondkiaa
open Go.RowKit
/-- All blocks below B but x are as they were; no block has gone. -/
def Still (B x : Nat) (w w' : World) : Prop := w.heap.size ≤ w'.heap.size ∧ ∀ k, k < B → k ≠ x → w'.heap[k]? = w.heap[k]?
section
variable {B x : Nat} {w w' w'' : World}
theorem Still.refl (B x : Nat) (w : World) : Still B x w w := ⟨Nat.le_refl _, fun _ _ _ => rfl⟩
theorem Still.trans (h : Still B x w w') (k : Still B x w' w'') : Still B x w w'' := ⟨Nat.le_trans h.1 k.1, fun i hi hx => (k.2 i hi hx).trans (h.2 i hi hx)⟩
theorem Still.of_below (h : Below B w w') : Still B x w w' := ⟨h.size, fun k hk _ => h.block k hk⟩
theorem Still.setCell (h : Still B x w w') (o : Nat) (u : Value) : Still B x w (w'.setCell ⟨x, o, none⟩ u) :=
  h.trans ⟨by simp [World.setCell], fun k _ hx => Below.heap_setCell _ _ _ _ (by simpa using hx)⟩
theorem Still.below (h : Still B x w w') (hb : Below B w' w'') : Still B x w w'' := h.trans (Still.of_below hb)
theorem Rd.still {size n : Nat} {A : Option Addr} {xs : List Value} (h : Rd w size A n xs) (hs : Still B x w w') (hB : w.heap.size ≤ B) (hx : ∀ b o, A = some ⟨b, o, none⟩ → b ≠ x) : Rd w' size A n xs := by
  refine ⟨h.1, fun hn => ?_⟩
  obtain ⟨b, o, e, hc⟩ := h.2 hn
  refine ⟨b, o, e, fun j u hu => ?_⟩
  have h1 := hc j u hu
  have hlt := cell_lt h1
  rw [World.cell?_of_block (hs.2 b (Nat.lt_of_lt_of_le hlt hB) (hx b o e))]
  exact h1
end
/-- What an append leaves of a block that is not the row's. -/
theorem grown_block {W w' : World} {base : Nat} {e : TypeId} {size n : Nat} {v : Value} {xs : List Value} {k : Nat} {x : Obj} (ho : W.ownsRow base e size v n xs) (hg : W.grownBy w' v.ownBlock) (hx : W.heap[k]? = some x) (hk : k < base ∨ ∃ w : World, w.ownsRow base e size v n xs ∧ w.heap.size ≤ k) : w'.heap[k]? = some x := by
  have hlt : k < W.heap.size := by
    rcases Nat.lt_or_ge k W.heap.size with h | h
    · exact h
    · rw [Array.getElem?_eq_none h] at hx; cases hx
  rw [hg.block k hlt ?_]
  · exact hx
  · intro hk2
    rcases hk with hk | ⟨w, hw, hk⟩
    · have := (ho.lt k hk2.symm).1; omega
    · have := (hw.lt k hk2.symm).2; omega
end Go.Proofs.Ytidlkomgondkiaa
/-
  What is written: one row of the call's own and new blocks alone.
-/
namespace Go.Proofs.Ytidlkomgondkiaa
open Go.RowKit
theorem grown_trans {w w1 w2 : World} {row row2 : Option Nat} (h : w.grownBy w1 row) (k : w1.grownBy w2 row2) (hr : row2 = row ∨ ∀ b, row2 = some b → w.heap.size ≤ b) : w.grownBy w2 row :=
  ⟨k.os.trans h.os, k.tape.trans h.tape, k.output.trans h.output, Nat.le_trans h.size k.size, fun i hi hne => (k.block i (Nat.lt_of_lt_of_le hi h.size) (fun e => by
    rcases hr with rfl | hr
    · exact hne e
    · have := hr i e.symm; omega)).trans (h.block i hi hne)⟩
theorem grown_drew {w w' : World} {row : Option Nat} (h : w.grownBy w' row) : w.grownBy w'.drew row := ⟨h.os, h.tape, h.output, h.size, h.block⟩
theorem grown_later {w w' : World} (h : Later w w') (row : Option Nat) : w.grownBy w' row := ⟨h.os, h.tape, h.output, h.size, fun k hk _ => h.block k hk⟩
theorem grown_alloc {w w' : World} {row : Option Nat} (h : w.grownBy w' row) (o : Obj) : w.grownBy (w'.alloc o) row := grown_trans h (World.grownBy_alloc w' o row) (.inl rfl)
theorem grown_setRow {w w' : World} {g : Nat} {row : Option Nat} (h : w.grownBy w' row) (hg : row = some g ∨ w.heap.size ≤ g) (cs : Array Value) : w.grownBy (w'.setRow g cs) row :=
  ⟨h.os, h.tape, h.output, by have := h.size; simpa [World.setRow] using this, fun k hk hne => by
    rw [setRow_other _ _ _ _ (fun e => by
      rcases hg with hg | hg
      · exact hne (by rw [e, hg])
      · omega)]
    exact h.block k hk hne⟩
theorem grown_setCell {w w' : World} {g o : Nat} {row : Option Nat} (h : w.grownBy w' row) (hg : row = some g ∨ w.heap.size ≤ g) (u : Value) : w.grownBy (w'.setCell ⟨g, o, none⟩ u) row :=
  ⟨h.os, h.tape, h.output, by have := h.size; simpa [World.setCell] using this, fun k hk hne => by
    rw [Below.heap_setCell _ _ _ _ (fun e => by
      have e : k = g := e
      rcases hg with hg | hg
      · exact hne (by rw [e, hg])
      · omega)]
    exact h.block k hk hne⟩
theorem grown_blocks {B : Nat} {w w' : World} {g : Nat} (hb : Below B w w') (hk : ∀ k, k ≠ g → w'.heap[k]? = w.heap[k]?) : w.grownBy w' (some g) :=
  ⟨hb.os, hb.tape, hb.output, hb.size, fun k _ hne => hk k fun e => hne (by rw [e])⟩
/-- Rows of unlike elements lie in unlike blocks. -/
theorem own_apart {w : World} {b1 b2 : Nat} {e1 e2 : TypeId} {s1 s2 n1 n2 : Nat} {v1 v2 : Value} {x1 x2 : List Value} (h1 : w.ownsRow b1 e1 s1 v1 n1 x1) (h2 : w.ownsRow b2 e2 s2 v2 n2 x2) (he : e1 ≠ e2) : v1.ownBlock = none ∨ v1.ownBlock ≠ v2.ownBlock := by
  rcases h1.2 with ⟨rfl, _⟩ | ⟨g1, c1, cur1, rfl, _, hg1, _⟩
  · exact .inl rfl
  · rcases h2.2 with ⟨rfl, _⟩ | ⟨g2, c2, cur2, rfl, _, hg2, _⟩
    · exact .inr fun h => nomatch h
    · refine .inr fun h => he ?_
      have : g1 = g2 := by injection h
      subst this
      rw [hg1] at hg2
      injection hg2 with hg2
      injection hg2
theorem own_kept {w w' : World} {b1 b2 : Nat} {e1 e2 : TypeId} {s1 s2 n1 n2 : Nat} {v1 v2 : Value} {x1 x2 : List Value} (h1 : w.ownsRow b1 e1 s1 v1 n1 x1) (h2 : w.ownsRow b2 e2 s2 v2 n2 x2) (he : e1 ≠ e2) (hg : w.grownBy w' v2.ownBlock) : w'.ownsRow b1 e1 s1 v1 n1 x1 := h1.kept hg (own_apart h1 h2 he)
end Go.Proofs.Ytidlkomgondkiaa
