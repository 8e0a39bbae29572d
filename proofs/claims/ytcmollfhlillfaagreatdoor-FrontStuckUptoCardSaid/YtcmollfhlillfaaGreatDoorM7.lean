/-
  Texts of this seat in one: Rows2.
-/
import Derived.Test.YtcmollfhlillfaaGreatDoorM3
import Derived.Laws.CopyOwn
import Derived.Deep.RegionLaw
/-
  Words for a row that is turned in place: append within the capacity, clear.
-/
namespace Go.Proofs.YtcmollfhlillfaaGreatDoor
open Go.RowKit
section
variable {P : Program}
/-- append within the capacity, inside a region that draws its order. -/
theorem step_append_in {w : World} {ops : Array Oper} {o : Oper} {a : Act} {K : Act → World → Prop} {Q : Exit → Act → World → Prop} {E : Prop} (hgd : Region.wanted o (yielded ops a.tmps) = true) (s x : Operand) (t : TypeId)
    (ho : o.op = .call { callee := .builtin .append, args := #[s, x], argTypes := #[t, t] })
    (e : TypeId) (size bytes : Nat) (ET : ElemT P t e size bytes) (g n cap : Nat) (cur : Array Value) (hg : w.heap[g]? = some (.cells cur e (0, 0)))
    (hs : a.eval s = .slice (some ⟨g, 0, none⟩) n cap) (ad : Addr) (m c : Nat) (news : List Value) (hx : a.eval x = .slice (some ad) m c) (hr : Rd w size (some ad) m news) (h1 : ∀ u ∈ news, u.oneCell' = true)
    (hroom : n + m ≤ cap) (hcur : cur.size = cap * size)
    (h : K (a.put o.dst (.slice (some ⟨g, 0, none⟩) (n + m) cap)) (w.setRow g (cur.toList.take (n * size) ++ news ++ cur.toList.drop (n * size + news.length)).toArray)) :
    if Region.wanted o (yielded ops a.tmps) = true then Oper.wp P o a w K Q else E := by
  rw [if_pos hgd]
  obtain ⟨ht, i, z, hi, hz, hsize, hby, hzs, hsz⟩ := ET
  have hcells : ∀ j u, news[j]? = some u → w.cell? (ad.add j) = some u := by
    intro j u hu
    have hl : 0 < news.length := by have := (List.getElem?_eq_some_iff.1 hu).1; omega
    obtain ⟨b, o, he, hc⟩ := hr.2 hl
    injection he with he
    subst he
    rw [add_plain]
    exact hc j u hu
  have hle : (n + m) * size ≤ cap * size := Nat.mul_le_mul_right _ hroom
  have hfit : n * i.size + news.length ≤ cur.size := by rw [hsize, hr.1, hcur, ← Nat.add_mul]; exact hle
  have hrun := run_append_room (P := P) w t o.type e i ht hi g n cap cur hg ad m c news (by rw [hr.1, hsize]) hcells h1 hroom hfit
  rw [hsize] at hrun
  unfold Oper.wp execOp
  simp only [ho, resolve, invoke, builtin, Sem.run_bind, Sem.run_pure, Result.andThen_ok, List.map_toArray, List.map_cons, List.map_nil, hs, hx, hrun]
  exact h
/-- 'clear' of a piece of a row. -/
theorem run_clear_row (t e ty : TypeId) (z : Value) (size : Nat) (ht : P.underlying t = some (.slice e)) (hv : ∀ w, (zeroValue e).run P w = .ok z w) (hz : z.cells.size = size) (h1 : ∀ u ∈ z.cells, u.oneCell' = true) (hsz : 0 < size)
    (w : World) (g o n c : Nat) (cur : Array Value) (hn : 0 < n) (hg : w.heap[g]? = some (.cells cur e (0, 0))) (hfit : o + n * size ≤ cur.size) :
    (Builtin.clear_ #[t] ty #[.slice (some ⟨g, o, none⟩) n c]).run P w =
      .ok (.tuple #[]) (w.setRow g (cur.toList.take o ++ (Builtin.zeroCells z.cells n).toList ++ cur.toList.drop (o + (Builtin.zeroCells z.cells n).toList.length)).toArray) := by
  have hlen : (Builtin.zeroCells z.cells n).toList.length = n * size := by rw [Array.length_toList, size_zeroCells, hz]
  have hone : ∀ v ∈ (Builtin.zeroCells z.cells n).toList, v.oneCell' = true := by
    intro v hv'
    obtain ⟨k, hk, rfl⟩ := List.getElem_of_mem hv'
    have hk' : k < n * z.cells.size := by rw [hlen] at hk; rw [hz]; exact hk
    have hm : k % z.cells.size < z.cells.size := Nat.mod_lt _ (by omega)
    refine h1 _ ?_
    simp [Builtin.zeroCells, hm]
  have hst := run_storeCells_at P g o e (Builtin.zeroCells z.cells n).toList 0 cur w hg (by rw [hlen]; omega) hone
  simp only [Nat.add_zero] at hst
  obtain ⟨m, rfl⟩ : ∃ m, n = m + 1 := ⟨n - 1, by omega⟩
  simp [Builtin.clear_, run_underlying ht, hv, hst]
/-- Whole knowledge of an own row that is not nil. -/
theorem own_row {w : World} {base : Nat} {e : TypeId} {size n g cap : Nat} {xs : List Value} (h : w.ownsRow base e size (.slice (some ⟨g, 0, none⟩) n cap) n xs) :
    ∃ cur, base ≤ g ∧ w.heap[g]? = some (.cells cur e (0, 0)) ∧ n ≤ cap ∧ cap ≤ maxLen ∧ cur.size = cap * size ∧ cur.toList.take (n * size) = xs := by
  rcases h.2 with ⟨h0, _⟩ | ⟨g', cap', cur, hv, hb, hh, hn, hm, hc, ht⟩
  · cases h0
  · injection hv with h1 _ h3
    injection h1 with h1
    injection h1 with h1
    subst h1; subst h3
    exact ⟨cur, hb, hh, hn, hm, hc, ht⟩
end
end Go.Proofs.YtcmollfhlillfaaGreatDoor
