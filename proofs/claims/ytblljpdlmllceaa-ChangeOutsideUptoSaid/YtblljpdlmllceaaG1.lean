/-
  Texts of this seat in one: Mem, Bytes, SpanMath, Str, Rec, SortOwn, SortLay, Rows2, SpanA, SpanB, SpanC, SpanD, Region, Loud, Join, Frame.
-/
import Derived.WalkKit
import Derived.WalkSpells
import Derived.WalkLawsBesides
import Derived.Lib.Hide
import Derived.Lib.SlBytesConst
import Derived.Maps.AppendAt
import Derived.Deep.AppendLies
import Derived.Deep.Draws
import Derived.BigQuiet
import Derived.Deep.QuietTactic
import Derived.Lib.Strings
import Derived.Test.YtblljpdlmllceaaProg
import Derived.Handy
import Derived.Laws.CopyOwn
import Derived.Shelf.SlSortCmp.WholeK
import Derived.Deep.RegionLaw
import Derived.Shelf.SlSortCmp.NoneTotal
import Derived.Deep.RegionHeld3
import Derived.IntWalk
import Derived.Test.YtblljpdlmllceaaRows
import Derived.ProofKit
import Derived.OpenShut
import Derived.ShutString
import Derived.ChangeOld
import Derived.SizedLaws
import Derived.JoinedCond
import Derived.Deep.CondSized
/-
  Words for memory that every proof of this seat uses: a slice that is read as a list of cells (nil let in), and append onto a row of the call's own.
-/
namespace Go.Proofs.Ytblljpdlmllceaa
open Go.RowKit

theorem ret_int {k : IntKind} {a b : Int} (h : a = b) : Ending.returned (.int k a) = .returned (.int k b) := by rw [h]
theorem ret_val {a b : Value} (h : a = b) : Ending.returned a = .returned b := by rw [h]
theorem hide_ {p : Prop} (h : p) : Hid p := h
theorem add_plain (b o k : Nat) : (⟨b, o, none⟩ : Addr).add k = ⟨b, o + k, none⟩ := by
  unfold Addr.add; split
  · rename_i h; subst h; rfl
  · rfl
theorem cell_lt {w : World} {b o : Nat} {u : Value} (h : w.cell? ⟨b, o, none⟩ = some u) : b < w.heap.size := by
  rcases Nat.lt_or_ge b w.heap.size with hlt | hge
  · exact hlt
  · unfold World.cell? at h
    rw [Array.getElem?_eq_none hge] at h
    cases h

/-- The slice's address A leads to n elements of this many cells, which read as xs. -/
def Rd (w : World) (size : Nat) (A : Option Addr) (n : Nat) (xs : List Value) : Prop :=
  xs.length = n * size ∧ (0 < xs.length → ∃ b o, A = some ⟨b, o, none⟩ ∧ ∀ j u, xs[j]? = some u → w.cell? ⟨b, o + j, none⟩ = some u)

section
variable {w w' : World} {size n m : Nat} {A : Option Addr} {xs : List Value}
theorem Rd.nil (w : World) (size : Nat) (A : Option Addr) : Rd w size A 0 [] := ⟨by simp, fun h => absurd h (by simp)⟩
theorem Rd.keep (h : Rd w size A n xs) (hk : ∀ p : Addr, p.block < w.heap.size → w'.cell? p = w.cell? p) : Rd w' size A n xs := by
  refine ⟨h.1, fun hn => ?_⟩
  obtain ⟨b, o, e, hc⟩ := h.2 hn
  exact ⟨b, o, e, fun j u hu => (hk _ (cell_lt (hc j u hu))).trans (hc j u hu)⟩
theorem Rd.below (h : Rd w size A n xs) (hb : Below w.heap.size w w') : Rd w' size A n xs := h.keep fun _ hp => hb.cell hp
theorem Rd.drew (h : Rd w size A n xs) : Rd w.drew size A n xs := h
theorem Rd.drewN (h : Rd w size A n xs) (k : Nat) : Rd (w.drewN k) size A n xs := h
theorem Rd.alloc (h : Rd w size A n xs) (o : Obj) : Rd (w.alloc o) size A n xs := h.keep fun p hp => World.cell?_alloc_lt w o p hp
theorem Rd.take (h : Rd w size A n xs) {k : Nat} (hk : k ≤ n) : Rd w size A k (xs.take (k * size)) := by
  have hle : k * size ≤ n * size := Nat.mul_le_mul_right _ hk
  refine ⟨by rw [List.length_take, h.1]; omega, fun hn => ?_⟩
  obtain ⟨b, o, e, hc⟩ := h.2 (by rw [List.length_take] at hn; omega)
  refine ⟨b, o, e, fun j u hu => hc j u ?_⟩
  rw [List.getElem?_take] at hu
  split at hu
  · exact hu
  · cases hu
theorem Rd.cut (h : Rd w size A n xs) {k cap : Nat} (hk : k ≤ n) (hc : n ≤ cap) :
    Rd w size (if cap = k then A else A.map (·.add (k * size))) (n - k) (xs.drop (k * size)) := by
  refine ⟨by rw [List.length_drop, h.1, Nat.sub_mul], fun hn => ?_⟩
  have h1 := h.1
  rw [List.length_drop] at hn
  obtain ⟨b, o, rfl, hcell⟩ := h.2 (by omega)
  have hne : ¬ cap = k := by rintro rfl; have : n = cap := by omega
                             subst this; omega
  rw [if_neg hne]
  refine ⟨b, o + k * size, by simp [add_plain], fun j u hu => ?_⟩
  rw [List.getElem?_drop] at hu
  rw [Nat.add_assoc]
  exact hcell _ u hu
theorem Rd.of_own {base : Nat} {e : TypeId} {c : Nat} (h : w.ownsRow base e size (.slice A n c) n xs) : Rd w size A n xs := by
  refine ⟨h.1, fun hx => ?_⟩
  have hn : 0 < n := by rcases Nat.eq_zero_or_pos n with h0 | h0
                        · subst h0; have := h.1; omega
                        · exact h0
  obtain ⟨g, cap, hv, _, hlt⟩ := h.form hn
  have hA : A = some ⟨g, 0, none⟩ := by injection hv
  subst hA
  refine ⟨g, 0, rfl, fun j u hu => ?_⟩
  have := h.cells (g := g) rfl j u hu
  rwa [add_plain] at this
/-- A new block that reads as its own cells. -/
theorem Rd.new (w : World) (cs : Array Value) (t : TypeId) (n : Nat) (fz : Nat × Nat) (h : cs.size = n * size) : Rd (w.alloc (.cells cs t fz)) size (some ⟨w.heap.size, 0, none⟩) n cs.toList := by
  refine ⟨by simpa using h, fun _ => ⟨_, 0, rfl, fun j u hu => ?_⟩⟩
  have hb : (w.alloc (.cells cs t fz)).heap[w.heap.size]? = some (.cells cs t fz) := heap_alloc_new w _
  rw [Nat.zero_add, cell_of_row _ _ j cs t fz hb]
  simpa using hu
end

/-- The slice type t of the element type e: how many cells and bytes an element has. -/
def ElemT (P : Program) (t e : TypeId) (size bytes : Nat) : Prop :=
  P.underlying t = some (.slice e) ∧ ∃ i z, P.info? e = some i ∧ i.zero = some z ∧ i.size = size ∧ i.bytes = bytes ∧ z.cells.size = size ∧ 0 < size
theorem elem_mk {P : Program} {t e : TypeId} {z : Value} {size bytes : Nat} (ht : P.underlying t = some (.slice e)) (h : (P.info? e).map (fun i => (i.zero, i.size, i.bytes)) = some (some z, size, bytes))
    (hz : z.cells.size = size) (hs : 0 < size) : ElemT P t e size bytes := by
  obtain ⟨i, hi, h1, h2, h3⟩ := info_parts h
  exact ⟨ht, i, z, hi, h1, h2, h3, hz, hs⟩

section
variable {P : Program} (w : World)
theorem run_append_none (base : Nat) (t ty e : TypeId) (i : TypeInfo) (size : Nat) (ht : P.underlying t = some (.slice e)) (hi : P.info? e = some i)
    (v : Value) (n : Nat) (xs : List Value) (hown : w.ownsRow base e size v n xs) (c : Nat) : (Builtin.append_ #[t, t] ty #[v, .slice none 0 c]).run P w = .ok v w := by
  rcases hown.2 with ⟨rfl, rfl⟩ | ⟨g, cap, cur, rfl, _, _, hnc, _⟩
  · simp [Builtin.append_, run_underlying ht, sizeOf, typeInfo, hi, Builtin.lenOf, Builtin.firstCells]
  · simp [Builtin.append_, run_underlying ht, sizeOf, typeInfo, hi, Builtin.lenOf, Builtin.firstCells, hnc, storeCells]

theorem run_append_rd (base : Nat) (t ty e : TypeId) (size bytes : Nat) (E : ElemT P t e size bytes)
    (v : Value) (n : Nat) (xs : List Value) (hown : w.ownsRow base e size v n xs)
    (A : Option Addr) (m c : Nat) (news : List Value) (hr : Rd w size A m news) (h1 : ∀ u ∈ news, u.oneCell' = true)
    (hbytes : (n + m) * bytes ≤ 140737488355328) (h63 : n + m ≤ maxLen) (hbase : base ≤ w.heap.size) (hnil : A = none → m = 0) :
    ∃ v' w', (Builtin.append_ #[t, t] ty #[v, .slice A m c]).run P w = .ok v' w' ∧ w'.ownsRow base e size v' (n + m) (xs ++ news) ∧ w.grownBy w' v.ownBlock ∧
      (v'.ownBlock = v.ownBlock ∨ v'.ownBlock = some w.heap.size) := by
  obtain ⟨ht, i, z, hi, hz, hsize, hby, hzs, hsz⟩ := E
  rcases A with _ | ad
  · have hm : m = 0 := hnil rfl
    subst hm
    have hn : news = [] := List.eq_nil_of_length_eq_zero (by simpa using hr.1)
    subst hn
    exact ⟨v, w, run_append_none w base t ty e i size ht hi v n xs hown c, by simpa using hown, World.grownBy.refl w _, .inl rfl⟩
  · have hcells : ∀ j u, news[j]? = some u → w.cell? (ad.add j) = some u := by
      intro j u hu
      have hl : 0 < news.length := by have := (List.getElem?_eq_some_iff.1 hu).1; omega
      obtain ⟨b, o, he, hc⟩ := hr.2 hl
      injection he with he
      subst he
      rw [add_plain]
      exact hc j u hu
    obtain ⟨v', w', hrun, h2, h3, _, h5⟩ := run_append_own_at (P := P) w base t ty e i z size bytes ht hi hz hsize hby hzs hsz v n xs hown ad m c news hr.1 hcells h1 h63 hbytes hbase
    exact ⟨v', w', hrun, h2, h3, h5⟩

theorem wp_append_rd {o : Oper} {a : Act} {K : Act → World → Prop} {Q : Exit → Act → World → Prop} (s x : Operand) (t : TypeId)
    (ho : o.op = .call { callee := .builtin .append, args := #[s, x], argTypes := #[t, t] })
    (base : Nat) (e : TypeId) (size bytes : Nat) (E : ElemT P t e size bytes)
    (v : Value) (n : Nat) (xs : List Value) (hs : a.eval s = v) (hown : w.ownsRow base e size v n xs)
    (A : Option Addr) (m c : Nat) (news : List Value) (hx : a.eval x = .slice A m c) (hr : Rd w size A m news) (h1 : ∀ u ∈ news, u.oneCell' = true)
    (hbytes : (n + m) * bytes ≤ 140737488355328) (h63 : n + m ≤ maxLen) (hbase : base ≤ w.heap.size) (hnil : A = none → m = 0)
    (h : ∀ v' w', w'.ownsRow base e size v' (n + m) (xs ++ news) → w.grownBy w' v.ownBlock → (v'.ownBlock = v.ownBlock ∨ v'.ownBlock = some w.heap.size) → K (a.put o.dst v') w') : o.wp P a w K Q := by
  obtain ⟨v', w', hrun, h2, h3, h4⟩ := run_append_rd (P := P) w base t o.type e size bytes E v n xs hown A m c news hr h1 hbytes h63 hbase hnil
  unfold Oper.wp execOp
  simp only [ho, resolve, invoke, builtin, Sem.run_bind, Sem.run_pure, Result.andThen_ok, List.map_toArray, List.map_cons, List.map_nil, hs, hx, hrun]
  exact h v' w' h2 h3 h4

theorem wpList_append_rd {ops : Array Oper} {rest : List Oper} {o : Oper} {a : Act} {Q : Exit → Act → World → Prop} (hgd : o.guard = none) (s x : Operand) (t : TypeId)
    (ho : o.op = .call { callee := .builtin .append, args := #[s, x], argTypes := #[t, t] })
    (base : Nat) (e : TypeId) (size bytes : Nat) (E : ElemT P t e size bytes)
    (v : Value) (n : Nat) (xs : List Value) (hs : a.eval s = v) (hown : w.ownsRow base e size v n xs)
    (A : Option Addr) (m c : Nat) (news : List Value) (hx : a.eval x = .slice A m c) (hr : Rd w size A m news) (h1 : ∀ u ∈ news, u.oneCell' = true)
    (hbytes : (n + m) * bytes ≤ 140737488355328) (h63 : n + m ≤ maxLen) (hbase : base ≤ w.heap.size) (hnil : A = none → m = 0)
    (h : ∀ v' w', w'.ownsRow base e size v' (n + m) (xs ++ news) → w.grownBy w' v.ownBlock → (v'.ownBlock = v.ownBlock ∨ v'.ownBlock = some w.heap.size) → wpList P ops Q rest (a.put o.dst v') w') : wpList P ops Q (o :: rest) a w :=
  wpList_plain hgd fun _ hK => wp_append_rd w s x t ho base e size bytes E v n xs hs hown A m c news hx hr h1 hbytes h63 hbase hnil fun v' w' h2 h3 h4 => hK _ _ (h v' w' h2 h3 h4)
end

section
variable {P : Program} (w : World)
theorem wpList_wanted {ops : Array Oper} {rest : List Oper} {o : Oper} {a : Act} {Q : Exit → Act → World → Prop} {w : World} (hw : Region.wanted o (yielded ops a.tmps) = true)
    (h : ∀ K : Act → World → Prop, (∀ a w, wpList P ops Q rest a w → K a w) → o.wp P a w K Q) : wpList P ops Q (o :: rest) a w :=
  wpList_step fun K hK => by rw [if_pos hw]; exact h K hK
/-- The same law where the operation is guarded, and its guard says yes. -/
theorem wpList_append_rdg {ops : Array Oper} {rest : List Oper} {o : Oper} {a : Act} {Q : Exit → Act → World → Prop} (hgd : Region.wanted o (yielded ops a.tmps) = true) (s x : Operand) (t : TypeId)
    (ho : o.op = .call { callee := .builtin .append, args := #[s, x], argTypes := #[t, t] })
    (base : Nat) (e : TypeId) (size bytes : Nat) (E : ElemT P t e size bytes)
    (v : Value) (n : Nat) (xs : List Value) (hs : a.eval s = v) (hown : w.ownsRow base e size v n xs)
    (A : Option Addr) (m c : Nat) (news : List Value) (hx : a.eval x = .slice A m c) (hr : Rd w size A m news) (h1 : ∀ u ∈ news, u.oneCell' = true)
    (hbytes : (n + m) * bytes ≤ 140737488355328) (h63 : n + m ≤ maxLen) (hbase : base ≤ w.heap.size) (hnil : A = none → m = 0)
    (h : ∀ v' w', w'.ownsRow base e size v' (n + m) (xs ++ news) → w.grownBy w' v.ownBlock → (v'.ownBlock = v.ownBlock ∨ v'.ownBlock = some w.heap.size) → wpList P ops Q rest (a.put o.dst v') w') : wpList P ops Q (o :: rest) a w :=
  wpList_wanted hgd fun _ hK => wp_append_rd w s x t ho base e size bytes E v n xs hs hown A m c news hx hr h1 hbytes h63 hbase hnil fun v' w' h2 h3 h4 => hK _ _ (h v' w' h2 h3 h4)
end
/-- The same law inside a region that draws its order. -/
theorem step_append_rd {P : Program} {w : World} {ops : Array Oper} {o : Oper} {a : Act} {K : Act → World → Prop} {Q : Exit → Act → World → Prop} {E : Prop} (hgd : Region.wanted o (yielded ops a.tmps) = true) (s x : Operand) (t : TypeId)
    (ho : o.op = .call { callee := .builtin .append, args := #[s, x], argTypes := #[t, t] })
    (base : Nat) (e : TypeId) (size bytes : Nat) (ET : ElemT P t e size bytes)
    (v : Value) (n : Nat) (xs : List Value) (hs : a.eval s = v) (hown : w.ownsRow base e size v n xs)
    (A : Option Addr) (m c : Nat) (news : List Value) (hx : a.eval x = .slice A m c) (hr : Rd w size A m news) (h1 : ∀ u ∈ news, u.oneCell' = true)
    (hbytes : (n + m) * bytes ≤ 140737488355328) (h63 : n + m ≤ maxLen) (hbase : base ≤ w.heap.size) (hnil : A = none → m = 0)
    (h : ∀ v' w', w'.ownsRow base e size v' (n + m) (xs ++ news) → w.grownBy w' v.ownBlock → (v'.ownBlock = v.ownBlock ∨ v'.ownBlock = some w.heap.size) → K (a.put o.dst v') w') :
    if Region.wanted o (yielded ops a.tmps) = true then Oper.wp P o a w K Q else E := by
  rw [if_pos hgd]
  exact wp_append_rd w s x t ho base e size bytes ET v n xs hs hown A m c news hx hr h1 hbytes h63 hbase hnil h
/-- 'make([]T, n)' of one-cell elements: an equation for every world. -/
theorem make_one {P : Program} {t e : TypeId} {z : Value} {bytes : Nat} (ht : P.underlying t = some (.slice e)) (h : (P.info? e).map (fun i => (i.zero, i.size, i.bytes)) = some (some z, 1, bytes)) (hz : z.cells = #[z])
    (n : Nat) (hb : bytes * n ≤ 281474976710656) (hm : n ≤ maxLen) :
    ∃ cs : Array Value, cs.size = n ∧ cs.toList = List.replicate n z ∧ ∀ (kl kc : IntKind) (W : World), (Instr.makeSlice t (.int kl (n : Int)) (.int kc (n : Int))).run P W = .ok (.slice (some ⟨W.heap.size, 0, none⟩) n n) (W.alloc (.cells cs e)) := by
  obtain ⟨i, hi, h1, h2, h3⟩ := info_parts h
  refine ⟨madeCells z.cells (n * i.size), by rw [size_madeCells, h2, Nat.mul_one], ?_, fun kl kc W => ?_⟩
  · rw [h2, Nat.mul_one, hz]
    apply List.ext_getElem
    · simp [madeCells]
    · intro j h1 h2
      simp [madeCells, Nat.mod_one]
  · have hb' : (i.bytes : Int) * (n : Int) ≤ 281474976710656 := by
      rw [h3]
      have h : ((bytes * n : Nat) : Int) ≤ 281474976710656 := by omega
      rwa [Int.natCast_mul] at h
    have hm' : n ≤ 9223372036854775807 := by simp only [maxLen] at hm; omega
    have hr := run_make (P := P) W t e i z ht hi h1 kl kc n n (by omega) (by omega) hb' (by omega)
    simp only [Int.toNat_natCast] at hr
    exact hr
/-- A new block that holds just its own cells is a row of the call's own. -/
theorem own_new (w : World) (cs : Array Value) (e : TypeId) (size n base : Nat) (h : cs.size = n * size) (hm : n ≤ maxLen) (hb : base ≤ w.heap.size) :
    (w.alloc (.cells cs e)).ownsRow base e size (.slice (some ⟨w.heap.size, 0, none⟩) n n) n cs.toList := by
  refine ⟨by simpa using h, .inr ⟨_, n, cs, rfl, hb, heap_alloc_new w _, Nat.le_refl _, hm, h, ?_⟩⟩
  rw [List.take_of_length_le (by simp [h])]
theorem below_drewN {B : Nat} {a w : World} (h : Below B a w) (n : Nat) : Below B a (w.drewN n) := ⟨h.os, h.tape, h.output, h.size, h.block⟩
/-- 's == nil' of a slice. -/
theorem eql_slice_nil_any {P : Program} {t e : TypeId} (h : P.underlying t = some (.slice e)) (w : World) (a : Option Addr) (n c n' c' : Nat) :
    (binOp .eql t (.slice a n c) (.slice none n' c')).run P w = .ok (.bool a.isNone) w := by
  simp only [binOp]
  simp [Op.equal, Op.maxDepth, Lib.run_equalIn_slice_nil w 9999 t e a n c n' c' h]
/-- An own row stays while only new blocks are made and written. -/
theorem own_below {w w' : World} {base : Nat} {e : TypeId} {size n : Nat} {v : Value} {xs : List Value} (h : w.ownsRow base e size v n xs) (hb : Below w.heap.size w w') : w'.ownsRow base e size v n xs := by
  refine ⟨h.1, ?_⟩
  rcases h.2 with h0 | ⟨g, cap, cur, hv, hbase, hh, hr⟩
  · exact .inl h0
  · have hlt : g < w.heap.size := by
      rcases Nat.lt_or_ge g w.heap.size with hlt | hge
      · exact hlt
      · rw [Array.getElem?_eq_none hge] at hh; cases hh
    exact .inr ⟨g, cap, cur, hv, hbase, (hb.block g hlt).trans hh, hr⟩
/-- A call's own row: in blocks from B on. -/
theorem own_grown {B : Nat} {a w w' : World} {e : TypeId} {size n : Nat} {v : Value} {xs : List Value} (h : Below B a w) (ho : w.ownsRow B e size v n xs) (hg : w.grownBy w' v.ownBlock) (hB : B ≤ w.heap.size) : Below B a w' :=
  h.grown hg hB fun _ hk => (ho.lt _ hk).1
end Go.Proofs.Ytblljpdlmllceaa
/-
  Words for bytes in memory.
-/
namespace Go.Proofs.Ytblljpdlmllceaa
open Go.RowKit
/-- A byte as a cell. -/
def bv (u : UInt8) : Value := .int .u8 (u.toNat : Int)
def bvs (l : List UInt8) : List Value := l.map bv
theorem bvs_one (l : List UInt8) : ∀ u ∈ bvs l, u.oneCell' = true := by
  intro u hu
  obtain ⟨x, _, rfl⟩ := List.mem_map.1 hu
  rfl
theorem bvs_length (l : List UInt8) : (bvs l).length = l.length := List.length_map _
theorem Rd.byte {w : World} {A : Option Addr} {l : List UInt8} (h : Rd w 1 A l.length (bvs l)) {k : Nat} (hk : k < l.length) :
    ∃ b o, A = some ⟨b, o, none⟩ ∧ w.cell? ⟨b, o + k, none⟩ = some (.int .u8 (l[k].toNat : Int)) := by
  obtain ⟨b, o, e, hc⟩ := h.2 (by rw [bvs_length]; omega)
  exact ⟨b, o, e, hc k _ (by simp [bvs, bv, hk])⟩
/-- 'string(b)' where b reads as these bytes. -/
theorem run_str_rd {P : Program} {w : World} (src dst e : TypeId) {A : Option Addr} (c : Nat) {l : List UInt8} (hs : P.underlying src = some (.slice e)) (he : P.underlying e = some (.int .u8)) (hd : P.underlying dst = some .string)
    (hA : A = none → l.length = 0) (h : Rd w 1 A l.length (bvs l)) : (convert src dst (.slice A l.length c)).run P w = .ok (.string ⟨l.toArray⟩) w := by
  rcases A with _ | a
  · have hl : l = [] := List.eq_nil_of_length_eq_zero (hA rfl)
    subst hl
    exact run_convert_bytes_nil w src e hs he _ _ dst hd
  · refine run_convert_bytes_back w src dst e a c l hs he hd fun j hj => ?_
    obtain ⟨b, o, hb, hc⟩ := h.byte hj
    injection hb with hb
    subst hb
    rw [add_plain]; exact hc
theorem run_str_n {P : Program} {w : World} (src dst e : TypeId) {A : Option Addr} {n : Nat} (c : Nat) {l : List UInt8} (hn : l.length = n) (hs : P.underlying src = some (.slice e)) (he : P.underlying e = some (.int .u8)) (hd : P.underlying dst = some .string)
    (hA : A = none → n = 0) (h : Rd w 1 A n (bvs l)) : (convert src dst (.slice A n c)).run P w = .ok (.string ⟨l.toArray⟩) w := by
  subst hn
  exact run_str_rd src dst e c hs he hd hA h
theorem own_nil {w : World} {base n c size : Nat} {e : TypeId} {A : Option Addr} {xs : List Value} (h : w.ownsRow base e size (.slice A n c) n xs) : A = none → n = 0 := by
  rintro rfl
  rcases h.2 with ⟨_, h⟩ | ⟨g, cap, cur, h, _⟩
  · exact h
  · cases h
theorem own_cap {w : World} {base n c size : Nat} {e : TypeId} {A : Option Addr} {xs : List Value} (h : w.ownsRow base e size (.slice A n c) n xs) : n ≤ c := by
  rcases h.2 with ⟨h, h0⟩ | ⟨g, cap, cur, h, _, _, hn, _⟩
  · omega
  · injection h with _ _ h3; omega
theorem own_form {w : World} {base n size : Nat} {e : TypeId} {v : Value} {xs : List Value} (h : w.ownsRow base e size v n xs) : ∃ A c, v = .slice A n c := by
  rcases h.2 with ⟨hv, h0⟩ | ⟨g, cap, cur, hv, _, _, hn, _⟩
  · exact ⟨none, 0, by rw [h0]; exact hv⟩
  · exact ⟨_, _, hv⟩
end Go.Proofs.Ytblljpdlmllceaa
/-
  Plain mathematics of spans: a list of spans that do not touch is told by its keys alone; how spans are joined.
-/
namespace Go.Proofs.Ytblljpdlmllceaa
section
variable {α : Type} [LT α] [LE α] [DecidableLT α] [DecidableLE α] [Std.IsLinearOrder α] [Std.LawfulOrderLT α]
/-- A key in a span. -/
def InS (s : α × α) (k : α) : Prop := s.1 ≤ k ∧ k < s.2
/-- A key in one of spans. -/
def InL (L : List (α × α)) (k : α) : Prop := ∃ s, s ∈ L ∧ InS s k
/-- Spans that hold keys, rising, and do not touch. -/
def Canon : List (α × α) → Prop
  | [] => True
  | s :: L => s.1 < s.2 ∧ (∀ t, t ∈ L → s.2 < t.1) ∧ Canon L
end
section
variable {α : Type} [LT α] [LE α]
theorem InL.cons {s : α × α} {L : List (α × α)} {k : α} : InL (s :: L) k ↔ InS s k ∨ InL L k := by
  simp [InL]
end
section
variable {α : Type} [LT α] [LE α] [DecidableLT α] [DecidableLE α] [Std.IsLinearOrder α] [Std.LawfulOrderLT α]
end
section
variable {α : Type} [LT α] [LE α]
theorem InL.nil {k : α} : ¬ InL ([] : List (α × α)) k := by simp [InL]
end
section
variable {α : Type} [LT α] [LE α] [DecidableLT α] [DecidableLE α] [Std.IsLinearOrder α] [Std.LawfulOrderLT α]
end
section
variable {α : Type} [LT α] [LE α]
theorem InL.append {L M : List (α × α)} {k : α} : InL (L ++ M) k ↔ InL L k ∨ InL M k := by
  induction L with
  | nil => simp [InL.nil]
  | cons s L ih => simp [InL.cons, ih, or_assoc]
end
section
variable {α : Type} [LT α] [LE α] [DecidableLT α] [DecidableLE α] [Std.IsLinearOrder α] [Std.LawfulOrderLT α]
end
section
variable {α : Type} [LT α]
theorem Canon.mem {L : List (α × α)} (h : Canon L) : ∀ t, t ∈ L → t.1 < t.2 := by
  induction L with
  | nil => intro t ht; cases ht
  | cons s L ih =>
    intro t ht
    rcases List.mem_cons.1 ht with rfl | ht
    · exact h.1
    · exact ih h.2.2 t ht
end
section
variable {α : Type} [LT α] [LE α] [DecidableLT α] [DecidableLE α] [Std.IsLinearOrder α] [Std.LawfulOrderLT α]
end
section
variable {α : Type} [LT α] [LE α] [Std.IsLinearOrder α] [Std.LawfulOrderLT α]
theorem canon_uniq {A B : List (α × α)} (hA : Canon A) (hB : Canon B) (h : ∀ k, InL A k ↔ InL B k) : A = B := by
  induction A generalizing B with
  | nil =>
    cases B with
    | nil => rfl
    | cons b B =>
      have := (h b.1).2 ⟨b, by simp, by have := hB.1; unfold InS; grind⟩
      exact absurd this InL.nil
  | cons a A ih =>
    cases B with
    | nil =>
      have := (h a.1).1 ⟨a, by simp, by have := hA.1; unfold InS; grind⟩
      exact absurd this InL.nil
    | cons b B =>
      obtain ⟨ha1, ha2, ha3⟩ := hA
      obtain ⟨hb1, hb2, hb3⟩ := hB
      have low : ∀ {x : α × α} {L : List (α × α)}, x.1 < x.2 → (∀ t, t ∈ L → x.2 < t.1) → ∀ k, InL (x :: L) k → x.1 ≤ k := by
        intro x L h1 h2 k hk
        rcases InL.cons.1 hk with hk | ⟨t, ht, hk⟩
        · exact hk.1
        · have := h2 t ht; have := hk.1; grind
      have e1 : a.1 = b.1 := by
        have p := low hb1 hb2 a.1 ((h a.1).1 (InL.cons.2 (.inl ⟨by grind, ha1⟩)))
        have q := low ha1 ha2 b.1 ((h b.1).2 (InL.cons.2 (.inl ⟨by grind, hb1⟩)))
        grind
      have out : ∀ {x : α × α} {L : List (α × α)}, (∀ t, t ∈ L → x.2 < t.1) → ¬ InL (x :: L) x.2 := by
        intro x L h2 hk
        rcases InL.cons.1 hk with hk | ⟨t, ht, hk⟩
        · have := hk.2; grind
        · have := h2 t ht; have := hk.1; grind
      have e2 : a.2 = b.2 := by
        have p := out ha2
        have q := out hb2
        rw [h] at p
        rw [← h] at q
        have p' : ¬ InS b a.2 := fun h => p (InL.cons.2 (.inl h))
        have q' : ¬ InS a b.2 := fun h => q (InL.cons.2 (.inl h))
        unfold InS at p' q'
        grind
      have e : a = b := Prod.ext e1 e2
      subst e
      congr 1
      refine ih ha3 hb3 fun k => ?_
      have hk := h k
      rw [InL.cons, InL.cons] at hk
      constructor
      · intro hx
        obtain ⟨t, ht, hx'⟩ := hx
        have h1 := ha2 t ht
        have h2 := hx'.1
        rcases hk.1 (.inr ⟨t, ht, hx'⟩) with h3 | h3
        · have := h3.2; grind
        · exact h3
      · intro hx
        obtain ⟨t, ht, hx'⟩ := hx
        have h1 := hb2 t ht
        have h2 := hx'.1
        rcases hk.2 (.inr ⟨t, ht, hx'⟩) with h3 | h3
        · have := h3.2; grind
        · exact h3
end
section
variable {α : Type} [LT α] [LE α] [DecidableLT α] [DecidableLE α] [Std.IsLinearOrder α] [Std.LawfulOrderLT α]
end
section
variable {α : Type} [LT α]
theorem Canon.snoc {L : List (α × α)} {s : α × α} (h : Canon L) (hs : s.1 < s.2) (hl : ∀ t, t ∈ L → t.2 < s.1) : Canon (L ++ [s]) := by
  induction L with
  | nil => exact ⟨hs, fun t ht => (by cases ht), trivial⟩
  | cons a L ih =>
    refine ⟨h.1, fun t ht => ?_, ih h.2.2 fun t ht => hl t (List.mem_cons_of_mem _ ht)⟩
    rcases List.mem_append.1 ht with ht | ht
    · exact h.2.1 t ht
    · have : t = s := by simpa using ht
      subst this
      exact hl a (by simp)
end
section
variable {α : Type} [LT α] [LE α] [DecidableLT α] [DecidableLE α] [Std.IsLinearOrder α] [Std.LawfulOrderLT α]
end
section
variable {α : Type} [LT α]
theorem Canon.init {L : List (α × α)} {s : α × α} (h : Canon (L ++ [s])) : Canon L ∧ s.1 < s.2 ∧ ∀ t, t ∈ L → t.2 < s.1 := by
  induction L with
  | nil => exact ⟨trivial, h.1, fun t ht => (by cases ht)⟩
  | cons a L ih =>
    obtain ⟨h1, h2, h3⟩ := h
    obtain ⟨i1, i2, i3⟩ := ih h3
    refine ⟨⟨h1, fun t ht => h2 t (by simp [ht]), i1⟩, i2, fun t ht => ?_⟩
    rcases List.mem_cons.1 ht with rfl | ht
    · exact h2 s (by simp)
    · exact i3 t ht
end
section
variable {α : Type} [LT α] [LE α] [DecidableLT α] [DecidableLE α] [Std.IsLinearOrder α] [Std.LawfulOrderLT α]
/-- What stands joined of the spans so far; all that is to come begins not below. -/
def Joined (out : List (α × α)) (done : List (α × α)) (lo : α → Prop) : Prop :=
  Canon out ∧ (∀ k, InL out k ↔ InL done k) ∧ ∀ t, t ∈ out → lo t.1
end
section
variable {α : Type} [LT α] [LE α] [DecidableLT α] [Std.IsLinearOrder α] [Std.LawfulOrderLT α]
theorem canon_last {L : List (α × α)} {p s : α × α} (h : Canon (L ++ [p])) (hs : s.1 < s.2) (hps : p.1 ≤ s.1) (htouch : s.1 ≤ p.2) :
    Canon (L ++ [(p.1, if p.2 < s.2 then s.2 else p.2)]) ∧ ∀ k, InL (L ++ [(p.1, if p.2 < s.2 then s.2 else p.2)]) k ↔ InL (L ++ [p]) k ∨ InS s k := by
  obtain ⟨h1, h2, h3⟩ := h.init
  refine ⟨h1.snoc (by show p.1 < (if p.2 < s.2 then s.2 else p.2); split <;> grind) h3, fun k => ?_⟩
  simp only [InL.append, InL.cons, InL.nil, or_false]
  have : InS (p.1, if p.2 < s.2 then s.2 else p.2) k ↔ InS p k ∨ InS s k := by
    unfold InS
    show p.1 ≤ k ∧ k < (if p.2 < s.2 then s.2 else p.2) ↔ _
    split <;> grind
  rw [this, or_assoc]
end
section
variable {α : Type} [LT α] [LE α] [DecidableLT α] [DecidableLE α] [Std.IsLinearOrder α] [Std.LawfulOrderLT α]
end
section
variable {α : Type} [LT α] [LE α] [Std.IsLinearOrder α] [Std.LawfulOrderLT α]
theorem canon_next {L : List (α × α)} {p s : α × α} (h : Canon (L ++ [p])) (hs : s.1 < s.2) (hfar : p.2 < s.1) :
    Canon (L ++ [p] ++ [s]) ∧ ∀ k, InL (L ++ [p] ++ [s]) k ↔ InL (L ++ [p]) k ∨ InS s k := by
  obtain ⟨h1, h2, h3⟩ := h.init
  refine ⟨h.snoc hs fun t ht => ?_, fun k => ?_⟩
  · rcases List.mem_append.1 ht with ht | ht
    · have := h3 t ht; grind
    · have : t = p := by simpa using ht
      subst this; exact hfar
  · simp only [InL.append, InL.cons, InL.nil, or_false]
end
section
variable {α : Type} [LT α] [LE α] [DecidableLT α] [DecidableLE α] [Std.IsLinearOrder α] [Std.LawfulOrderLT α]
end
section
variable {α : Type} [LT α] [LE α] [DecidableLT α] [DecidableLE α] [Std.IsLinearOrder α] [Std.LawfulOrderLT α]
/-- Where the joining of spans that begin ever later stands: what is out, what is done, what is to come. -/
def MergeInv (out done rest : List (α × α)) : Prop :=
  Canon out ∧ (∀ k, InL out k ↔ InL done k) ∧ ∀ t, t ∈ out → ∀ s, s ∈ rest → t.1 ≤ s.1
/-- Rising by where they begin; each holds a key. -/
def Rising : List (α × α) → Prop
  | [] => True
  | s :: L => s.1 < s.2 ∧ (∀ t, t ∈ L → s.1 ≤ t.1) ∧ Rising L
end
section
variable {α : Type} [LT α] [LE α]
theorem merge_start (ys : List (α × α)) : MergeInv [] [] ys := ⟨trivial, fun _ => Iff.rfl, fun t ht => by cases ht⟩
end
section
variable {α : Type} [LT α] [LE α] [DecidableLT α] [DecidableLE α] [Std.IsLinearOrder α] [Std.LawfulOrderLT α]
end
section
variable {α : Type} [LT α] [LE α]
theorem inl_snoc {L : List (α × α)} {s : α × α} {k : α} : InL (L ++ [s]) k ↔ InL L k ∨ InS s k := by
  simp [InL.append, InL.cons, InL.nil]
end
section
variable {α : Type} [LT α] [LE α] [DecidableLT α] [DecidableLE α] [Std.IsLinearOrder α] [Std.LawfulOrderLT α]
end
section
variable {α : Type} [LT α] [LE α]
theorem merge_first {done rest : List (α × α)} {s : α × α} (h : MergeInv [] done (s :: rest)) (hr : Rising (s :: rest)) : MergeInv [s] (done ++ [s]) rest := by
  refine ⟨⟨hr.1, fun t ht => (by cases ht), trivial⟩, fun k => ?_, fun t ht u hu => ?_⟩
  · rw [inl_snoc, ← h.2.1 k, InL.cons]
    simp [InL.nil]
  · have : t = s := by simpa using ht
    subst this
    exact hr.2.1 u hu
end
section
variable {α : Type} [LT α] [LE α] [DecidableLT α] [DecidableLE α] [Std.IsLinearOrder α] [Std.LawfulOrderLT α]
end
section
variable {α : Type} [LT α] [LE α] [Std.IsLinearOrder α] [Std.LawfulOrderLT α]
theorem merge_far {L done rest : List (α × α)} {p s : α × α} (h : MergeInv (L ++ [p]) done (s :: rest)) (hr : Rising (s :: rest)) (hfar : p.2 < s.1) : MergeInv (L ++ [p] ++ [s]) (done ++ [s]) rest := by
  obtain ⟨h1, h2⟩ := canon_next h.1 hr.1 hfar
  refine ⟨h1, fun k => by rw [h2, h.2.1, inl_snoc], fun t ht u hu => ?_⟩
  rcases List.mem_append.1 ht with ht | ht
  · exact h.2.2 t ht u (List.mem_cons_of_mem _ hu)
  · have : t = s := by simpa using ht
    subst this
    exact hr.2.1 u hu
end
section
variable {α : Type} [LT α] [LE α] [DecidableLT α] [DecidableLE α] [Std.IsLinearOrder α] [Std.LawfulOrderLT α]
end
section
variable {α : Type} [LT α] [LE α] [DecidableLT α] [Std.IsLinearOrder α] [Std.LawfulOrderLT α]
theorem merge_touch {L done rest : List (α × α)} {p s : α × α} (h : MergeInv (L ++ [p]) done (s :: rest)) (hr : Rising (s :: rest)) (ht : s.1 ≤ p.2) :
    MergeInv (L ++ [(p.1, if p.2 < s.2 then s.2 else p.2)]) (done ++ [s]) rest := by
  have hps := h.2.2 p (by simp) s (by simp)
  obtain ⟨h1, h2⟩ := canon_last h.1 hr.1 hps ht
  refine ⟨h1, fun k => by rw [h2, h.2.1, inl_snoc], fun t ht u hu => ?_⟩
  rcases List.mem_append.1 ht with ht | ht
  · exact h.2.2 t (by simp [ht]) u (List.mem_cons_of_mem _ hu)
  · have : t = (p.1, if p.2 < s.2 then s.2 else p.2) := by simpa using ht
    subst this
    exact h.2.2 p (by simp) u (List.mem_cons_of_mem _ hu)
end
section
variable {α : Type} [LT α] [LE α] [DecidableLT α] [DecidableLE α] [Std.IsLinearOrder α] [Std.LawfulOrderLT α]
end
section
variable {α : Type} [LT α] [LE α]
theorem Rising.tail {s : α × α} {L : List (α × α)} (h : Rising (s :: L)) : Rising L := h.2.2
end
section
variable {α : Type} [LT α] [LE α] [DecidableLT α] [DecidableLE α] [Std.IsLinearOrder α] [Std.LawfulOrderLT α]
/-- A span without others: where it stands. -/
def CutInv (s0 : α × α) (cur : α) (out done rest : List (α × α)) : Prop :=
  Canon out ∧ (∀ k, InL out k ↔ InS s0 k ∧ ¬ InL done k ∧ k < cur) ∧ (∀ t, t ∈ out → t.2 < cur) ∧ s0.1 ≤ cur ∧ (∀ g, g ∈ done → g.2 ≤ cur) ∧ (cur = s0.1 ∨ ∀ g, g ∈ rest → cur < g.1)
end
section
variable {α : Type} [LT α] [LE α] [Std.IsLinearOrder α] [Std.LawfulOrderLT α]
theorem cut_start (s0 : α × α) (rest : List (α × α)) : CutInv s0 s0.1 [] [] rest :=
  ⟨trivial, fun k => ⟨fun h => absurd h InL.nil, fun ⟨h1, _, h3⟩ => by have := h1.1; grind⟩, fun t ht => (by cases ht), by grind, fun g hg => (by cases hg), .inl rfl⟩
end
section
variable {α : Type} [LT α] [LE α] [DecidableLT α] [DecidableLE α] [Std.IsLinearOrder α] [Std.LawfulOrderLT α]
end
section
variable {α : Type} [LT α] [LE α] [Std.IsLinearOrder α] [Std.LawfulOrderLT α]
theorem cut_done {s0 : α × α} {cur : α} {out done rest : List (α × α)} (h : CutInv s0 cur out done rest) {k : α} (hk : cur ≤ k) : ¬ InL done k := by
  rintro ⟨g, hg, hin⟩
  have := h.2.2.2.2.1 g hg
  have := hin.2
  grind
end
section
variable {α : Type} [LT α] [LE α] [DecidableLT α] [DecidableLE α] [Std.IsLinearOrder α] [Std.LawfulOrderLT α]
end
section
variable {α : Type} [LT α] [LE α] [DecidableLT α] [Std.IsLinearOrder α] [Std.LawfulOrderLT α]
theorem cut_next {s0 g : α × α} {cur : α} {out done rest : List (α × α)} (h : CutInv s0 cur out done (g :: rest)) (hc : Canon (g :: rest)) {out' : List (α × α)}
    (ho : out' = if cur < (if g.1 < s0.2 then g.1 else s0.2) then out ++ [(cur, if g.1 < s0.2 then g.1 else s0.2)] else out) :
    CutInv s0 (if cur < g.2 then g.2 else cur) out' (done ++ [g]) rest := by
  obtain ⟨h1, h2, h3, h4, h5, h6⟩ := h
  obtain ⟨c1, c2, c3⟩ := hc
  have key : ∀ k, (InS s0 k ∧ ¬ InL (done ++ [g]) k ∧ k < (if cur < g.2 then g.2 else cur)) ↔ InL out k ∨ (cur ≤ k ∧ k < (if g.1 < s0.2 then g.1 else s0.2)) := by
    intro k
    rw [h2, inl_snoc]
    constructor
    · rintro ⟨a, b, c⟩
      by_cases hk : k < cur
      · exact .inl ⟨a, fun x => b (.inl x), hk⟩
      · have b' : ¬ InS g k := fun x => b (.inr x)
        have a' := a
        unfold InS at b' a'
        refine .inr ⟨by grind, ?_⟩
        split at c <;> split <;> grind
    · rintro (⟨a, b, c⟩ | ⟨a, b⟩)
      · refine ⟨a, ?_, by split <;> grind⟩
        rintro (x | x)
        · exact b x
        · have a1 := a.1
          have x1 := x.1
          rcases h6 with h6 | h6
          · grind
          · have := h6 g (by simp); grind
      · refine ⟨⟨by grind, by split at b <;> grind⟩, ?_, by split at b <;> split <;> grind⟩
        rintro (x | x)
        · obtain ⟨t, ht, hin⟩ := x
          have := h5 t ht
          have := hin.2
          grind
        · have := x.1; split at b <;> grind
  have last6 : (if cur < g.2 then g.2 else cur) = s0.1 ∨ ∀ t, t ∈ rest → (if cur < g.2 then g.2 else cur) < t.1 := by
    split
    · exact .inr c2
    · rcases h6 with h6 | h6
      · exact .inl h6
      · exact .inr fun t ht => h6 t (by simp [ht])
  have h4' : s0.1 ≤ (if cur < g.2 then g.2 else cur) := by split <;> grind
  have h5' : ∀ t, t ∈ done ++ [g] → t.2 ≤ (if cur < g.2 then g.2 else cur) := by
    intro t ht
    rcases List.mem_append.1 ht with ht | ht
    · have := h5 t ht; split <;> grind
    · have : t = g := by simpa using ht
      subst this; split <;> grind
  have hle : cur ≤ (if cur < g.2 then g.2 else cur) := by split <;> grind
  subst ho
  by_cases hne : cur < (if g.1 < s0.2 then g.1 else s0.2)
  · rw [if_pos hne]
    refine ⟨h1.snoc hne h3, fun k => ?_, fun t ht => ?_, h4', h5', last6⟩
    · rw [key, inl_snoc]; rfl
    · rcases List.mem_append.1 ht with ht | ht
      · have := h3 t ht; grind
      · have : t = (cur, if g.1 < s0.2 then g.1 else s0.2) := by simpa using ht
        subst this
        show (if g.1 < s0.2 then g.1 else s0.2) < _
        split at hne <;> split <;> grind
  · rw [if_neg hne]
    refine ⟨h1, fun k => ?_, fun t ht => ?_, h4', h5', last6⟩
    · rw [key]
      constructor
      · exact .inl
      · rintro (x | x)
        · exact x
        · exact absurd x (by grind)
    · have := h3 t ht; grind
end
section
variable {α : Type} [LT α] [LE α] [DecidableLT α] [DecidableLE α] [Std.IsLinearOrder α] [Std.LawfulOrderLT α]
end
section
variable {α : Type} [LT α] [LE α] [DecidableLT α] [Std.IsLinearOrder α] [Std.LawfulOrderLT α]
theorem cut_end {s0 : α × α} {cur : α} {out done : List (α × α)} (h : CutInv s0 cur out done []) {out' : List (α × α)} (ho : out' = if cur < s0.2 then out ++ [(cur, s0.2)] else out) :
    Canon out' ∧ ∀ k, InL out' k ↔ InS s0 k ∧ ¬ InL done k := by
  have hd : ∀ {k : α}, cur ≤ k → ¬ InL done k := fun hk => cut_done h hk
  obtain ⟨h1, h2, h3, h4, h5, h6⟩ := h
  subst ho
  by_cases hne : cur < s0.2
  · rw [if_pos hne]
    refine ⟨h1.snoc hne h3, fun k => ?_⟩
    rw [inl_snoc, h2]
    constructor
    · rintro (⟨a, b, c⟩ | ⟨a, b⟩)
      · exact ⟨a, b⟩
      · exact ⟨⟨by grind, b⟩, hd a⟩
    · rintro ⟨a, b⟩
      by_cases hk : k < cur
      · exact .inl ⟨a, b, hk⟩
      · exact .inr ⟨by grind, a.2⟩
  · rw [if_neg hne]
    refine ⟨h1, fun k => ?_⟩
    rw [h2]
    constructor
    · rintro ⟨a, b, c⟩; exact ⟨a, b⟩
    · rintro ⟨a, b⟩
      refine ⟨a, b, ?_⟩
      have := a.2; grind
end
section
variable {α : Type} [LT α] [LE α] [DecidableLT α] [DecidableLE α] [Std.IsLinearOrder α] [Std.LawfulOrderLT α]
/-- The fewest spans of the keys with M, up to lo. -/
def BuildInv (M : α → Prop) (lo : α) (out : List (α × α)) : Prop :=
  Canon out ∧ (∀ k, InL out k ↔ M k ∧ k < lo) ∧ ∀ t, t ∈ out → t.2 ≤ lo
end
section
variable {α : Type} [LT α] [LE α]
theorem build_start {M : α → Prop} {lo : α} (h : ∀ k, k < lo → ¬ M k) : BuildInv M lo [] :=
  ⟨trivial, fun k => ⟨fun h => absurd h InL.nil, fun ⟨a, b⟩ => absurd a (h k b)⟩, fun t ht => by cases ht⟩
end
section
variable {α : Type} [LT α] [LE α] [DecidableLT α] [DecidableLE α] [Std.IsLinearOrder α] [Std.LawfulOrderLT α]
end
section
variable {α : Type} [LT α] [LE α] [DecidableLT α] [Std.IsLinearOrder α] [Std.LawfulOrderLT α]
theorem build_no {M : α → Prop} {lo hi : α} {out : List (α × α)} (h : BuildInv M lo out) (hlt : lo < hi) (hM : ∀ k, lo ≤ k → k < hi → (M k ↔ M lo)) (hn : ¬ M lo) : BuildInv M hi out := by
  refine ⟨h.1, fun k => ?_, fun t ht => by have := h.2.2 t ht; grind⟩
  rw [h.2.1]
  constructor
  · rintro ⟨a, b⟩; exact ⟨a, by grind⟩
  · rintro ⟨a, b⟩
    refine ⟨a, ?_⟩
    by_cases hk : k < lo
    · exact hk
    · exact absurd ((hM k (by grind) b).1 a) hn
end
section
variable {α : Type} [LT α] [LE α] [DecidableLT α] [DecidableLE α] [Std.IsLinearOrder α] [Std.LawfulOrderLT α]
end
section
variable {α : Type} [LT α] [LE α] [DecidableLT α] [Std.IsLinearOrder α] [Std.LawfulOrderLT α]
theorem build_yes {M : α → Prop} {lo hi : α} {out : List (α × α)} (h : BuildInv M lo out) (hlt : lo < hi) (hM : ∀ k, lo ≤ k → k < hi → (M k ↔ M lo)) (hn : M lo) (hl : ∀ L p, out = L ++ [p] → p.2 ≠ lo) : BuildInv M hi (out ++ [(lo, hi)]) := by
  have hl' : ∀ t, t ∈ out → t.2 < lo := by
    intro t ht
    rcases List.eq_nil_or_concat out with h0 | ⟨L, p, h0⟩
    · subst h0; cases ht
    · have hp := hl L p (by simpa using h0)
      have h0 : out = L ++ [p] := by simpa using h0
      subst h0
      have c := h.1.init
      have hp2 := h.2.2 p (by simp)
      rcases List.mem_append.1 ht with ht | ht
      · have := c.2.2 t ht; have := c.2.1; grind
      · have : t = p := by simpa using ht
        subst this; grind
  refine ⟨h.1.snoc hlt hl', fun k => ?_, fun t ht => ?_⟩
  · rw [inl_snoc, h.2.1]
    constructor
    · rintro (⟨a, b⟩ | ⟨a, b⟩)
      · exact ⟨a, by grind⟩
      · exact ⟨(hM k a b).2 hn, b⟩
    · rintro ⟨a, b⟩
      by_cases hk : k < lo
      · exact .inl ⟨a, hk⟩
      · exact .inr ⟨by grind, b⟩
  · rcases List.mem_append.1 ht with ht | ht
    · have := hl' t ht; grind
    · have : t = (lo, hi) := by simpa using ht
      subst this; show hi ≤ hi; grind
end
section
variable {α : Type} [LT α] [LE α] [DecidableLT α] [DecidableLE α] [Std.IsLinearOrder α] [Std.LawfulOrderLT α]
end
section
variable {α : Type} [LT α] [LE α] [DecidableLT α] [Std.IsLinearOrder α] [Std.LawfulOrderLT α]
theorem build_on {M : α → Prop} {lo hi : α} {L : List (α × α)} {p : α × α} (h : BuildInv M lo (L ++ [p])) (hlt : lo < hi) (hM : ∀ k, lo ≤ k → k < hi → (M k ↔ M lo)) (hn : M lo) (hp : p.2 = lo) : BuildInv M hi (L ++ [(p.1, hi)]) := by
  obtain ⟨c1, c2, c3⟩ := h.1.init
  refine ⟨c1.snoc (by show p.1 < hi; grind) c3, fun k => ?_, fun t ht => ?_⟩
  · have h2 := h.2.1 k
    rw [inl_snoc] at h2 ⊢
    have e : InS (p.1, hi) k ↔ InS p k ∨ (lo ≤ k ∧ k < hi) := by unfold InS; show p.1 ≤ k ∧ k < hi ↔ _; grind
    rw [e, ← or_assoc, h2]
    constructor
    · rintro (⟨a, b⟩ | ⟨a, b⟩)
      · exact ⟨a, by grind⟩
      · exact ⟨(hM k a b).2 hn, b⟩
    · rintro ⟨a, b⟩
      by_cases hk : k < lo
      · exact .inl ⟨a, hk⟩
      · exact .inr ⟨by grind, b⟩
  · rcases List.mem_append.1 ht with ht | ht
    · have := c3 t ht; grind
    · have : t = (p.1, hi) := by simpa using ht
      subst this; show hi ≤ hi; grind
end
section
variable {α : Type} [LT α] [LE α] [DecidableLT α] [DecidableLE α] [Std.IsLinearOrder α] [Std.LawfulOrderLT α]
/-- Rising texts, each once. -/
def Up : List α → Prop
  | [] => True
  | s :: L => (∀ t, t ∈ L → s < t) ∧ Up L
end
section
variable {α : Type} [LT α]
theorem Up.append {L M : List α} : Up (L ++ M) ↔ Up L ∧ Up M ∧ ∀ s, s ∈ L → ∀ t, t ∈ M → s < t := by
  induction L with
  | nil => simp [Up]
  | cons s L ih =>
    simp only [List.cons_append, Up, ih, List.mem_append, List.mem_cons]
    constructor
    · rintro ⟨a, b, c, d⟩
      exact ⟨⟨fun t ht => a t (.inl ht), b⟩, c, fun u hu t ht => by
                                              rcases hu with rfl | hu
                                              next => exact a t (.inr ht)
                                              next hu => exact d u hu t ht⟩
    · rintro ⟨⟨a, b⟩, c, d⟩
      exact ⟨fun t ht => by
                                           rcases ht with ht | ht
                                           next ht => exact a t ht
                                           next ht => exact d s (.inl rfl) t ht, b, c, fun u hu t ht => d u (.inr hu) t ht⟩
end
section
variable {α : Type} [LT α] [LE α] [DecidableLT α] [DecidableLE α] [Std.IsLinearOrder α] [Std.LawfulOrderLT α]
end
section
variable {α : Type} [LT α]
theorem up_insert {A B : List α} {s : α} (h : Up (A ++ B)) (hA : ∀ t, t ∈ A → t < s) (hB : ∀ t, t ∈ B → s < t) : Up (A ++ [s] ++ B) := by
  rw [Up.append] at h
  rw [Up.append, Up.append]
  refine ⟨⟨h.1, ⟨fun t ht => (by cases ht), trivial⟩, fun u hu t ht => ?_⟩, h.2.1, fun u hu t ht => ?_⟩
  · have : t = s := by simpa using ht
    subst this; exact hA u hu
  · rcases List.mem_append.1 hu with hu | hu
    · exact h.2.2 u hu t ht
    · have : u = s := by simpa using hu
      subst this; exact hB t ht
end
section
variable {α : Type} [LT α] [LE α] [DecidableLT α] [DecidableLE α] [Std.IsLinearOrder α] [Std.LawfulOrderLT α]
end
section
variable {α : Type} [LT α] [LE α] [Std.IsLinearOrder α] [Std.LawfulOrderLT α]
theorem gap_ins {A B : List α} {lo hi : α} (h : Up (A ++ lo :: hi :: B)) {s : α × α} (h1 : s.1 ∈ A ++ lo :: hi :: B) (h2 : s.2 ∈ A ++ lo :: hi :: B) {k : α} (hl : lo ≤ k) (hh : k < hi) : InS s k ↔ InS s lo := by
  rw [Up.append] at h
  obtain ⟨_, ⟨b1, b2, b3⟩, c⟩ := h
  have side : ∀ x, x ∈ A ++ lo :: hi :: B → x ≤ lo ∨ hi ≤ x := by
    intro x hx
    rcases List.mem_append.1 hx with hx | hx
    · have := c x hx lo (by simp); grind
    · rcases List.mem_cons.1 hx with rfl | hx
      · left; grind
      · rcases List.mem_cons.1 hx with rfl | hx
        · right; grind
        · have := b2 x hx; right; grind
  have s1 := side _ h1
  have s2 := side _ h2
  unfold InS
  grind
end
section
variable {α : Type} [LT α] [LE α] [DecidableLT α] [DecidableLE α] [Std.IsLinearOrder α] [Std.LawfulOrderLT α]
end
section
variable {α : Type} [LT α] [LE α] [Std.IsLinearOrder α] [Std.LawfulOrderLT α]
theorem gap_inl {A B : List α} {lo hi : α} (h : Up (A ++ lo :: hi :: B)) {L : List (α × α)} (hL : ∀ s, s ∈ L → s.1 ∈ A ++ lo :: hi :: B ∧ s.2 ∈ A ++ lo :: hi :: B) {k : α} (hl : lo ≤ k) (hh : k < hi) : InL L k ↔ InL L lo := by
  unfold InL
  constructor
  · rintro ⟨s, hs, hk⟩
    exact ⟨s, hs, (gap_ins h (hL s hs).1 (hL s hs).2 hl hh).1 hk⟩
  · rintro ⟨s, hs, hk⟩
    exact ⟨s, hs, (gap_ins h (hL s hs).1 (hL s hs).2 hl hh).2 hk⟩
end
section
variable {α : Type} [LT α] [LE α] [DecidableLT α] [DecidableLE α] [Std.IsLinearOrder α] [Std.LawfulOrderLT α]
end
section
variable {α : Type} [LT α] [LE α] [Std.IsLinearOrder α] [Std.LawfulOrderLT α]
theorem below_first {B : List α} {lo : α} (h : Up (lo :: B)) {L : List (α × α)} (hL : ∀ s, s ∈ L → s.1 ∈ lo :: B) {k : α} (hk : k < lo) : ¬ InL L k := by
  rintro ⟨s, hs, hin⟩
  have := hin.1
  rcases List.mem_cons.1 (hL s hs) with h0 | h0
  · grind
  · have := h.1 _ h0; grind
end
section
variable {α : Type} [LT α] [LE α] [DecidableLT α] [DecidableLE α] [Std.IsLinearOrder α] [Std.LawfulOrderLT α]
end
section
variable {α : Type} [LT α] [LE α] [Std.IsLinearOrder α] [Std.LawfulOrderLT α]
theorem behind_last {A : List α} {lo : α} (h : Up (A ++ [lo])) {L : List (α × α)} (hL : ∀ s, s ∈ L → s.2 ∈ A ++ [lo]) {k : α} (hk : lo ≤ k) : ¬ InL L k := by
  rintro ⟨s, hs, hin⟩
  have := hin.2
  rw [Up.append] at h
  rcases List.mem_append.1 (hL s hs) with h0 | h0
  · have := h.2.2 _ h0 lo (by simp); grind
  · have h0 : s.2 = lo := by simpa using h0
    grind
end
section
variable {α : Type} [LT α] [LE α] [DecidableLT α] [DecidableLE α] [Std.IsLinearOrder α] [Std.LawfulOrderLT α]
end
section
variable {α : Type} [LT α]
theorem canon_drop {L : List (α × α)} (h : Canon L) (k : Nat) : Canon (L.drop k) := by
  induction L generalizing k with
  | nil => simpa using h
  | cons a L ih =>
    cases k with
    | zero => exact h
    | succ k => simpa using ih h.2.2 k
end
end Go.Proofs.Ytblljpdlmllceaa
/-
  Strings as keys: their order, and how the model's comparisons read in it.
-/
namespace Go.Proofs.Ytblljpdlmllceaa
open Go.RowKit
instance : LT ByteArray := ⟨fun a b => a.data.toList < b.data.toList⟩
instance : LE ByteArray := ⟨fun a b => a.data.toList ≤ b.data.toList⟩
instance (a b : ByteArray) : Decidable (a < b) := inferInstanceAs (Decidable (a.data.toList < b.data.toList))
instance (a b : ByteArray) : Decidable (a ≤ b) := inferInstanceAs (Decidable (a.data.toList ≤ b.data.toList))
theorem ba_ext {a b : ByteArray} (h : a.data.toList = b.data.toList) : a = b := by
  cases a; cases b; congr 1; exact Array.ext' h
theorem ba_antisymm (a b : ByteArray) (h : a ≤ b) (k : b ≤ a) : a = b :=
  ba_ext (List.le_antisymm (show a.data.toList ≤ b.data.toList from h) (show b.data.toList ≤ a.data.toList from k))
theorem ba_trans (a b c : ByteArray) (h : a ≤ b) (k : b ≤ c) : a ≤ c :=
  List.le_trans (show a.data.toList ≤ b.data.toList from h) (show b.data.toList ≤ c.data.toList from k)
theorem ba_lt_iff (a b : ByteArray) : a < b ↔ a ≤ b ∧ ¬ b ≤ a := by
  show a.data.toList < b.data.toList ↔ a.data.toList ≤ b.data.toList ∧ ¬ b.data.toList ≤ a.data.toList
  rw [List.not_le]
  exact ⟨fun h => ⟨List.le_of_lt h, h⟩, fun h => h.2⟩
instance : Std.IsLinearOrder ByteArray := { le_refl := fun a => List.le_refl a.data.toList, le_trans := ba_trans, le_antisymm := ba_antisymm, le_total := fun a b => List.le_total a.data.toList b.data.toList }
instance : Std.LawfulOrderLT ByteArray := { lt_iff := ba_lt_iff }
theorem bytesLess_lt : ∀ (x y : List UInt8), Op.bytesLess x y = decide (x < y)
  | [], [] => by simp [Op.bytesLess]
  | _ :: _, [] => by simp [Op.bytesLess]
  | [], _ :: _ => by simp [Op.bytesLess]
  | a :: x, b :: y => by
    rw [Op.bytesLess, bytesLess_lt x y, Bool.eq_iff_iff]
    simp [List.cons_lt_cons_iff]
theorem bl (a b : ByteArray) : Op.bytesLess a.toList b.toList = decide (a < b) := by
  rw [bytesLess_lt, Lib.toList_data, Lib.toList_data]; rfl
theorem beq_ba (a b : ByteArray) : (a.toList == b.toList) = decide (a = b) := by
  rw [Lib.toList_data, Lib.toList_data, Bool.eq_iff_iff]
  simp only [beq_iff_eq, decide_eq_true_eq]
  exact ⟨fun h => ba_ext h, fun h => by rw [h]⟩
theorem ble (a b : ByteArray) : (Op.bytesLess a.toList b.toList || a.toList == b.toList) = decide (a ≤ b) := by
  rw [bl, beq_ba, Bool.eq_iff_iff]
  simp only [Bool.or_eq_true, decide_eq_true_eq]
  grind
theorem run_max_str {P : Program} (ts : Array TypeId) (t : TypeId) (a b : ByteArray) (w : World) : (Builtin.max_ ts t #[.string a, .string b]).run P w = .ok (.string (if a < b then b else a)) w := by
  have h := bl a b
  by_cases hab : a < b
  · simp [Builtin.max_, Builtin.max2, Op.stringOp, asBool, h, hab]
  · simp [Builtin.max_, Builtin.max2, Op.stringOp, asBool, h, hab]
theorem run_min_str {P : Program} (ts : Array TypeId) (t : TypeId) (a b : ByteArray) (w : World) : (Builtin.min_ ts t #[.string a, .string b]).run P w = .ok (.string (if b < a then b else a)) w := by
  have h := ble a b
  by_cases hab : b < a
  · have h' : ¬ a ≤ b := by grind
    simp [Builtin.min_, Builtin.min2, Op.stringOp, asBool, h, hab, h']
  · have h' : a ≤ b := by grind
    simp [Builtin.min_, Builtin.min2, Op.stringOp, asBool, h, hab, h']
/-- cmp.Compare. -/
def cmpS (a b : ByteArray) : Int := if a < b then -1 else if b < a then 1 else 0
theorem cmpS_neg (a b : ByteArray) : decide (cmpS a b < 0) = decide (a < b) := by
  unfold cmpS
  by_cases h : a < b
  · simp [h]
  · by_cases h2 : b < a <;> simp [h, h2]
set_option maxHeartbeats 400000 in
theorem compare_any (a b : ByteArray) (w : World) : Calls Try.prog 54 #[.string a, .string b] w fun e w' => e = .returned (.int .i64 (cmpS a b)) ∧ w = w' := by
  unfold cmpS
  by_cases h : a < b
  · have h1 : Op.bytesLess a.toList b.toList = true := by rw [bl]; simpa using h
    rw [if_pos h]
    clear h
    go_enter Try.func54, Try.ntmps54
    go_wp2
    go_ret
    exact ⟨rfl, rfl⟩
  · have h1 : Op.bytesLess a.toList b.toList = false := by rw [bl]; simpa using h
    rw [if_neg h]
    by_cases h2 : b < a
    · have h3 : (a.toList == b.toList) = false := by rw [beq_ba]; simp; rintro rfl; grind
      rw [if_pos h2]
      clear h h2
      go_enter Try.func54, Try.ntmps54
      go_wp2
      go_ret
      exact ⟨rfl, rfl⟩
    · have h3 : (a.toList == b.toList) = true := by rw [beq_ba]; simp; grind
      rw [if_neg h2]
      clear h h2
      go_enter Try.func54, Try.ntmps54
      go_wp2
      go_ret
      exact ⟨rfl, rfl⟩
end Go.Proofs.Ytblljpdlmllceaa
/-
  Rows of records: a list whose elements stand in memory as some cells each.
-/
namespace Go.Proofs.Ytblljpdlmllceaa
open Go.RowKit
section
variable {α : Type} {enc : α → List Value} {k : Nat}
theorem rec_append (a b : List α) : (a ++ b).flatMap enc = a.flatMap enc ++ b.flatMap enc := List.flatMap_append ..
theorem rec_len (hk : ∀ x, (enc x).length = k) (L : List α) : (L.flatMap enc).length = L.length * k := by
  induction L with
  | nil => simp
  | cons y L ih =>
    rw [List.flatMap_cons, List.length_append, ih, hk, List.length_cons, Nat.add_mul, Nat.one_mul, Nat.add_comm]
theorem rec_at (hk : ∀ x, (enc x).length = k) {L : List α} {i : Nat} {x : α} (hx : L[i]? = some x) (j : Nat) (hj : j < k) : (L.flatMap enc)[i * k + j]? = (enc x)[j]? := by
  induction L generalizing i with
  | nil => simp at hx
  | cons y L ih =>
    rw [List.flatMap_cons]
    cases i with
    | zero =>
      simp at hx; subst hx
      rw [List.getElem?_append_left (by rw [hk]; omega)]; simp
    | succ i =>
      simp at hx
      rw [List.getElem?_append_right (by rw [hk, Nat.succ_mul]; omega), hk, show (i + 1) * k + j - k = i * k + j from by rw [Nat.succ_mul]; omega]
      exact ih hx
theorem rec_take (hk : ∀ x, (enc x).length = k) (L : List α) (i : Nat) : (L.flatMap enc).take (i * k) = (L.take i).flatMap enc := by
  rcases Nat.lt_or_ge i L.length with hi | hi
  · have h : L.flatMap enc = (L.take i).flatMap enc ++ (L.drop i).flatMap enc := by rw [← rec_append, List.take_append_drop]
    rw [h, List.take_left' (by rw [rec_len hk, List.length_take, Nat.min_eq_left (by omega)])]
  · rw [List.take_of_length_le (by rw [rec_len hk]; exact Nat.mul_le_mul_right _ hi), List.take_of_length_le hi]
theorem rec_drop (hk : ∀ x, (enc x).length = k) (L : List α) (i : Nat) : (L.flatMap enc).drop (i * k) = (L.drop i).flatMap enc := by
  rcases Nat.lt_or_ge i L.length with hi | hi
  · have h : L.flatMap enc = (L.take i).flatMap enc ++ (L.drop i).flatMap enc := by rw [← rec_append, List.take_append_drop]
    rw [h, List.drop_left' (by rw [rec_len hk, List.length_take, Nat.min_eq_left (by omega)])]
  · rw [List.drop_of_length_le (by rw [rec_len hk]; exact Nat.mul_le_mul_right _ hi), List.drop_of_length_le hi]; rfl
theorem rec_one (h1 : ∀ x, ∀ u ∈ enc x, u.oneCell' = true) (L : List α) : ∀ u ∈ L.flatMap enc, u.oneCell' = true := by
  intro u hu
  obtain ⟨x, _, hu⟩ := List.mem_flatMap.1 hu
  exact h1 x u hu
theorem rec_set (hk : ∀ x, (enc x).length = k) {L : List α} {i : Nat} (hi : i < L.length) (x : α) : (L.set i x).flatMap enc = (L.flatMap enc).take (i * k) ++ enc x ++ (L.flatMap enc).drop ((i + 1) * k) := by
  rw [rec_take hk, rec_drop hk, List.set_eq_take_append_cons_drop, if_pos hi, rec_append, List.flatMap_cons, List.append_assoc]
end
/-- A new block, its number given. -/
theorem Rd.newAt (w : World) (cs : Array Value) (t : TypeId) (n size b : Nat) (fz : Nat × Nat) (h : cs.size = n * size) (hb : b = w.heap.size) : Rd (w.alloc (.cells cs t fz)) size (some ⟨b, 0, none⟩) n cs.toList := by
  subst hb
  exact Rd.new w cs t n fz h
section
variable {w : World} {base : Nat} {e : TypeId} {size : Nat} {g n cap : Nat} {xs : List Value}
/-- A cell of an own row is written. -/
theorem own_setCell (ho : w.ownsRow base e size (.slice (some ⟨g, 0, none⟩) n cap) n xs) (j : Nat) (u : Value) :
    (w.setCell ⟨g, j, none⟩ u).ownsRow base e size (.slice (some ⟨g, 0, none⟩) n cap) n (xs.set j u) := by
  refine ⟨by rw [List.length_set]; exact ho.1, .inr ?_⟩
  rcases ho.2 with ⟨h, _⟩ | ⟨g', cap', cur, hv, hb, hh, hn, hm, hc, ht⟩
  · cases h
  · injection hv with h1 _ h3
    injection h1 with h1
    injection h1 with h1
    subst h1; subst h3
    have h2 := heap_setCell_same w g j _ _ u hh
    refine ⟨g, cap, _, rfl, hb, h2, hn, hm, by simpa using hc, ?_⟩
    rw [← ht]
    simp only [Array.toList_setIfInBounds, List.take_set]
end
end Go.Proofs.Ytblljpdlmllceaa
/-
  A sorted row of records, out of the library's contract of slices.SortFunc.
-/
namespace Go.Proofs.Ytblljpdlmllceaa
open Go.RowKit Go.Sort
section
variable {α : Type} [Inhabited α] {enc : α → List Value} {k : Nat}
theorem get_bang {α : Type} [Inhabited α] (L : List α) {i : Nat} {x : α} (h : L[i]? = some x) : L.toArray[i]! = x := by
  have hi := (List.getElem?_eq_some_iff.1 h).1
  simp [hi] at h ⊢
  exact h
theorem flatK_list (hk : ∀ x, (enc x).length = k) (L : List α) : (flatK enc k L.toArray).toList = L.flatMap enc := by
  apply List.ext_getElem?
  intro t
  by_cases ht : t < L.length * k
  · have h0 : 0 < k := by
      rcases Nat.eq_zero_or_pos k with h | h
      · subst h; simp at ht
      · exact h
    have hi : t / k < L.length := (Nat.div_lt_iff_lt_mul h0).2 ht
    have hm : t % k < k := Nat.mod_lt _ h0
    have e := rec_at hk (L := L) (i := t / k) (List.getElem?_eq_getElem hi) (t % k) hm
    rw [show t / k * k + t % k = t from by rw [Nat.mul_comm]; exact Nat.div_add_mod t k] at e
    rw [e, Array.getElem?_toList, Array.getElem?_eq_getElem (by simpa using ht)]
    simp [flatK, hi]
    rw [List.getElem?_eq_getElem (by rw [hk]; exact hm)]; rfl
  · rw [List.getElem?_eq_none (by simpa using ht), List.getElem?_eq_none (by rw [rec_len hk]; omega)]
theorem holdsK_own {w : World} {base g n cap : Nat} {e : TypeId} (hk : ∀ x, (enc x).length = k) {L : List α} (ho : w.ownsRow base e k (.slice (some ⟨g, 0, none⟩) n cap) n (L.flatMap enc)) : HoldsK enc k w g 0 L.toArray := by
  intro j hj
  rw [size_flatK] at hj
  have hfl := flatK_list hk L
  have hget : (L.flatMap enc)[j]? = some ((flatK enc k L.toArray)[j]!) := by
    rw [← hfl, Array.getElem?_toList, Array.getElem?_eq_getElem (by simpa using hj), getElem!_pos _ j (by simpa using hj)]
  rcases ho.2 with ⟨h, _⟩ | ⟨g', cap', cur, hv, hb, hh, hn, hm, hc, ht⟩
  · cases h
  · injection hv with h1 _ h3
    injection h1 with h1
    injection h1 with h1
    subst h1
    rw [Nat.zero_add]
    refine ⟨?_, frozen_of_row _ _ j _ _ hh⟩
    rw [cell_of_row _ _ j _ _ _ hh]
    rw [← ht, List.getElem?_take] at hget
    split at hget
    · rw [← Array.getElem?_toList]; exact hget
    · cases hget
/-- What the sort leaves. -/
theorem sort_own {w w' : World} {base g cap : Nat} {e : TypeId} (hk : ∀ x, (enc x).length = k) {lt : α → α → Bool} {L : List α} (ho : w.ownsRow base e k (.slice (some ⟨g, 0, none⟩) L.length cap) L.length (L.flatMap enc))
    (h : ∃ d' n os, PermIn 0 L.toArray.size L.toArray d' ∧ SortedIn lt 0 L.toArray.size d' ∧ w' = sortWorldK enc k w g 0 n d' os) :
    ∃ L' : List α, L'.length = L.length ∧ L'.Perm L ∧ (∀ (i j : Nat) (x y : α), i < j → L'[i]? = some x → L'[j]? = some y → lt y x = false) ∧ w'.ownsRow base e k (.slice (some ⟨g, 0, none⟩) L.length cap) L.length (L'.flatMap enc) ∧ Below base w w' := by
  obtain ⟨d', n, os, ⟨hsz, _, hp⟩, hs, rfl⟩ := h
  have hsz' : d'.toList.length = L.length := by simpa using hsz
  have hperm : d'.toList.Perm L := by
    simp only [List.size_toArray] at hsz hp
    have e1 : d'.extract 0 L.length = d' := by rw [← hsz]; simp
    have e2 : L.toArray.extract 0 L.length = L.toArray := by simp
    rw [e1, e2] at hp
    simpa using hp
  rcases ho.2 with ⟨hx, _⟩ | ⟨g', cap', cur, hv, hb, hh, hn, hm, hc, ht⟩
  · cases hx
  · injection hv with h1 _ h3
    injection h1 with h1
    injection h1 with h1
    subst h1; subst h3
    have hlt : g < w.heap.size := by
      rcases Nat.lt_or_ge g w.heap.size with hlt | hge
      · exact hlt
      · rw [Array.getElem?_eq_none hge] at hh; cases hh
    have hpd : (flatK enc k d').toList = d'.toList.flatMap enc := by
      have := flatK_list hk d'.toList
      simpa using this
    have hnew : (sortWorldK enc k w g 0 n d' os).heap[g]? = some (.cells (putCells id 0 (flatK enc k d') cur) e (0, 0)) := by
      unfold sortWorldK putRowK putRow
      rw [heap_grow_old _ _ (by simpa [mapBlock] using hlt)]
      simp only [mapBlock, Array.getElem?_modify, if_true]
      show Option.map _ w.heap[g]? = _
      rw [hh]; rfl
    refine ⟨d'.toList, hsz', hperm, fun i j x y hij hx hy => ?_, ⟨by rw [rec_len hk, hsz'], .inr ⟨g, cap, _, rfl, hb, hnew, hn, hm, by simpa [putCells] using hc, ?_⟩⟩, ?_⟩
    · have hj := (List.getElem?_eq_some_iff.1 hy).1
      have := hs i j (Nat.zero_le _) hij (by simp; omega)
      have ex : d'[i]! = x := by have := get_bang d'.toList hx; simpa using this
      have ey : d'[j]! = y := by have := get_bang d'.toList hy; simpa using this
      rw [ex, ey] at this
      exact this
    · rw [← hpd]
      have hfs : (flatK enc k d').size = L.length * k := by
        rw [size_flatK]; congr 1
      have hle : L.length * k ≤ cur.size := by rw [hc]; exact Nat.mul_le_mul_right _ hn
      apply List.ext_getElem?
      intro t
      rw [List.getElem?_take]
      by_cases htl : t < L.length * k
      · rw [if_pos htl, Array.getElem?_toList, Array.getElem?_toList, Array.getElem?_eq_getElem (by simp [putCells]; omega), Array.getElem?_eq_getElem (by rw [hfs]; exact htl)]
        simp [putCells, hfs, htl]
      · rw [if_neg htl, Array.getElem?_toList, Array.getElem?_eq_none (by rw [hfs]; omega)]
    · unfold sortWorldK putRowK putRow
      refine ⟨rfl, rfl, rfl, by simp [grow, mapBlock], fun b hbk => ?_⟩
      rw [heap_grow_old _ _ (by simp [mapBlock]; exact Nat.lt_of_lt_of_le hbk (Nat.le_trans hb (Nat.le_of_lt hlt)))]
      simp only [mapBlock, Array.getElem?_modify]
      rw [if_neg (by omega)]; rfl
end
end Go.Proofs.Ytblljpdlmllceaa
/-
  The library's contract of slices.SortFunc, laid at sortSpans.
-/
namespace Go.Proofs.Ytblljpdlmllceaa
open Go.Shelf
def sortSpans_ren : Go.Shelf.Ren := ⟨fun | 6 => 52 | 15 => 63 | 14 => 62 | 28 => 76 | 29 => 77 | 20 => 68 | 21 => 69 | 22 => 70 | 23 => 71 | 24 => 72 | 25 => 73 | 26 => 74 | 27 => 75 | 46 => 80 | 47 => 81 | 48 => 82 | 49 => 83 | 50 => 84 | 57 => 85 | n => n, fun | 22 => 47 | 24 => 34 | 25 => 76 | 3 => 3 | 39 => 84 | 0 => 0 | 53 => 97 | 55 => 99 | 4 => 4 | 46 => 91 | 45 => 90 | 50 => 69 | 5 => 5 | 9 => 9 | 66 => 102 | 70 => 106 | 76 => 108 | 77 => 109 | n => n, fun | n => n⟩
theorem sortSpans : Go.Proofs.SlLaysF0.n6 Try.prog sortSpans_ren := {
  mixed := by kernel_rfl
  f6 := ⟨Try.f52.name, by decide, Try.func52.trans (congrArg some (by kernel_rfl))⟩
  f14 := ⟨Try.f62.name, by decide, Try.func62.trans (congrArg some (by kernel_rfl))⟩
  f15 := Try.func63.trans (congrArg some (by kernel_rfl))
  f20 := ⟨Try.f68.name, by decide, Try.func68.trans (congrArg some (by kernel_rfl))⟩
  f21 := ⟨Try.f69.name, by decide, Try.func69.trans (congrArg some (by kernel_rfl))⟩
  f22 := ⟨Try.f70.name, by decide, Try.func70.trans (congrArg some (by kernel_rfl))⟩
  f23 := ⟨Try.f71.name, by decide, Try.func71.trans (congrArg some (by kernel_rfl))⟩
  f24 := ⟨Try.f72.name, by decide, Try.func72.trans (congrArg some (by kernel_rfl))⟩
  f25 := ⟨Try.f73.name, by decide, Try.func73.trans (congrArg some (by kernel_rfl))⟩
  f26 := ⟨Try.f74.name, by decide, Try.func74.trans (congrArg some (by kernel_rfl))⟩
  f27 := ⟨Try.f75.name, by decide, Try.func75.trans (congrArg some (by kernel_rfl))⟩
  f28 := Try.func76.trans (congrArg some (by kernel_rfl))
  f29 := Try.func77.trans (congrArg some (by kernel_rfl))
  f46 := ⟨Try.f80.name, by decide, Try.func80.trans (congrArg some (by kernel_rfl))⟩
  f47 := Try.func81.trans (congrArg some (by kernel_rfl))
  f48 := Try.func82.trans (congrArg some (by kernel_rfl))
  f49 := ⟨Try.f83.name, by decide, Try.func83.trans (congrArg some (by kernel_rfl))⟩
  f50 := ⟨Try.f84.name, by decide, Try.func84.trans (congrArg some (by kernel_rfl))⟩
  f57 := ⟨Try.f85.name, by decide, Try.func85.trans (congrArg some (by kernel_rfl))⟩
  t0 := Try.underlying0
  a0 := Try.isAgg0
  z0 := Try.sizeOf0
  v0 := Try.zeroValue0
  t3 := Try.underlying3
  a3 := Try.isAgg3
  z3 := Try.sizeOf3
  v3 := Try.zeroValue3
  t4 := Try.underlying4
  a4 := Try.isAgg4
  z4 := Try.sizeOf4
  v4 := Try.zeroValue4
  t5 := Try.underlying5
  a5 := Try.isAgg5
  z5 := Try.sizeOf5
  v5 := Try.zeroValue5
  t9 := Try.underlying9
  a9 := Try.isAgg9
  z9 := Try.sizeOf9
  v9 := Try.zeroValue9
  t22 := Try.underlying47
  a22 := Try.isAgg47
  z22 := Try.sizeOf47
  v22 := Try.zeroValue47
  t25 := Try.underlying76
  a25 := Try.isAgg76
  z25 := Try.sizeOf76
  v25 := Try.zeroValue76
  t39 := Try.underlying84
  a39 := Try.isAgg84
  z39 := Try.sizeOf84
  v39 := Try.zeroValue84
  t45 := Try.underlying90
  a45 := Try.isAgg90
  z45 := Try.sizeOf90
  v45 := Try.zeroValue90
  t46 := Try.underlying91
  a46 := Try.isAgg91
  z46 := Try.sizeOf91
  v46 := Try.zeroValue91
  t50 := Try.underlying69
  a50 := Try.isAgg69
  z50 := Try.sizeOf69
  v50 := Try.zeroValue69
  t53 := Try.underlying97
  a53 := Try.isAgg97
  z53 := Try.sizeOf97
  v53 := Try.zeroValue97
  t55 := Try.underlying99
  a55 := Try.isAgg99
  z55 := Try.sizeOf99
  v55 := Try.zeroValue99
  t66 := Try.underlying102
  a66 := Try.isAgg102
  z66 := Try.sizeOf102
  v66 := Try.zeroValue102
  t70 := Try.underlying106
  a70 := Try.isAgg106
  z70 := Try.sizeOf106
  v70 := Try.zeroValue106
  t76 := Try.underlying108
  a76 := Try.isAgg108
  z76 := Try.sizeOf108
  v76 := Try.zeroValue108
  t77 := Try.underlying109
  a77 := Try.isAgg109
  z77 := Try.sizeOf109
  v77 := Try.zeroValue109 }
end Go.Proofs.Ytblljpdlmllceaa
/-
  Words for a row that is turned in place: append within the capacity, clear.
-/
namespace Go.Proofs.Ytblljpdlmllceaa
open Go.RowKit
section
variable {P : Program}
/-- append within the capacity, inside a region that draws its order. -/
theorem step_append_in {w : World} {ops : Array Oper} {o : Oper} {a : Act} {K : Act → World → Prop} {Q : Exit → Act → World → Prop} {E : Prop} (hgd : Region.wanted o (yielded ops a.tmps) = true) (s x : Operand) (t : TypeId)
    (ho : o.op = .call { callee := .builtin .append, args := #[s, x], argTypes := #[t, t] })
    (e : TypeId) (size bytes : Nat) (ET : ElemT P t e size bytes) (g n cap : Nat) (cur : Array Value) (hg : w.heap[g]? = some (.cells cur e (0, 0)))
    (hs : a.eval s = .slice (some ⟨g, 0, none⟩) n cap) (ad : Addr) (m c : Nat) (news : List Value) (hx : a.eval x = .slice (some ad) m c) (hr : Rd w size (some ad) m news) (h1 : ∀ u ∈ news, u.oneCell' = true)
    (hroom : n + m ≤ cap) (hcur : cur.size = cap * size)
    (h : K (a.put o.dst (.slice (some ⟨g, 0, none⟩) (n + m) cap)) (w.setRow g (cur.toList.take (n * size) ++ news ++ cur.toList.drop (n * size + news.length)).toArray)) :
    if Region.wanted o (yielded ops a.tmps) = true then Oper.wp P o a w K Q else E := by
  rw [if_pos hgd]
  obtain ⟨ht, i, z, hi, hz, hsize, hby, hzs, hsz⟩ := ET
  have hcells : ∀ j u, news[j]? = some u → w.cell? (ad.add j) = some u := by
    intro j u hu
    have hl : 0 < news.length := by have := (List.getElem?_eq_some_iff.1 hu).1; omega
    obtain ⟨b, o, he, hc⟩ := hr.2 hl
    injection he with he
    subst he
    rw [add_plain]
    exact hc j u hu
  have hle : (n + m) * size ≤ cap * size := Nat.mul_le_mul_right _ hroom
  have hfit : n * i.size + news.length ≤ cur.size := by rw [hsize, hr.1, hcur, ← Nat.add_mul]; exact hle
  have hrun := run_append_room (P := P) w t o.type e i ht hi g n cap cur hg ad m c news (by rw [hr.1, hsize]) hcells h1 hroom hfit
  rw [hsize] at hrun
  unfold Oper.wp execOp
  simp only [ho, resolve, invoke, builtin, Sem.run_bind, Sem.run_pure, Result.andThen_ok, List.map_toArray, List.map_cons, List.map_nil, hs, hx, hrun]
  exact h
/-- 'clear' of a piece of a row. -/
theorem run_clear_row (t e ty : TypeId) (z : Value) (size : Nat) (ht : P.underlying t = some (.slice e)) (hv : ∀ w, (zeroValue e).run P w = .ok z w) (hz : z.cells.size = size) (h1 : ∀ u ∈ z.cells, u.oneCell' = true) (hsz : 0 < size)
    (w : World) (g o n c : Nat) (cur : Array Value) (hn : 0 < n) (hg : w.heap[g]? = some (.cells cur e (0, 0))) (hfit : o + n * size ≤ cur.size) :
    (Builtin.clear_ #[t] ty #[.slice (some ⟨g, o, none⟩) n c]).run P w =
      .ok (.tuple #[]) (w.setRow g (cur.toList.take o ++ (Builtin.zeroCells z.cells n).toList ++ cur.toList.drop (o + (Builtin.zeroCells z.cells n).toList.length)).toArray) := by
  have hlen : (Builtin.zeroCells z.cells n).toList.length = n * size := by rw [Array.length_toList, size_zeroCells, hz]
  have hone : ∀ v ∈ (Builtin.zeroCells z.cells n).toList, v.oneCell' = true := by
    intro v hv'
    obtain ⟨k, hk, rfl⟩ := List.getElem_of_mem hv'
    have hk' : k < n * z.cells.size := by rw [hlen] at hk; rw [hz]; exact hk
    have hm : k % z.cells.size < z.cells.size := Nat.mod_lt _ (by omega)
    refine h1 _ ?_
    simp [Builtin.zeroCells, hm]
  have hst := run_storeCells_at P g o e (Builtin.zeroCells z.cells n).toList 0 cur w hg (by rw [hlen]; omega) hone
  simp only [Nat.add_zero] at hst
  obtain ⟨m, rfl⟩ : ∃ m, n = m + 1 := ⟨n - 1, by omega⟩
  simp [Builtin.clear_, run_underlying ht, hv, hst]
/-- Whole knowledge of an own row that is not nil. -/
theorem own_row {w : World} {base : Nat} {e : TypeId} {size n g cap : Nat} {xs : List Value} (h : w.ownsRow base e size (.slice (some ⟨g, 0, none⟩) n cap) n xs) :
    ∃ cur, base ≤ g ∧ w.heap[g]? = some (.cells cur e (0, 0)) ∧ n ≤ cap ∧ cap ≤ maxLen ∧ cur.size = cap * size ∧ cur.toList.take (n * size) = xs := by
  rcases h.2 with ⟨h0, _⟩ | ⟨g', cap', cur, hv, hb, hh, hn, hm, hc, ht⟩
  · cases h0
  · injection hv with h1 _ h3
    injection h1 with h1
    injection h1 with h1
    subst h1; subst h3
    exact ⟨cur, hb, hh, hn, hm, hc, ht⟩
end
end Go.Proofs.Ytblljpdlmllceaa
/-
  Spans in memory; what the short functions of the package span do.
-/
namespace Go.Proofs.Ytblljpdlmllceaa
open Go.RowKit Go.Sort
set_option linter.unusedVariables false
set_option linter.unusedSimpArgs false
/-- A span: from, to. -/
abbrev Spn := ByteArray × ByteArray
def encS (s : Spn) : List Value := [.string s.1, .string s.2]
def srow (L : List Spn) : List Value := L.flatMap encS
theorem encS_len (s : Spn) : (encS s).length = 2 := rfl
theorem encS_one (s : Spn) : ∀ u ∈ encS s, u.oneCell' = true := by
  intro u hu
  simp only [encS, List.mem_cons, List.not_mem_nil, or_false] at hu
  rcases hu with rfl | rfl <;> rfl
theorem srow_len (L : List Spn) : (srow L).length = L.length * 2 := rec_len encS_len L
theorem srow_one (L : List Spn) : ∀ u ∈ srow L, u.oneCell' = true := rec_one encS_one L
theorem srow_fst {L : List Spn} {i : Nat} {s : Spn} (h : L[i]? = some s) : (srow L)[i * 2]? = some (.string s.1) := by
  have := rec_at encS_len h 0 (by omega); simpa [srow, encS] using this
theorem srow_snd {L : List Spn} {i : Nat} {s : Spn} (h : L[i]? = some s) : (srow L)[i * 2 + 1]? = some (.string s.2) := by
  have := rec_at encS_len h 1 (by omega); simpa [srow, encS] using this
theorem spanT : ElemT Try.prog 47 34 2 32 := elem_mk (z := .agg #[.string ByteArray.empty, .string ByteArray.empty]) Try.underlying47 (by kernel_rfl) rfl (by decide)
/-- The cells of element i of a slice that reads as spans. -/
theorem Rd.span {w : World} {A : Option Addr} {n : Nat} {L : List Spn} (h : Rd w 2 A n (srow L)) {i : Nat} {s : Spn} (hi : L[i]? = some s) :
    ∃ b o, A = some ⟨b, o, none⟩ ∧ w.cell? ⟨b, o + i * 2, none⟩ = some (.string s.1) ∧ w.cell? ⟨b, o + i * 2 + 1, none⟩ = some (.string s.2) := by
  have hl := (List.getElem?_eq_some_iff.1 (srow_fst hi)).1
  obtain ⟨b, o, e, hc⟩ := h.2 (by omega)
  exact ⟨b, o, e, hc _ _ (srow_fst hi), hc _ _ (srow_snd hi)⟩
theorem own_base {w : World} {base base' : Nat} {e : TypeId} {size n : Nat} {v : Value} {xs : List Value} (h : w.ownsRow base e size v n xs) (hb : base' ≤ base) : w.ownsRow base' e size v n xs := by
  refine ⟨h.1, ?_⟩
  rcases h.2 with h0 | ⟨g, cap, cur, hv, hbb, hh, hr⟩
  · exact .inl h0
  · exact .inr ⟨g, cap, cur, hv, by omega, hh, hr⟩
theorem cell_alloc {w : World} {b o : Nat} {u : Value} (h : w.cell? ⟨b, o, none⟩ = some u) : ∀ ob, (w.alloc ob).cell? ⟨b, o, none⟩ = some u := fun ob => (World.cell?_alloc_lt w ob _ (cell_lt h)).trans h
theorem row_alloc {w : World} {g : Nat} {x : Obj} (h : w.heap[g]? = some x) (ob : Obj) : (w.alloc ob).heap[g]? = some x := by
  rw [Below.heap_alloc _ _ _ (by rcases Nat.lt_or_ge g w.heap.size with hlt | hge; exact hlt; rw [Array.getElem?_eq_none hge] at h; cases h)]; exact h
set_option maxHeartbeats 400000 in
theorem empty_any (a b : ByteArray) (w : World) : Calls Try.prog 40 #[.agg #[.string a, .string b]] w fun e w' => e = .returned (.bool (decide (b ≤ a))) ∧ w' = w.alloc (.cells #[.string a, .string b] 34) := by
  have h1 : (!(Op.bytesLess a.toList b.toList)) = decide (b ≤ a) := by rw [bl]; by_cases h : a < b <;> simp [h] <;> grind
  have H1 := Lib.hid h1
  clear h1
  go_enter Try.func40, Try.ntmps40
  go_wp2
  go_ret
  exact ⟨by rw [H1.out]; rfl, rfl⟩
set_option maxHeartbeats 400000 in
theorem has_yes (a b k : ByteArray) (w : World) (h : a ≤ k ∧ k < b) : Calls Try.prog 41 #[.agg #[.string a, .string b], .string k] w fun e w' => e = .returned (.bool true) ∧ w' = w.alloc (.cells #[.string a, .string b] 34) := by
  have h1 : Op.bytesLess k.toList a.toList = false := by rw [bl]; have := h.1; simp; grind
  have h2 : Op.bytesLess k.toList b.toList = true := by rw [bl]; have := h.2; simpa
  clear h
  go_enter Try.func41, Try.ntmps41
  go_wp2
  go_ret
  exact ⟨rfl, rfl⟩
set_option maxHeartbeats 400000 in
theorem has_no (a b k : ByteArray) (w : World) (h : ¬ (a ≤ k ∧ k < b)) : Calls Try.prog 41 #[.agg #[.string a, .string b], .string k] w fun e w' => e = .returned (.bool false) ∧ w' = w.alloc (.cells #[.string a, .string b] 34) := by
  by_cases hk : k < a
  · have h1 : Op.bytesLess k.toList a.toList = true := by rw [bl]; simpa
    clear h
    go_enter Try.func41, Try.ntmps41
    go_wp2
    go_ret
    exact ⟨rfl, rfl⟩
  · have h1 : Op.bytesLess k.toList a.toList = false := by rw [bl]; simp; grind
    have h2 : Op.bytesLess k.toList b.toList = false := by rw [bl]; simp; grind
    clear h hk
    go_enter Try.func41, Try.ntmps41
    go_wp2
    go_ret
    exact ⟨rfl, rfl⟩
theorem has_any (s : Spn) (k : ByteArray) (w : World) : Calls Try.prog 41 #[.agg #[.string s.1, .string s.2], .string k] w fun e w' => (∃ c, e = .returned (.bool c) ∧ (c = true ↔ InS s k)) ∧ w' = w.alloc (.cells #[.string s.1, .string s.2] 34) := by
  by_cases h : s.1 ≤ k ∧ k < s.2
  · exact (has_yes s.1 s.2 k w h).mono fun e w' ⟨he, hw⟩ => ⟨⟨true, he, by simp [InS, h]⟩, hw⟩
  · exact (has_no s.1 s.2 k w h).mono fun e w' ⟨he, hw⟩ => ⟨⟨false, he, by simp [InS]; simpa using h⟩, hw⟩
set_option maxHeartbeats 400000 in
theorem order_any (x y : Spn) (W : World) : Calls Try.prog 53 #[.agg #[.string x.1, .string x.2], .agg #[.string y.1, .string y.2]] W fun e w' => e = .returned (.int .i64 (cmpS x.1 y.1)) ∧ ∃ q os', w' = grow (W.drewN q) os' := by
  have hcon := fun W' => compare_any x.1 y.1 W'
  generalize cmpS x.1 y.1 = r at hcon ⊢
  go_enter Try.func53, Try.ntmps53
  go_wp2_with (go_at_call 54; refine (hcon _).mono ?_; rintro e w' ⟨rfl, rfl⟩)
  go_ret
  exact ⟨rfl, 0, _, by rw [alloc_eq_grow, alloc_eq_grow, grow_grow]; rfl⟩
theorem order_lays (blk off size : Nat) (w : World) : CmpLays Try.prog 53 #[] encS 2 (fun x y => cmpS x.1 y.1) blk off size w :=
  fun _ _ _ _ x y => order_any x y _
theorem order_lt (x y : Spn) : ltOf (fun x y : Spn => cmpS x.1 y.1) x y = decide (x.1 < y.1) := cmpS_neg x.1 y.1
theorem order_swo : SWO (ltOf fun x y : Spn => cmpS x.1 y.1) :=
  ⟨fun x => by rw [order_lt]; simp; grind, fun x y z h1 h2 => by rw [order_lt] at *; simp at *; grind, fun x y z h1 h2 => by rw [order_lt] at *; simp at *; grind⟩
/-- slices.SortFunc of spans of an own row. -/
theorem sort_any {w : World} {base g cap : Nat} {L : List Spn} (ho : w.ownsRow base 34 2 (.slice (some ⟨g, 0, none⟩) L.length cap) L.length (srow L)) (hn : L.length < 4611686018427387904) :
    Calls Try.prog 52 #[.slice (some ⟨g, 0, none⟩) L.length cap, .func (.func 53) #[] #[]] w fun e w' => e = .returned (.tuple #[]) ∧
      ∃ L' : List Spn, L'.length = L.length ∧ L'.Perm L ∧ (∀ (i j : Nat) (x y : Spn), i < j → L'[i]? = some x → L'[j]? = some y → x.1 ≤ y.1) ∧ w'.ownsRow base 34 2 (.slice (some ⟨g, 0, none⟩) L.length cap) L.length (srow L') ∧ Below base w w' := by
  have eg : ∀ args w, (callFunc 53 args).run Try.prog w = .ok (.enter 53 args) w := enters_of Try.func53 (by kernel_rfl) rfl
  have hlt : g < w.heap.size := (ho.lt g rfl).2
  have hcon := AnyQ.slices_SortFunc sortSpans 2 Try.isAgg34 Try.sizeOf34 encS encS_len encS_one (fun x y => cmpS x.1 y.1) order_swo 53 #[] g 0 cap L.toArray w eg (order_lays g 0 L.toArray.size w) (holdsK_own encS_len ho) hlt (by simpa using hn)
  change Calls Try.prog 52 #[.slice (some ⟨g, 0, none⟩) L.length cap, .func (.func 53) #[] #[]] w _ at hcon
  refine hcon.mono fun e w' ⟨he, h⟩ => ⟨he, ?_⟩
  obtain ⟨L', h1, h2, h3, h4, h5⟩ := sort_own encS_len (lt := ltOf fun x y : Spn => cmpS x.1 y.1) ho (by simpa using h)
  refine ⟨L', h1, h2, fun i j x y hij hx hy => ?_, h4, h5⟩
  have := h3 i j x y hij hx hy
  rw [order_lt] at this
  simp at this
  grind
end Go.Proofs.Ytblljpdlmllceaa
/-
  Library functions at spans: Clone, Clip, IndexFunc.
-/
namespace Go.Proofs.Ytblljpdlmllceaa
open Go.RowKit
set_option linter.unusedVariables false
set_option linter.unusedSimpArgs false
set_option maxHeartbeats 400000 in
theorem sclone_nil (c : Nat) (w : World) : Calls Try.prog 51 #[.slice none 0 c] w fun e w' => e = .returned (.slice none 0 0) ∧ w = w' := by
  have hq := fun W => eql_slice_nil_any Try.underlying47 W none 0 c 0 0
  go_enter Try.func51, Try.ntmps51
  go_wp2_with fail
  go_ret
  exact ⟨rfl, rfl⟩
set_option maxHeartbeats 400000 in
theorem sclone_some {w : World} {b o n : Nat} {L : List Spn} (hr : Rd w 2 (some ⟨b, o, none⟩) n (srow L)) (c : Nat) (hb : n * 32 ≤ 140737488355328) (hn : n ≤ maxLen) :
    Calls Try.prog 51 #[.slice (some ⟨b, o, none⟩) n c] w fun e w' =>
      (∃ v, e = .returned v ∧ w'.ownsRow w.heap.size 34 2 v n (srow L)) ∧ Below w.heap.size w w' := by
  have hq := fun W => eql_slice_nil_any Try.underlying47 W (some ⟨b, o, none⟩) n c 0 0
  have HR := hide_ hr
  have hown := hide_ (own_new w #[] 34 2 0 w.heap.size rfl (Nat.zero_le _) (Nat.le_refl _))
  clear hr
  go_enter Try.func51, Try.ntmps51
  go_wp2_with (at_builtin; go_loud (refine wpList_append_rd _ rfl (.tmp 5) (.tmp 6) 47 rfl w.heap.size 34 2 32 spanT _ 0 [] rfl hown.out _ n _ (srow L) rfl (HR.out.alloc _) (srow_one L) (by omega) (by omega) (by simp) (fun h => nomatch h) ?_; intro v2 w2 hown2 hg2 hat2; have hb2 := hide_ (own_grown ((Below.refl _ _).alloc (Nat.le_refl _) _) hown.out hg2 (by simp)); have HO2 := hide_ hown2; clear hown2 hg2 hat2))
  go_ret
  have h2 := HO2.out
  simp only [Nat.zero_add, List.nil_append] at h2
  exact ⟨⟨_, rfl, h2⟩, hb2.out⟩
theorem sclone_any {w : World} {A : Option Addr} {n c : Nat} {L : List Spn} (hr : Rd w 2 A n (srow L)) (hA : A = none → n = 0) (hb : n * 32 ≤ 140737488355328) (hn : n ≤ maxLen) :
    Calls Try.prog 51 #[.slice A n c] w fun e w' =>
      (∃ v, e = .returned v ∧ w'.ownsRow w.heap.size 34 2 v n (srow L)) ∧ Below w.heap.size w w' := by
  rcases A with _ | a
  · obtain rfl := hA rfl
    have hL : srow L = [] := List.eq_nil_of_length_eq_zero (by simpa using hr.1)
    refine (sclone_nil c w).mono fun e w' ⟨he, hw⟩ => ?_
    subst hw
    exact ⟨⟨_, he, by rw [hL]; exact World.ownsRow_nil _ _ _ _⟩, Below.refl _ _⟩
  · by_cases h0 : 0 < (srow L).length
    · obtain ⟨b, o, e, _⟩ := hr.2 h0
      injection e with e
      subst e
      exact sclone_some hr c hb hn
    · have hn0 : n = 0 := by have := hr.1; omega
      subst hn0
      have hL : srow L = [] := List.eq_nil_of_length_eq_zero (by omega)
      have hq := fun W => eql_slice_nil_any Try.underlying47 W (some a) 0 c 0 0
      have hown := hide_ (own_new w #[] 34 2 0 w.heap.size rfl (Nat.zero_le _) (Nat.le_refl _))
      rw [hL]
      clear hr hA hb hL
      go_enter Try.func51, Try.ntmps51
      go_wp2_with (at_builtin; go_loud (refine wpList_append_rd _ rfl (.tmp 5) (.tmp 6) 47 rfl w.heap.size 34 2 32 spanT _ 0 [] rfl hown.out _ 0 _ [] rfl (Rd.nil _ _ _) (fun u hu => by cases hu) (by omega) (by omega) (by simp) (fun h => nomatch h) ?_; intro v2 w2 hown2 hg2 hat2; have hb2 := hide_ (own_grown ((Below.refl _ _).alloc (Nat.le_refl _) _) hown.out hg2 (by simp)); have HO2 := hide_ hown2; clear hown2 hg2 hat2))
      go_ret
      have h2 := HO2.out
      simp only [Nat.zero_add, List.nil_append] at h2
      exact ⟨⟨_, rfl, h2⟩, hb2.out⟩
set_option maxHeartbeats 400000 in
theorem clip_any (A : Option Addr) (n c : Nat) (hnc : n ≤ c) (hA : A = none → n = 0) (w : World) : Calls Try.prog 55 #[.slice A n c] w fun e w' => e = .returned (.slice A n n) ∧ w = w' := by
  have q : (n : Int) ≤ (c : Int) := by omega
  rcases A with _ | ⟨b, o, s⟩
  · obtain rfl := hA rfl
    clear hA
    go_enter Try.func55, Try.ntmps55
    go_wp2_with fail
    go_ret
    exact ⟨rfl, rfl⟩
  · clear hA
    go_enter Try.func55, Try.ntmps55
    go_wp2_with fail
    go_ret
    exact ⟨rfl, rfl⟩
/-- The first empty one. -/
def FirstE (L : List Spn) (i : Int) : Prop := (i = -1 ∧ ∀ (j : Nat) s, L[j]? = some s → s.1 < s.2) ∨ ∃ k : Nat, i = k ∧ (∀ (j : Nat) s, j < k → L[j]? = some s → s.1 < s.2) ∧ ∃ s, L[k]? = some s ∧ s.2 ≤ s.1
set_option maxHeartbeats 800000 in
theorem index_any {w : World} {A : Option Addr} {n c : Nat} {L : List Spn} (hr : Rd w 2 A n (srow L)) (hl : L.length = n) (hn : n ≤ 4611686018427387904) :
    Calls Try.prog 61 #[.slice A n c, .func (.func 40) #[] #[]] w fun e w' => (∃ i, e = .returned (.int .i64 i) ∧ FirstE L i) ∧ Below w.heap.size w w' := by
  have HR := hide_ hr
  have HL := hide_ hl
  clear hr hl
  go_enter Try.func61, Try.ntmps61
  go_wp2_with fail
  go_loopw [5, 8] (fun _ s8 wr => ∃ k : Nat, k ≤ n ∧ s8 = .int .i64 k ∧ Hid (Below w.heap.size w wr) ∧ Hid (∀ (j : Nat) s, j < k → L[j]? = some s → s.1 < s.2)) (fun _ i _ => n - (intOf i).toNat)
  case atStart => exact ⟨0, Nat.zero_le _, rfl, Below.refl _ w, fun j s hj => absurd hj (Nat.not_lt_zero _)⟩
  case round =>
    obtain ⟨k, hk, rfl, HB, HF⟩ := hrel
    by_cases hlt : k < n
    · have q1 : (k : Int) < (n : Int) := by omega
      obtain ⟨s, hs⟩ : ∃ s, L[k]? = some s := ⟨_, List.getElem?_eq_getElem (by rw [HL.out]; exact hlt)⟩
      obtain ⟨b, o, rfl, c1, c2⟩ := (HR.out.below HB.out).span hs
      have HS := hide_ hs
      clear hs
      by_cases he : s.2 ≤ s.1
      · have HE := hide_ he
        have hem := fun W => empty_any s.1 s.2 W
        rw [decide_eq_true he] at hem
        clear he
        go_wp2_with (go_at_call 40; refine (hem _).mono ?_; rintro e w' ⟨rfl, rfl⟩)
        go_ret
        exact ⟨⟨_, rfl, .inr ⟨k, rfl, HF.out, s, HS.out, HE.out⟩⟩, HB.out.alloc HB.out.size _⟩
      · have HE := hide_ he
        have hem := fun W => empty_any s.1 s.2 W
        rw [decide_eq_false he] at hem
        clear he
        go_wp2_with (go_at_call 40; refine (hem _).mono ?_; rintro e w' ⟨rfl, rfl⟩)
        go_roundw
        case rel =>
          refine ⟨k + 1, by omega, by go_num, HB.out.alloc HB.out.size _, fun j t hj ht => ?_⟩
          by_cases hjk : j = k
          · subst hjk
            have h1 := HS.out
            rw [h1] at ht
            injection ht with ht
            subst ht
            have := HE.out
            grind
          · exact HF.out j t (by omega) ht
        case measure => simp [intOf]; omega
    · have hkn : k = n := by omega
      subst hkn
      go_wp2_with fail
      go_ret
      refine ⟨⟨_, rfl, .inl ⟨rfl, fun j s hs => HF.out j s ?_ hs⟩⟩, HB.out⟩
      have := (List.getElem?_eq_some_iff.1 hs).1
      have := HL.out
      omega
end Go.Proofs.Ytblljpdlmllceaa
/-
  slices.DeleteFunc at spans.
-/
namespace Go.Proofs.Ytblljpdlmllceaa
open Go.RowKit
set_option linter.unusedVariables false
set_option linter.unusedSimpArgs false
/-- A row behind 'clear' of what lies from i on. -/
theorem own_clear {w : World} {base : Nat} {e : TypeId} {size g n cap : Nat} {xs : List Value} {cur : Array Value} (ho : w.ownsRow base e size (.slice (some ⟨g, 0, none⟩) n cap) n xs) (hg : w.heap[g]? = some (.cells cur e (0, 0)))
    {i : Nat} (hi : i ≤ n) {Z : List Value} (hZ : Z.length = (n - i) * size) :
    (w.setRow g (cur.toList.take (i * size) ++ Z ++ cur.toList.drop (i * size + Z.length)).toArray).ownsRow base e size (.slice (some ⟨g, 0, none⟩) i cap) i (xs.take (i * size)) ∧
      Below base w (w.setRow g (cur.toList.take (i * size) ++ Z ++ cur.toList.drop (i * size + Z.length)).toArray) := by
  obtain ⟨cur', hb, hg', hnc, hcm, hcs, htk⟩ := own_row ho
  rw [hg] at hg'
  injection hg' with hg'
  injection hg' with hg'
  subst hg'
  have hle : i * size ≤ n * size := Nat.mul_le_mul_right _ hi
  have hle2 : n * size ≤ cap * size := Nat.mul_le_mul_right _ hnc
  have hic : i ≤ cap := Nat.le_trans hi hnc
  have hsum : i * size + (n - i) * size = n * size := by rw [← Nat.add_mul]; congr 1; omega
  refine ⟨⟨by rw [List.length_take, ho.1]; exact Nat.min_eq_left hle, .inr ⟨g, cap, _, rfl, hb, setRow_heap _ _ _ _ _ _ hg, by omega, hcm, ?_, ?_⟩⟩, below_setRow (Below.refl _ _) hb _⟩
  · simp only [List.size_toArray, List.length_append, List.length_take, List.length_drop, Array.length_toList, hcs, hZ]
    omega
  · rw [← htk, List.take_take, Nat.min_eq_left hle]
    show List.take _ (cur.toList.take (i * size) ++ Z ++ cur.toList.drop (i * size + Z.length)) = _
    rw [List.append_assoc, List.take_append_of_le_length (by rw [List.length_take, Array.length_toList, hcs]; omega), List.take_take, Nat.min_self]
/-- It holds a key. -/
def ne_ (s : Spn) : Bool := decide (s.1 < s.2)
theorem first_filter {L : List Spn} {k : Nat} (h : ∀ (j : Nat) s, j < k → L[j]? = some s → s.1 < s.2) : (L.take k).filter ne_ = L.take k := by
  apply List.filter_eq_self.2
  intro s hs
  obtain ⟨j, hj⟩ := List.getElem?_of_mem hs
  rw [List.getElem?_take] at hj
  split at hj
  · rename_i hjk
    simp [ne_, h j s hjk hj]
  · cases hj
theorem take_next {L : List Spn} {j : Nat} {s : Spn} (hs : L[j]? = some s) : L.take (j + 1) = L.take j ++ [s] := by
  rw [List.take_add_one, hs]; rfl
theorem span_set {L : List Spn} {i : Nat} (hi : i < L.length) (s : Spn) : srow (L.set i s) = ((srow L).set (i * 2) (.string s.1)).set (i * 2 + 1) (.string s.2) := by
  unfold srow
  rw [rec_set encS_len hi]
  have hl := srow_len L
  unfold srow at hl
  generalize L.flatMap encS = R at hl
  apply List.ext_getElem?
  intro t
  have e1 : (R.take (i * 2)).length = i * 2 := by rw [List.length_take]; omega
  rw [List.getElem?_set, List.getElem?_set]
  simp only [encS, List.append_assoc]
  by_cases h1 : t < i * 2
  · rw [List.getElem?_append_left (by omega), List.getElem?_take, if_pos h1, if_neg (by omega), if_neg (by omega)]
  · rw [List.getElem?_append_right (by omega), e1]
    by_cases h2 : t = i * 2
    · subst h2
      rw [if_neg (by omega), if_pos rfl, if_pos (by omega), Nat.sub_self]; rfl
    · by_cases h3 : t = i * 2 + 1
      · subst h3
        rw [if_pos rfl, List.length_set, if_pos (by omega), show i * 2 + 1 - i * 2 = 1 from by omega]; rfl
      · rw [if_neg (by omega), if_neg (by omega), List.getElem?_append_right (by simp; omega), List.getElem?_drop]
        congr 1
        simp only [List.length_cons, List.length_nil]
        omega
set_option maxHeartbeats 1000000 in
theorem delete_any {w : World} {B g n cap : Nat} {L : List Spn} (ho : w.ownsRow B 34 2 (.slice (some ⟨g, 0, none⟩) n cap) n (srow L)) (hl : L.length = n) (hn : n ≤ 4398046511104) (hBw : B ≤ w.heap.size) :
    Calls Try.prog 50 #[.slice (some ⟨g, 0, none⟩) n cap, .func (.func 40) #[] #[]] w fun e w' =>
      (∃ m, e = .returned (.slice (some ⟨g, 0, none⟩) m cap) ∧ (L.filter ne_).length = m ∧ w'.ownsRow B 34 2 (.slice (some ⟨g, 0, none⟩) m cap) m (srow (L.filter ne_))) ∧ Below B w w' := by
  have hidx := hide_ (index_any (c := cap) (Rd.of_own ho) hl (by omega))
  have HO := hide_ ho
  have HL := hide_ hl
  have hgB := hide_ (ho.lt g rfl).1
  have hnc := hide_ (own_cap ho)
  have hcm := hide_ (own_row ho).choose_spec.2.2.2.1
  clear ho hl
  go_enter Try.func50, Try.ntmps50
  go_wp2_with fail
  refine (hidx.out).mono ?_; rintro e w1 ⟨⟨i, rfl, hi⟩, hb1⟩
  have HO1 := hide_ (own_below HO.out hb1)
  have HB1 := hide_ (hb1.mono hBw)
  clear hb1
  rcases hi with ⟨rfl, ha⟩ | ⟨k, rfl, ha, s0, hs0, he0⟩
  · have HA := hide_ (show L.filter ne_ = L from List.filter_eq_self.2 fun s hs => by obtain ⟨j, hj⟩ := List.getElem?_of_mem hs; simp [ne_, ha j s hj])
    clear ha
    go_wp2_with fail
    go_ret
    exact ⟨⟨n, rfl, by rw [HA.out, HL.out], by rw [HA.out]; exact HO1.out⟩, HB1.out⟩
  · have hkn : k < n := by have := (List.getElem?_eq_some_iff.1 hs0).1; have := HL.out; omega
    have hst : L.take k = (L.take (k + 1)).filter ne_ := by
      rw [take_next hs0, List.filter_append, first_filter ha]
      have : ne_ s0 = false := by simp [ne_]; grind
      simp [this]
    have HST := hide_ hst
    have q1 : ((k : Int) == -1) = false := by rw [beq_eq_false_iff_ne]; omega
    have q2 : (k : Int) ≤ 4398046511104 := by omega
    have q3 : (0 : Int) ≤ (k : Int) := by omega
    clear ha hs0 he0 hst
    go_wp2_with fail
    go_loopw [5, 6, 7] (fun s5 s6 _ wr => ∃ (i j : Nat) (M : List Spn), i < j ∧ j ≤ n ∧ s5 = .int .i64 i ∧ s6 = .int .i64 j ∧ Hid (M.length = n ∧ M.take i = (L.take j).filter ne_ ∧ M.drop j = L.drop j) ∧ Hid (wr.ownsRow B 34 2 (.slice (some ⟨g, 0, none⟩) n cap) n (srow M)) ∧ Hid (Below B w wr)) (fun _ j _ _ => n - (intOf j).toNat)
    case atStart => exact ⟨k, k + 1, L, by omega, by omega, rfl, by go_num, ⟨HL.out, HST.out, rfl⟩, HO1.out, HB1.out⟩
    case round =>
      obtain ⟨i, j, M, hij, hj, rfl, rfl, HM, HOr, HBr⟩ := hrel
      have i1 : (0 : Int) ≤ (i : Int) := by omega
      have i2 : (i : Int) ≤ 4398046511104 := by omega
      have j1 : (0 : Int) ≤ (j : Int) := by omega
      have j2 : (j : Int) ≤ 4398046511104 := by omega
      by_cases hlt : j < n
      · have q4 : (j : Int) < (n : Int) := by omega
        obtain ⟨s, hs⟩ : ∃ s, L[j]? = some s := ⟨_, List.getElem?_eq_getElem (by rw [HL.out]; exact hlt)⟩
        have hms : M[j]? = some s := by
          have := congrArg (fun l => l[0]?) HM.out.2.2
          simpa [hs] using this
        obtain ⟨b, o, hbo, c1, c2⟩ := (Rd.of_own HOr.out).span hms
        injection hbo with hbo
        injection hbo with hb1 hb2
        subst hb1; subst hb2
        simp only [Nat.zero_add] at c1 c2
        have l1 := cell_alloc c1
        have l2 := cell_alloc c2
        have HS := hide_ hs
        have HTN := hide_ (take_next hs)
        clear hs hms
        by_cases he : s.2 ≤ s.1
        · have hem := fun W => empty_any s.1 s.2 W
          rw [decide_eq_true he] at hem
          have HNE := hide_ (show ne_ s = false by simp [ne_]; grind)
          clear he
          go_wp2_with (go_at_call 40; refine (hem _).mono ?_; rintro e w' ⟨rfl, rfl⟩)
          go_roundw
          case rel =>
            refine ⟨i, j + 1, M, by omega, by omega, rfl, by go_num, ⟨HM.out.1, ?_, ?_⟩, ?_, ?_⟩
            · rw [HM.out.2.1, HTN.out, List.filter_append]; simp [HNE.out]
            · have := congrArg (List.drop 1) HM.out.2.2
              simpa [List.drop_drop] using this
            · exact (HOr.out.alloc _).alloc _
            · exact (HBr.out.alloc (Nat.le_trans hBw HBr.out.size) _).alloc (by have := HBr.out.size; simp; omega) _
          case measure => simp [intOf]; omega
        · have hem := fun W => empty_any s.1 s.2 W
          rw [decide_eq_false he] at hem
          have HNE := hide_ (show ne_ s = true by simp [ne_]; grind)
          clear he
          obtain ⟨t, ht⟩ : ∃ t, M[i]? = some t := ⟨_, List.getElem?_eq_getElem (by rw [HM.out.1]; omega)⟩
          obtain ⟨b, o, hbo, d1, d2⟩ := (Rd.of_own HOr.out).span ht
          injection hbo with hbo
          injection hbo with hb1 hb2
          subst hb1; subst hb2
          simp only [Nat.zero_add] at d1 d2
          obtain ⟨cur, _, hgc, _⟩ := own_row HOr.out
          have m1 := fun ob ob' => cell_alloc (cell_alloc d1 ob) ob'
          have m2 := fun ob ob' => cell_alloc (cell_alloc d2 ob) ob'
          have f1 := fun ob ob' => frozen_of_row _ _ (i * 2) _ _ (row_alloc (row_alloc hgc ob) ob')
          have f2 := fun ob ob' => frozen_of_row _ _ (i * 2 + 1) _ _ (row_alloc (row_alloc hgc ob) ob')
          have i3 : (i : Int) < (n : Int) := by omega
          have i4 : i < n := by omega
          clear d1 d2 ht hgc
          go_wp2_with (go_at_call 40; refine (hem _).mono ?_; rintro e w' ⟨rfl, rfl⟩)
          go_roundw
          case rel =>
            refine ⟨i + 1, j + 1, M.set i s, by omega, by omega, by go_num, by go_num, ⟨by rw [List.length_set]; exact HM.out.1, ?_, ?_⟩, ?_, ?_⟩
            · rw [HTN.out, List.filter_append, ← HM.out.2.1]
              have hs1 : (M.set i s)[i]? = some s := by rw [List.getElem?_set_self]; rw [HM.out.1]; exact i4
              rw [take_next hs1, List.take_set_of_le (Nat.le_refl i)]
              simp [HNE.out]
            · rw [List.drop_set_of_lt (by omega)]
              have := congrArg (List.drop 1) HM.out.2.2
              simpa [List.drop_drop] using this
            · rw [span_set (by rw [HM.out.1]; exact i4)]
              exact own_setCell (own_setCell ((HOr.out.alloc _).alloc _) _ _) _ _
            · have hsz := HBr.out.size
              exact (((HBr.out.alloc (Nat.le_trans hBw hsz) _).alloc (by simp; omega) _).setCell hgB.out _).setCell hgB.out _
          case measure => simp [intOf]; omega
      · have hjn : j = n := by omega
        obtain ⟨cur, hcB, hgc, _, hcc, hcs, _⟩ := own_row HOr.out
        have hncc := hnc.out
        have i5 : ¬ cap = i := by omega
        have i6 : (i : Int) ≤ (n : Int) := by omega
        have i7 : (n : Int) ≤ (cap : Int) := by omega
        have i8 : i ≤ n := by omega
        have i9 : i ≤ cap := by omega
        have i10 : (i : Int) ≤ (cap : Int) := by omega
        have hclr : ∀ ty, (Builtin.clear_ #[47] ty #[.slice (some ⟨g, i * 2, none⟩) (n - i) (cap - i)]).run Try.prog wr = .ok (.tuple #[]) (wr.setRow g _) := fun ty =>
          run_clear_row 47 34 ty (.agg #[.string ByteArray.empty, .string ByteArray.empty]) 2 Try.underlying47 (fun w => by kernel_rfl) rfl (by intro u hu; simp [Value.cells] at hu; rcases hu with rfl | rfl <;> rfl) (by omega) wr g (i * 2) (n - i) (cap - i) cur (by omega) hgc (by rw [hcs]; omega)
        have HOW := hide_ (own_clear HOr.out hgc i8 (Z := (Builtin.zeroCells (Value.agg #[.string ByteArray.empty, .string ByteArray.empty]).cells (n - i)).toList) (by rw [Array.length_toList, size_zeroCells]; rfl))
        have HTJ := hide_ hjn
        clear hjn hgc hcc hcs hncc
        go_wp2_with fail
        go_ret
        have hf : M.take i = L.filter ne_ := by rw [HM.out.2.1, HTJ.out, ← HL.out, List.take_length]
        have h1 := HOW.out
        have h2 : (srow M).take (i * 2) = srow (L.filter ne_) := by rw [← hf]; exact rec_take encS_len M i
        rw [h2] at h1
        simp only [List.append_assoc, Array.length_toList] at h1
        refine ⟨⟨i, rfl, ?_, h1.1⟩, HBr.out.trans h1.2⟩
        rw [← hf, List.length_take, HM.out.1]
        exact Nat.min_eq_left i8
end Go.Proofs.Ytblljpdlmllceaa
/-
  DeleteFunc and SortFunc at spans, nil let in.
-/
namespace Go.Proofs.Ytblljpdlmllceaa
open Go.RowKit
set_option linter.unusedVariables false
set_option linter.unusedSimpArgs false
theorem sown_cases {w : World} {base n size c : Nat} {e : TypeId} {A : Option Addr} {xs : List Value} (h : w.ownsRow base e size (.slice A n c) n xs) : (A = none ∧ n = 0 ∧ c = 0 ∧ xs = []) ∨ ∃ g, A = some ⟨g, 0, none⟩ := by
  rcases h.2 with ⟨hv, h0⟩ | ⟨g, cap, cur, hv, _⟩
  · injection hv with h1 h2 h3
    exact .inl ⟨h1, h2, h3, List.eq_nil_of_length_eq_zero (by rw [h.1, h0, Nat.zero_mul])⟩
  · injection hv with h1
    exact .inr ⟨g, h1⟩
theorem srow_nil {L : List Spn} (h : L.length = 0) : srow L = [] := by rw [List.eq_nil_of_length_eq_zero h]; rfl
set_option maxHeartbeats 400000 in
theorem delete_nil (w : World) : Calls Try.prog 50 #[.slice none 0 0, .func (.func 40) #[] #[]] w fun e w' => e = .returned (.slice none 0 0) ∧ Below w.heap.size w w' := by
  have hidx := hide_ (index_any (w := w) (A := none) (n := 0) (c := 0) (L := []) (Rd.nil _ _ _) rfl (by omega))
  go_enter Try.func50, Try.ntmps50
  go_wp2_with fail
  refine (hidx.out).mono ?_; rintro e w1 ⟨⟨i, rfl, hi⟩, hb1⟩
  rcases hi with ⟨rfl, _⟩ | ⟨k, rfl, _, s0, hs0, _⟩
  · have HB1 := hide_ hb1
    clear hb1
    go_wp2_with fail
    go_ret
    exact ⟨rfl, HB1.out⟩
  · simp at hs0
/-- DeleteFunc(.., Empty) of a slice of the call's own. -/
theorem sdelete_all {w : World} {B n c : Nat} {A : Option Addr} {L : List Spn} (ho : w.ownsRow B 34 2 (.slice A n c) n (srow L)) (hl : L.length = n) (hn : n ≤ 4398046511104) (hBw : B ≤ w.heap.size) :
    Calls Try.prog 50 #[.slice A n c, .func (.func 40) #[] #[]] w fun e w' =>
      (∃ (A' : Option Addr) (m c' : Nat) (M : List Spn), e = .returned (.slice A' m c') ∧ M = L.filter ne_ ∧ M.length = m ∧ w'.ownsRow B 34 2 (.slice A' m c') m (srow M)) ∧ Below B w w' := by
  rcases sown_cases ho with ⟨rfl, rfl, rfl, _⟩ | ⟨g, rfl⟩
  · obtain rfl : L = [] := List.eq_nil_of_length_eq_zero hl
    exact (delete_nil w).mono fun e w' ⟨he, hb⟩ => ⟨⟨none, 0, 0, [], he, rfl, rfl, World.ownsRow_nil _ _ _ _⟩, hb.mono hBw⟩
  · exact (delete_any ho hl hn hBw).mono fun e w' ⟨⟨m, he, hm, h⟩, hb⟩ => ⟨⟨_, m, c, _, he, rfl, hm, h⟩, hb⟩
/-- SortFunc of a slice of the call's own. -/
theorem sort_all {w : World} {B n c : Nat} {A : Option Addr} {L : List Spn} (ho : w.ownsRow B 34 2 (.slice A n c) n (srow L)) (hl : L.length = n) (hn : n ≤ 4398046511104) :
    Calls Try.prog 52 #[.slice A n c, .func (.func 53) #[] #[]] w fun e w' => e = .returned (.tuple #[]) ∧
      (∃ L' : List Spn, L'.length = n ∧ L'.Perm L ∧ (∀ (i j : Nat) (x y : Spn), i < j → L'[i]? = some x → L'[j]? = some y → x.1 ≤ y.1) ∧ w'.ownsRow B 34 2 (.slice A n c) n (srow L')) ∧ Below B w w' := by
  rcases sown_cases ho with ⟨rfl, rfl, rfl, _⟩ | ⟨g, rfl⟩
  · obtain rfl : L = [] := List.eq_nil_of_length_eq_zero hl
    have hcon := AnyF.slices_SortFunc_none sortSpans none 0 (.func (.func 53) #[] #[]) w
    change Calls Try.prog 52 _ w _ at hcon
    refine hcon.mono fun e w' ⟨he, hw⟩ => ?_
    subst hw
    exact ⟨he, ⟨[], rfl, List.Perm.refl _, fun i j x y _ hx => by simp at hx, ho⟩, Below.refl _ _⟩
  · subst hl
    exact (sort_any ho (by omega)).mono fun e w' ⟨he, L', h1, h2, h3, h4, h5⟩ => ⟨he, ⟨L', h1, h2, h3, h4⟩, h5⟩
/-- Sorted, and each holds a key. -/
theorem rising_of {L : List Spn} (h : ∀ (i j : Nat) (x y : Spn), i < j → L[i]? = some x → L[j]? = some y → x.1 ≤ y.1) (hn : ∀ x, x ∈ L → x.1 < x.2) : Rising L := by
  induction L with
  | nil => exact trivial
  | cons a L ih =>
    refine ⟨hn a (by simp), fun t ht => ?_, ih (fun i j x y hij hx hy => h (i + 1) (j + 1) x y (by omega) (by simpa using hx) (by simpa using hy)) fun x hx => hn x (by simp [hx])⟩
    obtain ⟨j, hj⟩ := List.getElem?_of_mem ht
    exact h 0 (j + 1) a t (by omega) rfl (by simpa using hj)
theorem inl_perm {L M : List Spn} (h : L.Perm M) (k : ByteArray) : InL L k ↔ InL M k := by
  unfold InL
  constructor
  · rintro ⟨s, hs, hk⟩; exact ⟨s, h.mem_iff.1 hs, hk⟩
  · rintro ⟨s, hs, hk⟩; exact ⟨s, h.mem_iff.2 hs, hk⟩
theorem inl_filter (L : List Spn) (k : ByteArray) : InL (L.filter ne_) k ↔ InL L k := by
  unfold InL
  constructor
  · rintro ⟨s, hs, hk⟩; exact ⟨s, (List.mem_filter.1 hs).1, hk⟩
  · rintro ⟨s, hs, hk⟩
    refine ⟨s, List.mem_filter.2 ⟨hs, ?_⟩, hk⟩
    have h1 := hk.1
    have h2 := hk.2
    simp [ne_]
    grind
end Go.Proofs.Ytblljpdlmllceaa
/-
  A region that draws its order, where calls make memory: an operation that yields one value in every world that has grown out of the world at hand may be taken first; a call is taken where nothing else may come up.
-/
namespace Go.Proofs.Ytblljpdlmllceaa
open Go.RowKit
/-- The worlds that have grown out of w: what stood stands. -/
def Later (w W : World) : Prop := Below w.heap.size w W
theorem Later.refl (w : World) : Later w w := Below.refl _ _
theorem Later.trans {a b c : World} (h : Later a b) (k : Later b c) : Later a c := Below.trans h (Below.mono k (Below.size h))
/-- Every world may come. -/
def Always (_ _ : World) : Prop := True
/-- A relation of worlds that stays, and adds up. -/
structure Steady (R : World → World → Prop) : Prop where
  refl : ∀ w, R w w
  trans : ∀ {a b c}, R a b → R b c → R a c
theorem Later.steady : Steady Later := ⟨Later.refl, Later.trans⟩
theorem Always.steady : Steady Always := ⟨fun _ => trivial, fun _ _ => trivial⟩
theorem later_cell {w : World} {b o : Nat} {u : Value} (h : w.cell? ⟨b, o, none⟩ = some u) : ∀ W, Later w W → W.cell? ⟨b, o, none⟩ = some u := fun _ hW => (hW.cell (cell_lt h)).trans h
theorem later_drew_cell {w : World} {b o : Nat} {u : Value} (h : w.cell? ⟨b, o, none⟩ = some u) : ∀ W, Later w.drew W → W.cell? ⟨b, o, none⟩ = some u := later_cell (w := w.drew) h
section
variable {P : Program} {ops : Array Oper} {Q : Exit → Act → World → Prop} {md : Region.Mode} {R : World → World → Prop}
/-- Whatever order is picked from here on, and each operation leaves what stood. -/
def wpAnyR (P : Program) (md : Region.Mode) (ops : Array Oper) (Q : Exit → Act → World → Prop) (R : World → World → Prop) : Nat → Array Bool → Act → World → Prop
  | 0, listed, a, w => Region.ready md ops listed = [] ∧ Q .normal a w
  | fuel + 1, listed, a, w =>
    (Region.ready md ops listed = [] → Q .normal a w) ∧
    ∀ i ∈ Region.ready md ops listed, wpOp P ops Q i (fun a' w' => R w w' ∧ wpAnyR P md ops Q R fuel (listed.setIfInBounds i true) a' w') a w
theorem wpAny_of_r : ∀ (fuel : Nat) (listed : Array Bool) (a : Act) (w : World), wpAnyR P md ops Q R fuel listed a w → wpAny P md ops Q fuel listed a w
  | 0, _, _, _, h => h
  | fuel + 1, _, _, _, h => ⟨h.1, fun i hi => wpOp_mono (fun a' w' h' => wpAny_of_r fuel _ a' w' h'.2) (h.2 i hi)⟩
theorem yieldsIf_later (hR : Steady R) {o : Oper} {v : Value} {a : Act} {w w' : World} (h : YieldsIf P ops (R w) o v a) (hl : R w w') : YieldsIf P ops (R w') o v a :=
  h.imp (fun ⟨hw, hv⟩ => ⟨hw, fun W hW => hv W (hR.trans hl hW)⟩) id
theorem wpAnyR_first (hR : Steady R) {i : Nat} {oi : Oper} {v : Value} (hi : ops[i]? = some oi) (hsel : ∀ (j : Nat) (o : Oper) cs b, ops[j]? = some o → o.op ≠ .select cs b)
    (hQ : ∀ c a w, Q (.panic c) (a.put oi.dst v) w → Q (.panic c) a w) :
    ∀ (fuel : Nat) (listed : Array Bool) (a : Act) (w : World),
      (∀ j oj, ops[j]? = some oj → j ≠ i → listed.getD j true = false → (∀ e ∈ oj.after, Region.binds md e = true → e.on ≠ i) → oi.apart ops oj = true) →
      i ∈ Region.ready md ops listed → YieldsIf P ops (R w) oi v a →
      wpAnyR P md ops Q R fuel (listed.setIfInBounds i true) (a.put oi.dst v) w → wpAnyR P md ops Q R (fuel + 1) listed a w := by
  intro fuel
  induction fuel with
  | zero =>
    intro listed a w _ hr hy H
    refine ⟨fun h => (by rw [h] at hr; cases hr), fun j hj => ?_⟩
    by_cases hji : j = i
    · subst hji; exact hy.wpOp hi (hR.refl w) ⟨hR.refl w, H⟩
    · have := ready_mono hj hji
      rw [H.1] at this
      cases this
  | succ fuel ih =>
    intro listed a w hfree hr hy H
    refine ⟨fun h => (by rw [h] at hr; cases hr), fun j hj => ?_⟩
    by_cases hji : j = i
    · subst hji; exact hy.wpOp hi (hR.refl w) ⟨hR.refl w, H⟩
    · have h1 := H.2 j (ready_mono hj hji)
      obtain ⟨hjun, oj, hoj, hall⟩ := mem_ready.1 hj
      have hnot : ∀ e ∈ oj.after, Region.binds md e = true → e.on ≠ i := fun e he hb heq => by
        have h1 := hall e he hb
        have h0 := (mem_ready.1 hr).1
        rw [heq] at h1
        rcases Nat.lt_or_ge i listed.size with h' | h'
        · simp [h'] at h0 h1; rw [h0] at h1; cases h1
        · simp [Array.getElem?_eq_none h'] at h1
      have h2 := wpOp_putIf hoj (hfree j oj hoj hji hjun hnot) (fun cs b => hsel i oi cs b hi) (fun cs b => hsel j oj cs b hoj) hQ hy h1
      have hfree' : ∀ k ok, ops[k]? = some ok → k ≠ i → (listed.setIfInBounds j true).getD k true = false →
          (∀ e ∈ ok.after, Region.binds md e = true → e.on ≠ i) → oi.apart ops ok = true := fun k ok hk hki hun hno => by
        refine hfree k ok hk hki ?_ hno
        by_cases hjk : j = k
        · subst hjk; exact hjun
        · rw [getD_set_ne true hjk] at hun; exact hun
      refine wpOp_mono (fun a' w' h3 => ⟨h3.2.1, ih (listed.setIfInBounds j true) a' w' hfree' (ready_mono hr (Ne.symm hji)) (yieldsIf_later hR h3.1 h3.2.1) ?_⟩) h2
      rw [Array.setIfInBounds_comm _ _ hji]
      exact h3.2.2
theorem op_of_drop {i : Nat} {o : Oper} {rest : List Oper} (h : ops.toList.drop i = o :: rest) : ops[i]? = some o := by
  have e : (ops.toList.drop i)[0]? = some o := by rw [h]; rfl
  rw [List.getElem?_drop, Nat.add_zero] at e
  rw [← Array.getElem?_toList]; exact e
/-- Number i is taken first: it is wanted, and yields v in every later world. -/
theorem wpAnyR_take (hR : Steady R) (i : Nat) {oi : Oper} {rest : List Oper} {v : Value} {fuel : Nat} {listed : Array Bool} {a : Act} {w : World} (hi : ops.toList.drop i = oi :: rest)
    (hs : Region.noSelect ops = true) (hf : Region.free md ops listed i = true) (hr : (Region.ready md ops listed).contains i = true)
    (hQ : ∀ c a w, Q (.panic c) (a.put oi.dst v) w → Q (.panic c) a w) (hw : Region.wanted oi (yielded ops a.tmps) = true)
    (hy : ∀ W, R w W → (execOp a.eval oi).run P W = .ok (.value v) W)
    (h : wpAnyR P md ops Q R fuel (listed.setIfInBounds i true) (a.put oi.dst v) w) : wpAnyR P md ops Q R (fuel + 1) listed a w :=
  wpAnyR_first hR (op_of_drop hi) (Region.noSelect_spec hs) hQ fuel listed a w (Region.free_spec (op_of_drop hi) hf) (by simpa using hr) (.inl ⟨hw, hy⟩) h
/-- Number i is passed over: its guard says no. -/
theorem wpAnyR_skip (hR : Steady R) (i : Nat) {oi : Oper} {rest : List Oper} {fuel : Nat} {listed : Array Bool} {a : Act} {w : World} (hi : ops.toList.drop i = oi :: rest)
    (hs : Region.noSelect ops = true) (hf : Region.free md ops listed i = true) (hr : (Region.ready md ops listed).contains i = true)
    (hQ : ∀ c a w, Q (.panic c) (a.put oi.dst undef) w → Q (.panic c) a w) (hw : Region.wanted oi (yielded ops a.tmps) = false)
    (h : wpAnyR P md ops Q R fuel (listed.setIfInBounds i true) (a.put oi.dst undef) w) : wpAnyR P md ops Q R (fuel + 1) listed a w :=
  wpAnyR_first hR (op_of_drop hi) (Region.noSelect_spec hs) hQ fuel listed a w (Region.free_spec (op_of_drop hi) hf) (by simpa using hr) (.inr ⟨hw, rfl⟩) h
/-- Number i alone may come up. -/
theorem wpAnyR_one (i : Nat) {o : Oper} {rest : List Oper} {fuel : Nat} {listed : Array Bool} {a : Act} {w : World} (hr : Region.ready md ops listed = [i]) (ho : ops.toList.drop i = o :: rest)
    (h : ∀ K : Act → World → Prop, Shut (∀ a' w', R w w' → wpAnyR P md ops Q R fuel (listed.setIfInBounds i true) a' w' → K a' w') → if Region.wanted o (yielded ops a.tmps) = true then Oper.wp P o a w K Q else K (a.put o.dst undef) w) :
    wpAnyR P md ops Q R (fuel + 1) listed a w := by
  refine ⟨fun h0 => (by rw [hr] at h0; cases h0), fun j hj => ?_⟩
  rw [hr] at hj
  obtain rfl : j = i := by simpa using hj
  exact wpOp_step (op_of_drop ho) fun K hK => h K fun a' w' hl hW => hK a' w' ⟨hl, hW⟩
theorem wpAnyR_done {listed : Array Bool} {a : Act} {w : World} (hr : Region.ready md ops listed = []) (h : Q .normal a w) :
    ∀ fuel, wpAnyR P md ops Q R fuel listed a w
  | 0 => ⟨hr, h⟩
  | _ + 1 => ⟨fun _ => h, by rw [hr]; simp⟩
/-- The beginning. -/
theorem wp_region_r {id : Nat} {a : Act} {w : World} (hm : P.follows .mixedOrders = true)
    (h : wpAnyR P .any ops Q R ops.size (Array.replicate ops.size false) a w.drew) : (Code.region id ops true).wp P Q a w :=
  wp_region_any hm (wpAny_of_r _ _ _ _ h)
end

/-! The two relations that are used: nothing that stood turns; whatever. -/
section
variable {P : Program} {ops : Array Oper} {Q : Exit → Act → World → Prop} {md : Region.Mode}
abbrev wpAnyK (P : Program) (md : Region.Mode) (ops : Array Oper) (Q : Exit → Act → World → Prop) := wpAnyR P md ops Q Later
abbrev wpAnyT (P : Program) (md : Region.Mode) (ops : Array Oper) (Q : Exit → Act → World → Prop) := wpAnyR P md ops Q Always
theorem wpAnyK_take (i : Nat) {oi : Oper} {rest : List Oper} {v : Value} {fuel : Nat} {listed : Array Bool} {a : Act} {w : World} (hi : ops.toList.drop i = oi :: rest)
    (hs : Region.noSelect ops = true) (hf : Region.free md ops listed i = true) (hr : (Region.ready md ops listed).contains i = true)
    (hQ : ∀ c a w, Q (.panic c) (a.put oi.dst v) w → Q (.panic c) a w) (hw : Region.wanted oi (yielded ops a.tmps) = true)
    (hy : ∀ W, Later w W → (execOp a.eval oi).run P W = .ok (.value v) W)
    (h : wpAnyR P md ops Q Later fuel (listed.setIfInBounds i true) (a.put oi.dst v) w) : wpAnyR P md ops Q Later (fuel + 1) listed a w := wpAnyR_take Later.steady i hi hs hf hr hQ hw hy h
theorem wpAnyK_skip (i : Nat) {oi : Oper} {rest : List Oper} {fuel : Nat} {listed : Array Bool} {a : Act} {w : World} (hi : ops.toList.drop i = oi :: rest)
    (hs : Region.noSelect ops = true) (hf : Region.free md ops listed i = true) (hr : (Region.ready md ops listed).contains i = true)
    (hQ : ∀ c a w, Q (.panic c) (a.put oi.dst undef) w → Q (.panic c) a w) (hw : Region.wanted oi (yielded ops a.tmps) = false)
    (h : wpAnyR P md ops Q Later fuel (listed.setIfInBounds i true) (a.put oi.dst undef) w) : wpAnyR P md ops Q Later (fuel + 1) listed a w := wpAnyR_skip Later.steady i hi hs hf hr hQ hw h
theorem wpAnyK_one (i : Nat) {o : Oper} {rest : List Oper} {fuel : Nat} {listed : Array Bool} {a : Act} {w : World} (hr : Region.ready md ops listed = [i]) (ho : ops.toList.drop i = o :: rest)
    (h : ∀ K : Act → World → Prop, Shut (∀ a' w', Later w w' → wpAnyR P md ops Q Later fuel (listed.setIfInBounds i true) a' w' → K a' w') → if Region.wanted o (yielded ops a.tmps) = true then Oper.wp P o a w K Q else K (a.put o.dst undef) w) :
    wpAnyR P md ops Q Later (fuel + 1) listed a w := wpAnyR_one i hr ho h
theorem wpAnyK_done {listed : Array Bool} {a : Act} {w : World} (hr : Region.ready md ops listed = []) (h : Q .normal a w) (fuel : Nat) : wpAnyR P md ops Q Later fuel listed a w := wpAnyR_done hr h fuel
theorem wp_region_k {id : Nat} {a : Act} {w : World} (hm : P.follows .mixedOrders = true)
    (h : wpAnyR P .any ops Q Later ops.size (Array.replicate ops.size false) a w.drew) : (Code.region id ops true).wp P Q a w := wp_region_r hm h
theorem wpAnyT_take (i : Nat) {oi : Oper} {rest : List Oper} {v : Value} {fuel : Nat} {listed : Array Bool} {a : Act} {w : World} (hi : ops.toList.drop i = oi :: rest)
    (hs : Region.noSelect ops = true) (hf : Region.free md ops listed i = true) (hr : (Region.ready md ops listed).contains i = true)
    (hQ : ∀ c a w, Q (.panic c) (a.put oi.dst v) w → Q (.panic c) a w) (hw : Region.wanted oi (yielded ops a.tmps) = true)
    (hy : ∀ W, Always w W → (execOp a.eval oi).run P W = .ok (.value v) W)
    (h : wpAnyR P md ops Q Always fuel (listed.setIfInBounds i true) (a.put oi.dst v) w) : wpAnyR P md ops Q Always (fuel + 1) listed a w := wpAnyR_take Always.steady i hi hs hf hr hQ hw hy h
theorem wpAnyT_skip (i : Nat) {oi : Oper} {rest : List Oper} {fuel : Nat} {listed : Array Bool} {a : Act} {w : World} (hi : ops.toList.drop i = oi :: rest)
    (hs : Region.noSelect ops = true) (hf : Region.free md ops listed i = true) (hr : (Region.ready md ops listed).contains i = true)
    (hQ : ∀ c a w, Q (.panic c) (a.put oi.dst undef) w → Q (.panic c) a w) (hw : Region.wanted oi (yielded ops a.tmps) = false)
    (h : wpAnyR P md ops Q Always fuel (listed.setIfInBounds i true) (a.put oi.dst undef) w) : wpAnyR P md ops Q Always (fuel + 1) listed a w := wpAnyR_skip Always.steady i hi hs hf hr hQ hw h
theorem wpAnyT_one (i : Nat) {o : Oper} {rest : List Oper} {fuel : Nat} {listed : Array Bool} {a : Act} {w : World} (hr : Region.ready md ops listed = [i]) (ho : ops.toList.drop i = o :: rest)
    (h : ∀ K : Act → World → Prop, Shut (∀ a' w', Always w w' → wpAnyR P md ops Q Always fuel (listed.setIfInBounds i true) a' w' → K a' w') → if Region.wanted o (yielded ops a.tmps) = true then Oper.wp P o a w K Q else K (a.put o.dst undef) w) :
    wpAnyR P md ops Q Always (fuel + 1) listed a w := wpAnyR_one i hr ho h
theorem wpAnyT_done {listed : Array Bool} {a : Act} {w : World} (hr : Region.ready md ops listed = []) (h : Q .normal a w) (fuel : Nat) : wpAnyR P md ops Q Always fuel listed a w := wpAnyR_done hr h fuel
theorem wp_region_t {id : Nat} {a : Act} {w : World} (hm : P.follows .mixedOrders = true)
    (h : wpAnyR P .any ops Q Always ops.size (Array.replicate ops.size false) a w.drew) : (Code.region id ops true).wp P Q a w := wp_region_r hm h
end
end Go.Proofs.Ytblljpdlmllceaa
/-
  A region that draws its order, with loud operations (they may turn what stood: append in place, store, a call): an operation that reads memory may be taken first if no loud one can come up ahead of it.
-/
namespace Go.Proofs.Ytblljpdlmllceaa
open Go.RowKit
/-- All that can be listed while number i is not. -/
def unlistedCl (md : Region.Mode) (ops : Array Oper) (i : Nat) : Nat → Array Bool → Array Bool
  | 0, listed => listed
  | n + 1, listed => unlistedCl md ops i n ((Region.ready md ops listed).foldl (fun l j => if j == i then l else l.setIfInBounds j true) listed)
/-- Number i waits for no loud one: C is closed but for i, holds what is listed, and no loud one that is not. -/
def calm (md : Region.Mode) (ops : Array Oper) (loud : List Nat) (listed C : Array Bool) (i : Nat) : Bool :=
  (Region.ready md ops C == [i]) && (List.range listed.size).all (fun j => !(listed.getD j false) || C.getD j false) && loud.all (fun j => !(C.getD j false) || listed.getD j false) && (C.size == listed.size)
section
variable {P : Program} {ops : Array Oper} {Q : Exit → Act → World → Prop} {md : Region.Mode} {loud : List Nat}
/-- Whatever order is picked from here on, and each operation that is not loud leaves what stood. -/
def wpAnyL (P : Program) (md : Region.Mode) (ops : Array Oper) (Q : Exit → Act → World → Prop) (loud : List Nat) : Nat → Array Bool → Act → World → Prop
  | 0, listed, a, w => Region.ready md ops listed = [] ∧ Q .normal a w
  | fuel + 1, listed, a, w =>
    (Region.ready md ops listed = [] → Q .normal a w) ∧
    ∀ i ∈ Region.ready md ops listed, wpOp P ops Q i (fun a' w' => (i ∈ loud ∨ Later w w') ∧ wpAnyL P md ops Q loud fuel (listed.setIfInBounds i true) a' w') a w
theorem wpAny_of_l : ∀ (fuel : Nat) (listed : Array Bool) (a : Act) (w : World), wpAnyL P md ops Q loud fuel listed a w → wpAny P md ops Q fuel listed a w
  | 0, _, _, _, h => h
  | fuel + 1, _, _, _, h => ⟨h.1, fun i hi => wpOp_mono (fun a' w' h' => wpAny_of_l fuel _ a' w' h'.2) (h.2 i hi)⟩
/-- What may come up ahead of i, told by a set that stays: 'In' holds of the list at hand, is kept by each ready one but i, and such a one is not loud. -/
theorem wpAnyL_first {i : Nat} {oi : Oper} {v : Value} (S : World → World → Prop) (hS : Steady S) (In : Array Bool → Prop)
    (hIn : ∀ listed j, In listed → j ∈ Region.ready md ops listed → j ≠ i → In (listed.setIfInBounds j true) ∧ ∀ w w', (j ∈ loud ∨ Later w w') → S w w') (hi : ops[i]? = some oi) (hsel : ∀ (j : Nat) (o : Oper) cs b, ops[j]? = some o → o.op ≠ .select cs b)
    (hQ : ∀ c a w, Q (.panic c) (a.put oi.dst v) w → Q (.panic c) a w) :
    ∀ (fuel : Nat) (listed : Array Bool) (a : Act) (w : World), In listed →
      (∀ j oj, ops[j]? = some oj → j ≠ i → listed.getD j true = false → (∀ e ∈ oj.after, Region.binds md e = true → e.on ≠ i) → oi.apart ops oj = true) →
      i ∈ Region.ready md ops listed → YieldsIf P ops (S w) oi v a →
      wpAnyL P md ops Q loud fuel (listed.setIfInBounds i true) (a.put oi.dst v) w → wpAnyL P md ops Q loud (fuel + 1) listed a w := by
  intro fuel
  induction fuel with
  | zero =>
    intro listed a w _ _ hr hy H
    refine ⟨fun h => (by rw [h] at hr; cases hr), fun j hj => ?_⟩
    by_cases hji : j = i
    · subst hji; exact hy.wpOp hi (hS.refl w) ⟨.inr (Later.refl w), H⟩
    · have := ready_mono hj hji
      rw [H.1] at this
      cases this
  | succ fuel ih =>
    intro listed a w hin hfree hr hy H
    refine ⟨fun h => (by rw [h] at hr; cases hr), fun j hj => ?_⟩
    by_cases hji : j = i
    · subst hji; exact hy.wpOp hi (hS.refl w) ⟨.inr (Later.refl w), H⟩
    · have h1 := H.2 j (ready_mono hj hji)
      obtain ⟨hjun, oj, hoj, hall⟩ := mem_ready.1 hj
      have hnot : ∀ e ∈ oj.after, Region.binds md e = true → e.on ≠ i := fun e he hb heq => by
        have h1 := hall e he hb
        have h0 := (mem_ready.1 hr).1
        rw [heq] at h1
        rcases Nat.lt_or_ge i listed.size with h' | h'
        · simp [h'] at h0 h1; rw [h0] at h1; cases h1
        · simp [Array.getElem?_eq_none h'] at h1
      have h2 := wpOp_putIf hoj (hfree j oj hoj hji hjun hnot) (fun cs b => hsel i oi cs b hi) (fun cs b => hsel j oj cs b hoj) hQ hy h1
      have hfree' : ∀ k ok, ops[k]? = some ok → k ≠ i → (listed.setIfInBounds j true).getD k true = false →
          (∀ e ∈ ok.after, Region.binds md e = true → e.on ≠ i) → oi.apart ops ok = true := fun k ok hk hki hun hno => by
        refine hfree k ok hk hki ?_ hno
        by_cases hjk : j = k
        · subst hjk; exact hjun
        · rw [getD_set_ne true hjk] at hun; exact hun
      obtain ⟨hin', hst⟩ := hIn listed j hin hj hji
      refine wpOp_mono (fun a' w' h3 => ⟨h3.2.1, ih (listed.setIfInBounds j true) a' w' hin' hfree' (ready_mono hr (Ne.symm hji)) (yieldsIf_later hS h3.1 (hst _ _ h3.2.1)) ?_⟩) h2
      rw [Array.setIfInBounds_comm _ _ hji]
      exact h3.2.2
theorem getD_true_of_false {l : Array Bool} {k : Nat} (h : l.getD k false = true) : l.getD k true = true := by
  rcases Nat.lt_or_ge k l.size with hk | hk
  · simp [hk] at h ⊢; exact h
  · simp [Array.getElem?_eq_none hk] at h
theorem calm_in {i : Nat} {l0 C : Array Bool} (hc : calm md ops loud l0 C i = true) :
    (fun l : Array Bool => l.size = C.size ∧ (∀ k, l0.getD k true = true → l.getD k true = true) ∧ ∀ k, l.getD k false = true → C.getD k false = true) l0 ∧
    ∀ (l : Array Bool) (j : Nat), (l.size = C.size ∧ (∀ k, l0.getD k true = true → l.getD k true = true) ∧ ∀ k, l.getD k false = true → C.getD k false = true) → j ∈ Region.ready md ops l → j ≠ i →
      ((l.setIfInBounds j true).size = C.size ∧ (∀ k, l0.getD k true = true → (l.setIfInBounds j true).getD k true = true) ∧ ∀ k, (l.setIfInBounds j true).getD k false = true → C.getD k false = true) ∧ ∀ w w', (j ∈ loud ∨ Later w w') → Later w w' := by
  simp only [calm, Bool.and_eq_true] at hc
  obtain ⟨⟨⟨h1, h2⟩, h3⟩, h4⟩ := hc
  have h1 : Region.ready md ops C = [i] := by simpa using h1
  have h4 : C.size = l0.size := by simpa using h4
  refine ⟨⟨h4.symm, fun k h => h, fun k hk => ?_⟩, fun l j hl hj hji => ?_⟩
  · have hlt : k < l0.size := by
      rcases Nat.lt_or_ge k l0.size with hlt | hge
      · exact hlt
      · simp [Array.getElem?_eq_none hge] at hk
    have := List.all_eq_true.1 h2 k (List.mem_range.2 hlt)
    rw [hk] at this
    simpa using this
  · obtain ⟨hs, hm, hC⟩ := hl
    obtain ⟨hjun, oj, hoj, hall⟩ := mem_ready.1 hj
    have hjs : j < l.size := by
      rcases Nat.lt_or_ge j l.size with hlt | hge
      · exact hlt
      · simp [Array.getElem?_eq_none hge] at hjun
    have hCj : C.getD j false = true := by
      cases hcj : C.getD j false with
      | true => rfl
      | false =>
        exfalso
        have hcj2 : C.getD j true = false := by
          have : j < C.size := by omega
          simp [this] at hcj ⊢; exact hcj
        have : j ∈ Region.ready md ops C := mem_ready.2 ⟨hcj2, oj, hoj, fun e he hb => hC _ (hall e he hb)⟩
        rw [h1] at this
        exact hji (by simpa using this)
    refine ⟨⟨by simpa using hs, fun k hk => ?_, fun k hk => ?_⟩, fun w w' h => ?_⟩
    · by_cases hjk : j = k
      · subst hjk; simp [hjs]
      · rw [getD_set_ne true hjk]; exact hm k hk
    · by_cases hjk : j = k
      · subst hjk; exact hCj
      · rw [getD_set_ne false hjk] at hk; exact hC k hk
    · rcases h with h | h
      · exfalso
        have := List.all_eq_true.1 h3 j h
        rw [hCj] at this
        have h0 : l0.getD j false = true := by simpa using this
        have := hm j (getD_true_of_false h0)
        rw [hjun] at this
        cases this
      · exact h
/-- Number i is taken first: it reads memory. -/
theorem wpAnyL_take (i : Nat) {oi : Oper} {rest : List Oper} {v : Value} {fuel : Nat} {listed : Array Bool} {a : Act} {w : World} (hi : ops.toList.drop i = oi :: rest)
    (hs : Region.noSelect ops = true) (hf : Region.free md ops listed i = true) (hr : (Region.ready md ops listed).contains i = true) (hc : calm md ops loud listed (unlistedCl md ops i ops.size listed) i = true)
    (hQ : ∀ c a w, Q (.panic c) (a.put oi.dst v) w → Q (.panic c) a w) (hw : Region.wanted oi (yielded ops a.tmps) = true)
    (hy : ∀ W, Later w W → (execOp a.eval oi).run P W = .ok (.value v) W)
    (h : wpAnyL P md ops Q loud fuel (listed.setIfInBounds i true) (a.put oi.dst v) w) : wpAnyL P md ops Q loud (fuel + 1) listed a w :=
  wpAnyL_first Later Later.steady _ (calm_in hc).2 (op_of_drop hi) (Region.noSelect_spec hs) hQ fuel listed a w (calm_in hc).1 (Region.free_spec (op_of_drop hi) hf) (by simpa using hr) (.inl ⟨hw, hy⟩) h
/-- Number i is taken first: it reads no memory. -/
theorem wpAnyL_pure (i : Nat) {oi : Oper} {rest : List Oper} {v : Value} {fuel : Nat} {listed : Array Bool} {a : Act} {w : World} (hi : ops.toList.drop i = oi :: rest)
    (hs : Region.noSelect ops = true) (hf : Region.free md ops listed i = true) (hr : (Region.ready md ops listed).contains i = true)
    (hQ : ∀ c a w, Q (.panic c) (a.put oi.dst v) w → Q (.panic c) a w) (hw : Region.wanted oi (yielded ops a.tmps) = true)
    (hy : ∀ W, (execOp a.eval oi).run P W = .ok (.value v) W)
    (h : wpAnyL P md ops Q loud fuel (listed.setIfInBounds i true) (a.put oi.dst v) w) : wpAnyL P md ops Q loud (fuel + 1) listed a w :=
  wpAnyL_first Always Always.steady (fun _ => True) (fun _ _ _ _ _ => ⟨trivial, fun _ _ _ => trivial⟩) (op_of_drop hi) (Region.noSelect_spec hs) hQ fuel listed a w trivial (Region.free_spec (op_of_drop hi) hf) (by simpa using hr) (.inl ⟨hw, fun W _ => hy W⟩) h
theorem wpAnyL_skip (i : Nat) {oi : Oper} {rest : List Oper} {fuel : Nat} {listed : Array Bool} {a : Act} {w : World} (hi : ops.toList.drop i = oi :: rest)
    (hs : Region.noSelect ops = true) (hf : Region.free md ops listed i = true) (hr : (Region.ready md ops listed).contains i = true)
    (hQ : ∀ c a w, Q (.panic c) (a.put oi.dst undef) w → Q (.panic c) a w) (hw : Region.wanted oi (yielded ops a.tmps) = false)
    (h : wpAnyL P md ops Q loud fuel (listed.setIfInBounds i true) (a.put oi.dst undef) w) : wpAnyL P md ops Q loud (fuel + 1) listed a w :=
  wpAnyL_first Always Always.steady (fun _ => True) (fun _ _ _ _ _ => ⟨trivial, fun _ _ _ => trivial⟩) (op_of_drop hi) (Region.noSelect_spec hs) hQ fuel listed a w trivial (Region.free_spec (op_of_drop hi) hf) (by simpa using hr) (.inr ⟨hw, rfl⟩) h
/-- Number i alone may come up; it is not loud. -/
theorem wpAnyL_one (i : Nat) {o : Oper} {rest : List Oper} {fuel : Nat} {listed : Array Bool} {a : Act} {w : World} (hr : Region.ready md ops listed = [i]) (ho : ops.toList.drop i = o :: rest)
    (h : ∀ K : Act → World → Prop, Shut (∀ a' w', Later w w' → wpAnyL P md ops Q loud fuel (listed.setIfInBounds i true) a' w' → K a' w') → if Region.wanted o (yielded ops a.tmps) = true then Oper.wp P o a w K Q else K (a.put o.dst undef) w) :
    wpAnyL P md ops Q loud (fuel + 1) listed a w := by
  refine ⟨fun h0 => (by rw [hr] at h0; cases h0), fun j hj => ?_⟩
  rw [hr] at hj
  obtain rfl : j = i := by simpa using hj
  exact wpOp_step (op_of_drop ho) fun K hK => h K fun a' w' hl hW => hK a' w' ⟨.inr hl, hW⟩
/-- Number i alone may come up; it is loud. -/
theorem wpAnyL_loud (i : Nat) {o : Oper} {rest : List Oper} {fuel : Nat} {listed : Array Bool} {a : Act} {w : World} (hr : Region.ready md ops listed = [i]) (hl : loud.contains i = true) (ho : ops.toList.drop i = o :: rest)
    (h : ∀ K : Act → World → Prop, Shut (∀ a' w', wpAnyL P md ops Q loud fuel (listed.setIfInBounds i true) a' w' → K a' w') → if Region.wanted o (yielded ops a.tmps) = true then Oper.wp P o a w K Q else K (a.put o.dst undef) w) :
    wpAnyL P md ops Q loud (fuel + 1) listed a w := by
  refine ⟨fun h0 => (by rw [hr] at h0; cases h0), fun j hj => ?_⟩
  rw [hr] at hj
  obtain rfl : j = i := by simpa using hj
  exact wpOp_step (op_of_drop ho) fun K hK => h K fun a' w' hW => hK a' w' ⟨.inl (by simpa using hl), hW⟩
theorem wpAnyL_done {listed : Array Bool} {a : Act} {w : World} (hr : Region.ready md ops listed = []) (h : Q .normal a w) :
    ∀ fuel, wpAnyL P md ops Q loud fuel listed a w
  | 0 => ⟨hr, h⟩
  | _ + 1 => ⟨fun _ => h, by rw [hr]; simp⟩
/-- The beginning. -/
theorem wp_region_l (loud : List Nat) {id : Nat} {a : Act} {w : World} (hm : P.follows .mixedOrders = true)
    (h : wpAnyL P .any ops Q loud ops.size (Array.replicate ops.size false) a w.drew) : (Code.region id ops true).wp P Q a w :=
  wp_region_any hm (wpAny_of_l _ _ _ _ h)
end
end Go.Proofs.Ytblljpdlmllceaa
/-
  Join: the spans that have the keys of all.
-/
namespace Go.Proofs.Ytblljpdlmllceaa
open Go.RowKit
set_option linter.unusedVariables false
set_option linter.unusedSimpArgs false
theorem Rising.drop {L : List Spn} (h : Rising L) (k : Nat) : Rising (L.drop k) := by
  induction L generalizing k with
  | nil => simpa using h
  | cons a L ih =>
    cases k with
    | zero => exact h
    | succ k => simpa using ih h.2.2 k
theorem set_same {α : Type} (L : List α) (i : Nat) (x : α) (h : L[i]? = some x) : L.set i x = L := by
  apply List.ext_getElem?
  intro t
  rw [List.getElem?_set]
  split
  · rename_i hit; subst hit; rw [if_pos (List.getElem?_eq_some_iff.1 h).1, h]
  · rfl
theorem last_set {O : List Spn} {p : Spn} {j : Nat} (h : O.length = j) (u : ByteArray) : srow (O ++ [(p.1, u)]) = (srow (O ++ [p])).set (j * 2 + 1) (.string u) := by
  have hj : (O ++ [p])[j]? = some p := by rw [← h]; simp
  have e := span_set (L := O ++ [p]) (i := j) (by simp [h]) (p.1, u)
  have e2 : (O ++ [p]).set j (p.1, u) = O ++ [(p.1, u)] := by rw [List.set_append_right _ _ (by omega), h, Nat.sub_self]; rfl
  rw [e2] at e
  rw [e]
  congr 1
  have h1 := srow_fst hj
  exact set_same _ _ (Value.string p.1) h1
set_option maxHeartbeats 2000000 in
theorem join_any {w : World} {A : Option Addr} {n c : Nat} {L : List Spn} (hr : Rd w 2 A n (srow L)) (hA : A = none → n = 0) (hl : L.length = n) (hn : n ≤ 4398046511104) :
    Calls Try.prog 42 #[.slice A n c] w fun e w' =>
      (∃ (A' : Option Addr) (R : List Spn), e = .returned (.slice A' R.length R.length) ∧ Rd w' 2 A' R.length (srow R) ∧ (A' = none → R.length = 0) ∧ (∀ (b o : Nat), A' = some ⟨b, o, none⟩ → w.heap.size ≤ b) ∧ R.length ≤ n ∧ Canon R ∧ ∀ k, InL R k ↔ InL L k) ∧ Below w.heap.size w w' := by
  have hcl := hide_ (sclone_any (c := c) hr hA (by omega) (by unfold maxLen; omega))
  have HL := hide_ hl
  clear hr hA hl
  go_enter Try.func42, Try.ntmps42
  go_wp2_with fail
  refine (hcl.out).mono ?_; rintro e w1 ⟨⟨v1, rfl, ho1⟩, hb1⟩
  obtain ⟨A1, c1, rfl⟩ := own_form ho1
  have hdel := hide_ (sdelete_all ho1 HL.out hn hb1.size)
  have HB1 := hide_ hb1
  clear ho1 hb1
  go_wp2_with fail
  refine (hdel.out).mono ?_; rintro e w2 ⟨⟨A2, m, c2, M, rfl, hM, hm, ho2⟩, hb2⟩
  have hle := hide_ (show m ≤ n by rw [← hm, hM, ← HL.out]; exact List.length_filter_le _ _)
  have hsort := hide_ (sort_all ho2 hm (Nat.le_trans hle.out hn))
  have HB2 := hide_ (HB1.out.trans hb2)
  have HFN := hide_ (show ∀ x, x ∈ M → ne_ x = true by rw [hM]; exact fun x hx => (List.mem_filter.1 hx).2)
  have HIF := hide_ (show ∀ k, InL M k ↔ InL L k by rw [hM]; exact inl_filter L)
  clear ho2 hb2 hM hm
  go_wp2_with fail
  refine (hsort.out).mono ?_; rintro e w3 ⟨rfl, ⟨Y, hY, hp, hs, ho3⟩, hb3⟩
  have HR := hide_ (rising_of hs fun x hx => by have := HFN.out x (hp.mem_iff.1 hx); simpa [ne_] using this)
  have HY := hide_ hY
  have HKY := hide_ (fun k => (inl_perm hp k).trans (HIF.out k))
  have HB3 := hide_ (HB2.out.trans hb3)
  have HO3 := hide_ ho3
  have HLM := hide_ (Nat.le_trans hle.out hn)
  have hmm : (m : Int) ≤ 4398046511104 := by have := HLM.out; omega
  clear hY hp hs ho3 hb3
  go_wp2_with fail
  go_loopw [3, 5, 6, 14] (fun s3 _ _ s14 wr => ∃ (k q : Nat) (O : List Spn), k ≤ m ∧ s14 = .int .i64 k ∧ Hid (O.length = q) ∧ q ≤ k ∧ Hid (wr.ownsRow w3.heap.size 34 2 s3 q (srow O)) ∧ Hid (MergeInv O (Y.take k) (Y.drop k)) ∧ Hid (Below w3.heap.size w3 wr)) (fun _ _ _ i _ => m - (intOf i).toNat)
  case atStart => exact ⟨0, 0, [], Nat.zero_le _, rfl, rfl, Nat.le_refl _, World.ownsRow_nil _ _ _ _, merge_start Y, Below.refl _ _⟩
  case round =>
    obtain ⟨k, q, O, hk, rfl, HQ, hqk, HO, HI, HB⟩ := hrel
    obtain ⟨A4, c4, rfl⟩ := own_form HO.out
    have hmx := HLM.out
    by_cases hlt : k < m
    · have q1 : (k : Int) < (m : Int) := by omega
      obtain ⟨s, hs⟩ : ∃ s, Y[k]? = some s := ⟨_, List.getElem?_eq_getElem (by rw [HY.out]; exact hlt)⟩
      obtain ⟨b, o, rfl, l1, l2⟩ := ((Rd.of_own HO3.out).below HB.out).span hs
      have HS := hide_ hs
      have HD := hide_ (show Y.drop k = s :: Y.drop (k + 1) from by rw [List.drop_eq_getElem_cons (by rw [HY.out]; exact hlt)]; congr 1; exact (List.getElem?_eq_some_iff.1 hs).2)
      have HT := hide_ (take_next hs)
      have HRS := hide_ (show Rising (s :: Y.drop (k + 1)) by rw [← HD.out]; exact HR.out.drop k)
      have HI' := hide_ (show MergeInv O (Y.take k) (s :: Y.drop (k + 1)) by rw [← HD.out]; exact HI.out)
      clear hs
      rcases Nat.eq_zero_or_pos q with hq | hq
      · subst hq
        obtain rfl : O = [] := List.eq_nil_of_length_eq_zero HQ.out
        go_wp2_with fail
        go_quiet (fail)
        have HO4 := hide_ (show ((wr.alloc (.cells #[.string s.1, .string s.2] 34)).drewN nq).ownsRow w3.heap.size 34 2 (.slice A4 0 c4) 0 (srow []) from HO.out.alloc _)
        have HB4 := hide_ (below_drewN (HB.out.alloc HB.out.size (.cells #[.string s.1, .string s.2] 34)) nq)
        go_wp2_with (at_builtin; go_loud (refine wpList_append_rd _ rfl (.tmp 47) (.tmp 49) 47 rfl w3.heap.size 34 2 32 spanT _ 0 (srow []) rfl (HO4.out.alloc _) _ 1 _ (encS s) rfl (Rd.newAt _ #[.string s.1, .string s.2] 34 1 2 _ (0, 0) rfl (by simp)) (encS_one s) (by omega) (by unfold maxLen; omega) (by have := HB.out.size; simp; omega) (fun h => nomatch h) ?_; intro v5 w5 hown5 hg5 hat5; have HO5 := hide_ hown5; have HB5 := hide_ (own_grown (HB4.out.alloc (by have := HB.out.size; simp; omega) _) (HO4.out.alloc _) hg5 (by have := HB.out.size; simp; omega)); clear hown5 hg5 hat5))
        go_roundw
        case rel => exact ⟨k + 1, 1, [s], by omega, by go_num, rfl, by omega, hide_ (by simpa [srow] using HO5.out), by rw [HT.out]; exact merge_first HI'.out HRS.out, HB5.out⟩
        case measure => simp [intOf]; omega
      · obtain ⟨j, rfl⟩ : ∃ j, q = j + 1 := ⟨q - 1, by omega⟩
        obtain ⟨O', p, hO⟩ : ∃ O' p, O = O' ++ [p] := by
          rcases List.eq_nil_or_concat O with h | ⟨O', p, h⟩
          · have := HQ.out; rw [h] at this; simp at this
          · exact ⟨O', p, by simpa using h⟩
        subst hO
        have HJ := hide_ (show O'.length = j by have := HQ.out; simpa using this)
        have hpj : (O' ++ [p])[j]? = some p := by rw [← HJ.out]; simp
        obtain ⟨g4, rfl⟩ : ∃ g, A4 = some ⟨g, 0, none⟩ := by
          rcases sown_cases HO.out with ⟨_, h, _⟩ | h
          · omega
          · exact h
        have c1 := (HO.out.cellAt (j * 2) (by omega)).trans (srow_fst hpj)
        have c2 := (HO.out.cellAt (j * 2 + 1) (by omega)).trans (srow_snd hpj)
        have hcap := own_cap HO.out
        have d1 := cell_alloc c1
        have d2 := cell_alloc c2
        have j1 : (0 : Int) ≤ (j : Int) := by omega
        have j2 : (j : Int) ≤ 4398046511104 := by omega
        have j3 : j < j + 1 := by omega
        clear hpj c1 c2
        have HO4 := fun nq => hide_ (show ((wr.alloc (.cells #[.string s.1, .string s.2] 34)).drewN nq).ownsRow w3.heap.size 34 2 (.slice (some ⟨g4, 0, none⟩) (j + 1) c4) (j + 1) (srow (O' ++ [p])) from HO.out.alloc _)
        have HB4 := fun nq => hide_ (below_drewN (HB.out.alloc HB.out.size (.cells #[.string s.1, .string s.2] 34)) nq)
        by_cases ht : s.1 ≤ p.2
        · have t1 : (Op.bytesLess s.1.toList p.2.toList || s.1.toList == p.2.toList) = true := by rw [ble]; simpa
          have HTC := hide_ ht
          clear ht
          go_wp2_with fail
          go_quiet (fail)
          obtain ⟨u, hu⟩ : ∃ u, u = if p.2 < s.2 then s.2 else p.2 := ⟨_, rfl⟩
          have hmax : ∀ ts t W, (Builtin.max_ ts t #[.string p.2, .string s.2]).run Try.prog W = .ok (.string u) W := fun ts t W => by rw [run_max_str, hu]
          have HU := hide_ hu
          clear hu
          obtain ⟨cur, _, hgc, _⟩ := own_row HO.out
          have f1 := fun ob => frozen_of_row _ _ (j * 2 + 1) _ _ (row_alloc hgc ob)
          clear hgc
          go_wp2_with fail
          obtain ⟨W4, hW4⟩ : ∃ W4, W4 = (wr.alloc (.cells #[.string s.1, .string s.2] 34)).drewN nq := ⟨_, rfl⟩
          rw [← hW4]
          have g1 : W4.cell? ⟨g4, j * 2 + 1, none⟩ = some (.string p.2) := by rw [hW4]; exact d2 _
          have g2 : W4.cell? ⟨wr.heap.size, 1, none⟩ = some (.string s.2) := by rw [hW4]; exact cell_of_row _ _ 1 _ _ (0, 0) (heap_alloc_new wr _)
          have g3 : W4.frozen? ⟨g4, j * 2 + 1, none⟩ = false := by rw [hW4]; exact f1 _
          have e1 := later_drew_cell g1
          have e2 := later_drew_cell g2
          have HOW := hide_ (show W4.ownsRow w3.heap.size 34 2 (.slice (some ⟨g4, 0, none⟩) (j + 1) c4) (j + 1) (srow (O' ++ [p])) by rw [hW4]; exact (HO4 nq).out)
          have HBW := hide_ (show Below w3.heap.size w3 W4 by rw [hW4]; exact (HB4 nq).out)
          clear hW4 f1 d1 d2
          have k1 : IntKind.i64.wrap (j : Int) = (j : Int) := IntWalk.i64_in _ (by omega)
          have k2 : (j : Int) < (j : Int) + 1 := by omega
          refine wp_region_l [14] (by kernel_rfl) ?_
          refine wpAnyL_pure 0 (v := ?_) rfl (by kernel_rfl) (by kernel_rfl) (by kernel_rfl) (fun _ _ _ h => h) (by rfl) (by intro W; go_simp; with_reducible rfl) ?_; try simp only [Act.put, List.setIfInBounds_toArray, List.set_cons_zero, List.set_cons_succ]
          refine wpAnyL_pure 1 (v := ?_) rfl (by kernel_rfl) (by kernel_rfl) (by kernel_rfl) (fun _ _ _ h => h) (by rfl) (by intro W; go_simp; with_reducible rfl) ?_; try simp only [Act.put, List.setIfInBounds_toArray, List.set_cons_zero, List.set_cons_succ]
          refine wpAnyL_take 2 (v := ?_) rfl (by kernel_rfl) (by kernel_rfl) (by kernel_rfl) (by kernel_rfl) (fun _ _ _ h => h) (by rfl) (by intro W hSw; go_simp; with_reducible rfl) ?_; try simp only [Act.put, List.setIfInBounds_toArray, List.set_cons_zero, List.set_cons_succ]
          refine wpAnyL_pure 3 (v := ?_) rfl (by kernel_rfl) (by kernel_rfl) (by kernel_rfl) (fun _ _ _ h => h) (by rfl) (by intro W; go_simp; with_reducible rfl) ?_; try simp only [Act.put, List.setIfInBounds_toArray, List.set_cons_zero, List.set_cons_succ]
          refine wpAnyL_pure 4 (v := ?_) rfl (by kernel_rfl) (by kernel_rfl) (by kernel_rfl) (fun _ _ _ h => h) (by rfl) (by intro W; go_simp; with_reducible rfl) ?_; try simp only [Act.put, List.setIfInBounds_toArray, List.set_cons_zero, List.set_cons_succ]
          refine wpAnyL_take 5 (v := ?_) rfl (by kernel_rfl) (by kernel_rfl) (by kernel_rfl) (by kernel_rfl) (fun _ _ _ h => h) (by rfl) (by intro W hSw; go_simp; with_reducible rfl) ?_; try simp only [Act.put, List.setIfInBounds_toArray, List.set_cons_zero, List.set_cons_succ]
          refine wpAnyL_pure 6 (v := ?_) rfl (by kernel_rfl) (by kernel_rfl) (by kernel_rfl) (fun _ _ _ h => h) (by rfl) (by intro W; go_simp; with_reducible rfl) ?_; try simp only [Act.put, List.setIfInBounds_toArray, List.set_cons_zero, List.set_cons_succ]
          refine wpAnyL_pure 7 (v := ?_) rfl (by kernel_rfl) (by kernel_rfl) (by kernel_rfl) (fun _ _ _ h => h) (by rfl) (by intro W; go_simp; with_reducible rfl) ?_; try simp only [Act.put, List.setIfInBounds_toArray, List.set_cons_zero, List.set_cons_succ]
          refine wpAnyL_take 8 (v := ?_) rfl (by kernel_rfl) (by kernel_rfl) (by kernel_rfl) (by kernel_rfl) (fun _ _ _ h => h) (by rfl) (by intro W hSw; go_simp; with_reducible rfl) ?_; try simp only [Act.put, List.setIfInBounds_toArray, List.set_cons_zero, List.set_cons_succ]
          refine wpAnyL_pure 9 (v := ?_) rfl (by kernel_rfl) (by kernel_rfl) (by kernel_rfl) (fun _ _ _ h => h) (by rfl) (by intro W; go_simp; with_reducible rfl) ?_; try simp only [Act.put, List.setIfInBounds_toArray, List.set_cons_zero, List.set_cons_succ]
          refine wpAnyL_take 10 (v := ?_) rfl (by kernel_rfl) (by kernel_rfl) (by kernel_rfl) (by kernel_rfl) (fun _ _ _ h => h) (by rfl) (by intro W hSw; go_simp; with_reducible rfl) ?_; try simp only [Act.put, List.setIfInBounds_toArray, List.set_cons_zero, List.set_cons_succ]
          refine wpAnyL_one 11 (by kernel_rfl) rfl (fun K hK => ?_)
          go_simp
          first | refine hK.out _ _ (by assumption) ?_ | refine hK.out _ _ (Later.refl _) ?_ | refine hK.out _ _ (Below.alloc (Below.refl _ _) (Nat.le_refl _) _) ?_
          clear hK K; try simp only [Act.put, List.setIfInBounds_toArray, List.set_cons_zero, List.set_cons_succ]
          refine wpAnyL_pure 12 (v := ?_) rfl (by kernel_rfl) (by kernel_rfl) (by kernel_rfl) (fun _ _ _ h => h) (by rfl) (by intro W; go_simp; with_reducible rfl) ?_; try simp only [Act.put, List.setIfInBounds_toArray, List.set_cons_zero, List.set_cons_succ]
          refine wpAnyL_pure 13 (v := ?_) rfl (by kernel_rfl) (by kernel_rfl) (by kernel_rfl) (fun _ _ _ h => h) (by rfl) (by intro W; go_simp; with_reducible rfl) ?_; try simp only [Act.put, List.setIfInBounds_toArray, List.set_cons_zero, List.set_cons_succ]
          refine wpAnyL_loud 14 (by kernel_rfl) (by rfl) rfl (fun K hK => ?_)
          go_simp
          refine hK.out _ _ ?_
          clear hK K; try simp only [Act.put, List.setIfInBounds_toArray, List.set_cons_zero, List.set_cons_succ]
          refine wpAnyL_done (by kernel_rfl) ?_ _
          clear k1 k2
          go_wp2_with fail
          go_roundw
          case rel =>
            refine ⟨k + 1, j + 1, O' ++ [(p.1, u)], by omega, by go_num, hide_ (by simp [HJ.out]), by omega, ?_, by rw [HT.out, HU.out]; exact merge_touch HI'.out HRS.out HTC.out, ?_⟩
            · rw [last_set HJ.out]
              exact own_setCell (show W4.drew.ownsRow w3.heap.size 34 2 (.slice (some ⟨g4, 0, none⟩) (j + 1) c4) (j + 1) (srow (O' ++ [p])) from HOW.out) _ _
            · exact (HBW.out.drew).setCell (HO.out.lt g4 rfl).1 _
          case measure => simp [intOf]; omega
        · have t1 : (Op.bytesLess s.1.toList p.2.toList || s.1.toList == p.2.toList) = false := by rw [ble]; simpa
          have HTC := hide_ ht
          clear ht
          go_wp2_with fail
          go_quiet (fail)
          go_wp2_with (at_builtin; go_loud (refine wpList_append_rd _ rfl (.tmp 47) (.tmp 49) 47 rfl w3.heap.size 34 2 32 spanT _ (j + 1) (srow (O' ++ [p])) rfl ((HO4 nq).out.alloc _) _ 1 _ (encS s) rfl (Rd.newAt _ #[.string s.1, .string s.2] 34 1 2 _ (0, 0) rfl (by simp)) (encS_one s) (by omega) (by unfold maxLen; omega) (by have := HB.out.size; simp; omega) (fun h => nomatch h) ?_; intro v5 w5 hown5 hg5 hat5; have HO5 := hide_ hown5; have HB5 := hide_ (own_grown ((HB4 nq).out.alloc (by have := HB.out.size; simp; omega) _) ((HO4 nq).out.alloc _) hg5 (by have := HB.out.size; simp; omega)); clear hown5 hg5 hat5))
          go_roundw
          case rel => exact ⟨k + 1, j + 1 + 1, O' ++ [p] ++ [s], by omega, by go_num, hide_ (by simp [HJ.out]), by omega, hide_ (by simpa [srow] using HO5.out), by rw [HT.out]; exact merge_far HI'.out HRS.out (by have := HTC.out; grind), HB5.out⟩
          case measure => simp [intOf]; omega
    · have hkm : k = m := by omega
      have hcl := own_cap HO.out
      have hnl := own_nil HO.out
      have HKM := hide_ hkm
      clear hkm
      go_wp2_with (go_at_call 55; refine (clip_any _ _ _ hcl hnl _).mono ?_; rintro e w' ⟨rfl, rfl⟩)
      go_ret
      have hq := HQ.out
      have hi := HI.out
      rw [HKM.out, ← HY.out, List.take_length] at hi
      refine ⟨⟨A4, O, by rw [hq]; rfl, by rw [hq]; exact Rd.of_own HO.out, by rw [hq]; exact hnl, fun b o hbo => Nat.le_trans HB3.out.size ((HO.out.lt b (by rw [hbo]; rfl)).1), by rw [hq]; exact Nat.le_trans hqk (Nat.le_trans hk hle.out), hi.1, fun k => (hi.2.1 k).trans (HKY.out k)⟩, HB3.out.trans (HB.out.mono HB3.out.size)⟩

end Go.Proofs.Ytblljpdlmllceaa
/-
  The frame of a law's proof: a law that returns true and writes nothing that was there meets its row. And: how the arguments read.
-/
namespace Go.Proofs.Ytblljpdlmllceaa
open Go.ChangeShapes Go.WideShapes Go.ChangeAt Go.RowKit
open Go.ChangeMaps (open_string shut_string)
theorem own : ownKnob Try.prog.godebug = none := by kernel_rfl
theorem laidOut : laidOutB Try.prog = true := by kernel_rfl

section
variable {H : Type} {enc : TypeId × Value → H} {P : Program}
theorem trodAll_below (hl : laidOutB P = true) {W W' : World} (hb : Below W.heap.size W W') :
    ∀ {ts : List TypeId} {vs : List Value} {ds : List (DataW H)} {ps : List MemPlace}, (ts.all fun t => P.readableRec t && decide (t < P.types.size)) = true →
      DataW.TrodAll enc P W 0 (fun _ => true) true ts vs ds ps → (∀ x ∈ ps, x.block < W.heap.size) → DataW.TrodAll enc P W' 0 (fun b => decide (b < W.heap.size)) true ts vs ds ps
  | [], vs, ds, ps, _, h, _ => by
    obtain ⟨rfl, rfl, rfl⟩ := trodAll_nil h
    exact trodAll_mk0
  | t :: ts, vs, ds, ps, hr, h, hlt => by
    obtain ⟨v, vs', d, ds', p, q, rfl, rfl, rfl, h1, h2⟩ := trodAll_cons h
    simp only [List.all_cons, Bool.and_eq_true] at hr
    obtain ⟨⟨hr1, hr2⟩, hr3⟩ := hr
    exact trodAll_cons_mk (Below.trod hl hr1 (of_decide_eq_true hr2) h1 hb fun x hx => hlt x (by simp [hx])) (trodAll_below hl hb hr3 h2 fun x hx => hlt x (by simp [hx]))

/-- The step from 'it returns true, and writes nothing that was there' to the row's own condition. -/
theorem post_law (hl : laidOutB P = true) {f : Func} {s : ChangeSpec} {W W' : World} {args : Array Value} {ds gs : List (DataW H)} {before : List MemPlace} {T : TypeId}
    (hres : f.resultTypes = #[T]) (hT : P.underlying T = some .bool) (hvars : s.vars = []) (hts : (f.params.toList.all fun t => P.readableRec t && decide (t < P.types.size)) = true)
    (hW : DataW.Whole enc P f.params.toList s.vars false W args.toList ds gs before)
    (hs1 : (s.fn H (ds ++ gs)).results = [.lit (.bool true)]) (hs2 : (s.fn H (ds ++ gs)).args = ds) (hs3 : (s.fn H (ds ++ gs)).vars = []) (hb : Below W.heap.size W W') :
    s.post enc P f false true false false W args (.bool true) W' := by
  have hW' := hW
  obtain ⟨p, q, hA, hV, rfl, hfz, hnd⟩ := hW
  rw [hvars] at hV
  obtain ⟨rfl, rfl⟩ := trodVars_none hV
  have hlt : ∀ x ∈ p, x.block < W.heap.size := fun x hx => hW'.lt x (by simp [hx])
  refine ⟨_, [], _, [], p, [], hW', ?_, ?_, ?_, hb.frame _, fun h => by cases h⟩
  · rw [hs1, hres]
    exact trodAll_mk1 (shut_bool hT true)
  · rw [hs2]
    have := trodAll_below hl hb hts hA hlt
    simpa using this
  · rw [hs3, hvars]; rfl
end

/-! The bound of the second form. -/
theorem bulk_one {H : Type} (d : DataW H) : 1 ≤ Rows.uptoBulk d := by
  cases d with
  | lit l => cases l <;> simp [Rows.uptoBulk]
  | _ => simp [Rows.uptoBulk]
theorem bulk_length {H : Type} (l : List (DataW H)) : l.length ≤ Rows.uptoBulkAll l := by
  induction l with
  | nil => simp [Rows.uptoBulkAll]
  | cons x r ih => have := bulk_one x; simp only [Rows.uptoBulkAll, List.length_cons]; omega
theorem bulk_mem {H : Type} {d : DataW H} {l : List (DataW H)} (h : d ∈ l) : Rows.uptoBulk d ≤ Rows.uptoBulkAll l := by
  induction l with
  | nil => cases h
  | cons x r ih =>
    simp only [Rows.uptoBulkAll]
    cases List.mem_cons.1 h with
    | inl e => subst e; omega
    | inr e => have := ih e; omega
theorem bulk_append {H : Type} (l r : List (DataW H)) : Rows.uptoBulkAll (l ++ r) = Rows.uptoBulkAll l + Rows.uptoBulkAll r := by
  induction l with
  | nil => simp [Rows.uptoBulkAll]
  | cons x l ih => simp only [List.cons_append, Rows.uptoBulkAll, ih]; omega
theorem bulk_bound {H : Type} {l : List (DataW H)} (hk : Rows.uptoSmall H (l ++ []) = true) : Rows.uptoBulkAll l ≤ 1048576 := by
  rw [List.append_nil] at hk
  exact of_decide_eq_true hk
theorem bulk_slice {H : Type} {d : DataW H} {c : Nat} (hd : (d = .nil ∧ c = 0) ∨ ∃ el sp, d = .slice el sp ∧ el.length + sp.length = c) : c + 1 ≤ Rows.uptoBulk d := by
  rcases hd with ⟨rfl, rfl⟩ | ⟨el, sp, rfl, hc⟩
  · simp [Rows.uptoBulk]
  · have h1 := bulk_length el
    have h2 := bulk_length sp
    simp only [Rows.uptoBulk]
    omega

section
variable {H : Type} {enc : TypeId × Value → H} {P : Program} {W : World} {b base : Nat} {held : Bool} {r : Reach}
/-- A slice of bytes that came in. -/
theorem open_bytes {t e : TypeId} {v : Value} {d : DataW H} {p : List MemPlace} (ht : P.underlying t = some (.slice e)) (he : P.underlying e = some (.int .u8)) (hc : P.cellsOf e = 1)
    (hv : Value.okWide P W r base t v) (h : DataW.Trod enc P W b (fun _ => true) held t v d p) :
    ∃ (A : Option Addr) (c : Nat) (l : List UInt8), v = .slice A l.length c ∧ l.length ≤ c ∧ c ≤ maxLen ∧ (A = none → l.length = 0) ∧ Rd W 1 A l.length (bvs l) ∧
      ((d = .nil ∧ c = 0) ∨ ∃ el sp, d = .slice el sp ∧ el.length + sp.length = c) := by
  obtain ⟨a, len, cap, rfl⟩ := okWide_slice ht hv
  obtain ⟨fuel, hf⟩ := h
  rcases open_ints ht he hc hf with ⟨hcs, hx⟩ | ⟨x, l, c, zs, hcs, _, hl, hm, hz, hx, hcell, hwz⟩
  · simp [Value.cells] at hcs
    obtain ⟨rfl, rfl, rfl⟩ := hcs
    simp only [Prod.mk.injEq] at hx
    exact ⟨none, 0, [], rfl, Nat.le_refl _, Nat.zero_le _, fun _ => rfl, Rd.nil _ _ _, .inl ⟨hx.1, rfl⟩⟩
  · simp [Value.cells] at hcs
    obtain ⟨rfl, rfl, rfl⟩ := hcs
    simp only [if_true] at hz
    simp only [Prod.mk.injEq] at hx
    have hlen : ((zs.take len).map fun n => UInt8.ofNat n.toNat).length = len := by simp; omega
    refine ⟨some x, cap, (zs.take len).map fun n => UInt8.ofNat n.toNat, by rw [hlen], by omega, hm, by simp, ?_, .inr ⟨_, _, hx.1, by simp [lits]; omega⟩⟩
    obtain ⟨xb, xo, xs⟩ := x
    refine ⟨by rw [hlen]; simp [bvs]; omega, fun h0 => ?_⟩
    have hz0 : 0 < zs.length := by
      simp [bvs] at h0
      omega
    have hs := World.cell?_spot (hcell 0 hz0)
    have hs' : xs = none := by simpa [Addr.add] using hs
    subst hs'
    refine ⟨xb, xo, rfl, fun j u hu => ?_⟩
    have hj : j < len ∧ j < zs.length := by
      have := (List.getElem?_eq_some_iff.1 hu).1
      simp [bvs] at this
      omega
    have hc := hcell j hj.2
    rw [add_plain] at hc
    rw [hc]
    have hw : (Lit.int .u8 zs[j]).wf = true := hwz _ (List.getElem_mem hj.2)
    have hb : 0 ≤ zs[j] ∧ zs[j] ≤ 255 := by simpa [Lit.wf, IntKind.min, IntKind.max, IntKind.signed, IntKind.bits] using hw
    simp [bvs, hj.1, List.getElem?_eq_getElem hj.2, bv] at hu
    rw [← hu]
    simp [List.getD, List.getElem?_eq_getElem hj.2]
    omega
/-- The reach: a slice of bytes that came in. -/
theorem bytes_reach {ts : List TypeId} {ds : List (DataW H)} (h : (DataW.weightsEach P ts ds).all (· ≤ reachBytes) = true) {j : Nat} {t e : TypeId} {d : DataW H} {c : Nat} (ht : ts[j]? = some t) (hj : ds[j]? = some d)
    (hu : P.underlying t = some (.slice e)) (hb : P.bytesOf e = 1) (hd : (d = .nil ∧ c = 0) ∨ ∃ el sp, d = .slice el sp ∧ el.length + sp.length = c) : c ≤ 140737488351232 := by
  rcases hd with ⟨_, rfl⟩ | ⟨el, sp, rfl, hc⟩
  · omega
  · have := sized_slice h ht hj hu
    rw [hb, hc, Nat.mul_one] at this
    simpa [reachBytes] using this
end
end Go.Proofs.Ytblljpdlmllceaa
