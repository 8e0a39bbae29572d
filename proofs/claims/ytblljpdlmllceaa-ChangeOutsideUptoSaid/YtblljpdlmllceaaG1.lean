/-
  Texts of this seat in one: Mem, Bytes, Rec, Rows2, Region, Loud, Frame, Shape, Still, Only, Copy, Shape2, Split.
-/
import Derived.WalkKit
import Derived.WalkSpells
import Derived.WalkLawsBesides
import Derived.Lib.Hide
import Derived.Lib.SlBytesConst
import Derived.Maps.AppendAt
import Derived.Deep.AppendLies
import Derived.Deep.Draws
import Derived.BigQuiet
import Derived.Deep.QuietTactic
import Derived.Handy
import Derived.Laws.CopyOwn
import Derived.Deep.RegionLaw
import Derived.Deep.RegionHeld3
import Derived.Test.YtblljpdlmllceaaRows
import Derived.ProofKit
import Derived.OpenShut
import Derived.ShutString
import Derived.ChangeOld
import Derived.SizedLaws
import Derived.JoinedCond
import Derived.Deep.CondSized
import Derived.Deep.Slices
import Derived.Laws.CopyRow
import Derived.Lib.Overlaps
import Derived.Lib.AppendZerosOnto
/-
  Words for memory that every proof of this seat uses: a slice that is read as a list of cells (nil let in), and append onto a row of the call's own.
-/
namespace Go.Proofs.Ytblljpdlmllceaa
open Go.RowKit

theorem ret_int {k : IntKind} {a b : Int} (h : a = b) : Ending.returned (.int k a) = .returned (.int k b) := by rw [h]
theorem ret_val {a b : Value} (h : a = b) : Ending.returned a = .returned b := by rw [h]
theorem hide_ {p : Prop} (h : p) : Hid p := h
theorem add_plain (b o k : Nat) : (⟨b, o, none⟩ : Addr).add k = ⟨b, o + k, none⟩ := by
  unfold Addr.add; split
  · rename_i h; subst h; rfl
  · rfl
theorem cell_lt {w : World} {b o : Nat} {u : Value} (h : w.cell? ⟨b, o, none⟩ = some u) : b < w.heap.size := by
  rcases Nat.lt_or_ge b w.heap.size with hlt | hge
  · exact hlt
  · unfold World.cell? at h
    rw [Array.getElem?_eq_none hge] at h
    cases h

/-- The slice's address A leads to n elements of this many cells, which read as xs. -/
def Rd (w : World) (size : Nat) (A : Option Addr) (n : Nat) (xs : List Value) : Prop :=
  xs.length = n * size ∧ (0 < xs.length → ∃ b o, A = some ⟨b, o, none⟩ ∧ ∀ j u, xs[j]? = some u → w.cell? ⟨b, o + j, none⟩ = some u)

section
variable {w w' : World} {size n m : Nat} {A : Option Addr} {xs : List Value}
theorem Rd.nil (w : World) (size : Nat) (A : Option Addr) : Rd w size A 0 [] := ⟨by simp, fun h => absurd h (by simp)⟩
theorem Rd.keep (h : Rd w size A n xs) (hk : ∀ p : Addr, p.block < w.heap.size → w'.cell? p = w.cell? p) : Rd w' size A n xs := by
  refine ⟨h.1, fun hn => ?_⟩
  obtain ⟨b, o, e, hc⟩ := h.2 hn
  exact ⟨b, o, e, fun j u hu => (hk _ (cell_lt (hc j u hu))).trans (hc j u hu)⟩
theorem Rd.below (h : Rd w size A n xs) (hb : Below w.heap.size w w') : Rd w' size A n xs := h.keep fun _ hp => hb.cell hp
theorem Rd.drew (h : Rd w size A n xs) : Rd w.drew size A n xs := h
theorem Rd.drewN (h : Rd w size A n xs) (k : Nat) : Rd (w.drewN k) size A n xs := h
theorem Rd.alloc (h : Rd w size A n xs) (o : Obj) : Rd (w.alloc o) size A n xs := h.keep fun p hp => World.cell?_alloc_lt w o p hp
theorem Rd.take (h : Rd w size A n xs) {k : Nat} (hk : k ≤ n) : Rd w size A k (xs.take (k * size)) := by
  have hle : k * size ≤ n * size := Nat.mul_le_mul_right _ hk
  refine ⟨by rw [List.length_take, h.1]; omega, fun hn => ?_⟩
  obtain ⟨b, o, e, hc⟩ := h.2 (by rw [List.length_take] at hn; omega)
  refine ⟨b, o, e, fun j u hu => hc j u ?_⟩
  rw [List.getElem?_take] at hu
  split at hu
  · exact hu
  · cases hu
theorem Rd.cut (h : Rd w size A n xs) {k cap : Nat} (hk : k ≤ n) (hc : n ≤ cap) :
    Rd w size (if cap = k then A else A.map (·.add (k * size))) (n - k) (xs.drop (k * size)) := by
  refine ⟨by rw [List.length_drop, h.1, Nat.sub_mul], fun hn => ?_⟩
  have h1 := h.1
  rw [List.length_drop] at hn
  obtain ⟨b, o, rfl, hcell⟩ := h.2 (by omega)
  have hne : ¬ cap = k := by rintro rfl; have : n = cap := by omega
                             subst this; omega
  rw [if_neg hne]
  refine ⟨b, o + k * size, by simp [add_plain], fun j u hu => ?_⟩
  rw [List.getElem?_drop] at hu
  rw [Nat.add_assoc]
  exact hcell _ u hu
theorem Rd.of_own {base : Nat} {e : TypeId} {c : Nat} (h : w.ownsRow base e size (.slice A n c) n xs) : Rd w size A n xs := by
  refine ⟨h.1, fun hx => ?_⟩
  have hn : 0 < n := by rcases Nat.eq_zero_or_pos n with h0 | h0
                        · subst h0; have := h.1; omega
                        · exact h0
  obtain ⟨g, cap, hv, _, hlt⟩ := h.form hn
  have hA : A = some ⟨g, 0, none⟩ := by injection hv
  subst hA
  refine ⟨g, 0, rfl, fun j u hu => ?_⟩
  have := h.cells (g := g) rfl j u hu
  rwa [add_plain] at this
/-- A new block that reads as its own cells. -/
theorem Rd.new (w : World) (cs : Array Value) (t : TypeId) (n : Nat) (fz : Nat × Nat) (h : cs.size = n * size) : Rd (w.alloc (.cells cs t fz)) size (some ⟨w.heap.size, 0, none⟩) n cs.toList := by
  refine ⟨by simpa using h, fun _ => ⟨_, 0, rfl, fun j u hu => ?_⟩⟩
  have hb : (w.alloc (.cells cs t fz)).heap[w.heap.size]? = some (.cells cs t fz) := heap_alloc_new w _
  rw [Nat.zero_add, cell_of_row _ _ j cs t fz hb]
  simpa using hu
end

/-- The slice type t of the element type e: how many cells and bytes an element has. -/
def ElemT (P : Program) (t e : TypeId) (size bytes : Nat) : Prop :=
  P.underlying t = some (.slice e) ∧ ∃ i z, P.info? e = some i ∧ i.zero = some z ∧ i.size = size ∧ i.bytes = bytes ∧ z.cells.size = size ∧ 0 < size
theorem elem_mk {P : Program} {t e : TypeId} {z : Value} {size bytes : Nat} (ht : P.underlying t = some (.slice e)) (h : (P.info? e).map (fun i => (i.zero, i.size, i.bytes)) = some (some z, size, bytes))
    (hz : z.cells.size = size) (hs : 0 < size) : ElemT P t e size bytes := by
  obtain ⟨i, hi, h1, h2, h3⟩ := info_parts h
  exact ⟨ht, i, z, hi, h1, h2, h3, hz, hs⟩

section
variable {P : Program} (w : World)
theorem run_append_none (base : Nat) (t ty e : TypeId) (i : TypeInfo) (size : Nat) (ht : P.underlying t = some (.slice e)) (hi : P.info? e = some i)
    (v : Value) (n : Nat) (xs : List Value) (hown : w.ownsRow base e size v n xs) (c : Nat) : (Builtin.append_ #[t, t] ty #[v, .slice none 0 c]).run P w = .ok v w := by
  rcases hown.2 with ⟨rfl, rfl⟩ | ⟨g, cap, cur, rfl, _, _, hnc, _⟩
  · simp [Builtin.append_, run_underlying ht, sizeOf, typeInfo, hi, Builtin.lenOf, Builtin.firstCells]
  · simp [Builtin.append_, run_underlying ht, sizeOf, typeInfo, hi, Builtin.lenOf, Builtin.firstCells, hnc, storeCells]

theorem run_append_rd (base : Nat) (t ty e : TypeId) (size bytes : Nat) (E : ElemT P t e size bytes)
    (v : Value) (n : Nat) (xs : List Value) (hown : w.ownsRow base e size v n xs)
    (A : Option Addr) (m c : Nat) (news : List Value) (hr : Rd w size A m news) (h1 : ∀ u ∈ news, u.oneCell' = true)
    (hbytes : (n + m) * bytes ≤ 140737488355328) (h63 : n + m ≤ maxLen) (hbase : base ≤ w.heap.size) (hnil : A = none → m = 0) :
    ∃ v' w', (Builtin.append_ #[t, t] ty #[v, .slice A m c]).run P w = .ok v' w' ∧ w'.ownsRow base e size v' (n + m) (xs ++ news) ∧ w.grownBy w' v.ownBlock ∧
      (v'.ownBlock = v.ownBlock ∨ v'.ownBlock = some w.heap.size) := by
  obtain ⟨ht, i, z, hi, hz, hsize, hby, hzs, hsz⟩ := E
  rcases A with _ | ad
  · have hm : m = 0 := hnil rfl
    subst hm
    have hn : news = [] := List.eq_nil_of_length_eq_zero (by simpa using hr.1)
    subst hn
    exact ⟨v, w, run_append_none w base t ty e i size ht hi v n xs hown c, by simpa using hown, World.grownBy.refl w _, .inl rfl⟩
  · have hcells : ∀ j u, news[j]? = some u → w.cell? (ad.add j) = some u := by
      intro j u hu
      have hl : 0 < news.length := by have := (List.getElem?_eq_some_iff.1 hu).1; omega
      obtain ⟨b, o, he, hc⟩ := hr.2 hl
      injection he with he
      subst he
      rw [add_plain]
      exact hc j u hu
    obtain ⟨v', w', hrun, h2, h3, _, h5⟩ := run_append_own_at (P := P) w base t ty e i z size bytes ht hi hz hsize hby hzs hsz v n xs hown ad m c news hr.1 hcells h1 h63 hbytes hbase
    exact ⟨v', w', hrun, h2, h3, h5⟩

theorem wp_append_rd {o : Oper} {a : Act} {K : Act → World → Prop} {Q : Exit → Act → World → Prop} (s x : Operand) (t : TypeId)
    (ho : o.op = .call { callee := .builtin .append, args := #[s, x], argTypes := #[t, t] })
    (base : Nat) (e : TypeId) (size bytes : Nat) (E : ElemT P t e size bytes)
    (v : Value) (n : Nat) (xs : List Value) (hs : a.eval s = v) (hown : w.ownsRow base e size v n xs)
    (A : Option Addr) (m c : Nat) (news : List Value) (hx : a.eval x = .slice A m c) (hr : Rd w size A m news) (h1 : ∀ u ∈ news, u.oneCell' = true)
    (hbytes : (n + m) * bytes ≤ 140737488355328) (h63 : n + m ≤ maxLen) (hbase : base ≤ w.heap.size) (hnil : A = none → m = 0)
    (h : ∀ v' w', w'.ownsRow base e size v' (n + m) (xs ++ news) → w.grownBy w' v.ownBlock → (v'.ownBlock = v.ownBlock ∨ v'.ownBlock = some w.heap.size) → K (a.put o.dst v') w') : o.wp P a w K Q := by
  obtain ⟨v', w', hrun, h2, h3, h4⟩ := run_append_rd (P := P) w base t o.type e size bytes E v n xs hown A m c news hr h1 hbytes h63 hbase hnil
  unfold Oper.wp execOp
  simp only [ho, resolve, invoke, builtin, Sem.run_bind, Sem.run_pure, Result.andThen_ok, List.map_toArray, List.map_cons, List.map_nil, hs, hx, hrun]
  exact h v' w' h2 h3 h4

theorem wpList_append_rd {ops : Array Oper} {rest : List Oper} {o : Oper} {a : Act} {Q : Exit → Act → World → Prop} (hgd : o.guard = none) (s x : Operand) (t : TypeId)
    (ho : o.op = .call { callee := .builtin .append, args := #[s, x], argTypes := #[t, t] })
    (base : Nat) (e : TypeId) (size bytes : Nat) (E : ElemT P t e size bytes)
    (v : Value) (n : Nat) (xs : List Value) (hs : a.eval s = v) (hown : w.ownsRow base e size v n xs)
    (A : Option Addr) (m c : Nat) (news : List Value) (hx : a.eval x = .slice A m c) (hr : Rd w size A m news) (h1 : ∀ u ∈ news, u.oneCell' = true)
    (hbytes : (n + m) * bytes ≤ 140737488355328) (h63 : n + m ≤ maxLen) (hbase : base ≤ w.heap.size) (hnil : A = none → m = 0)
    (h : ∀ v' w', w'.ownsRow base e size v' (n + m) (xs ++ news) → w.grownBy w' v.ownBlock → (v'.ownBlock = v.ownBlock ∨ v'.ownBlock = some w.heap.size) → wpList P ops Q rest (a.put o.dst v') w') : wpList P ops Q (o :: rest) a w :=
  wpList_plain hgd fun _ hK => wp_append_rd w s x t ho base e size bytes E v n xs hs hown A m c news hx hr h1 hbytes h63 hbase hnil fun v' w' h2 h3 h4 => hK _ _ (h v' w' h2 h3 h4)
end

section
variable {P : Program} (w : World)
theorem wpList_wanted {ops : Array Oper} {rest : List Oper} {o : Oper} {a : Act} {Q : Exit → Act → World → Prop} {w : World} (hw : Region.wanted o (yielded ops a.tmps) = true)
    (h : ∀ K : Act → World → Prop, (∀ a w, wpList P ops Q rest a w → K a w) → o.wp P a w K Q) : wpList P ops Q (o :: rest) a w :=
  wpList_step fun K hK => by rw [if_pos hw]; exact h K hK
/-- The same law where the operation is guarded, and its guard says yes. -/
theorem wpList_append_rdg {ops : Array Oper} {rest : List Oper} {o : Oper} {a : Act} {Q : Exit → Act → World → Prop} (hgd : Region.wanted o (yielded ops a.tmps) = true) (s x : Operand) (t : TypeId)
    (ho : o.op = .call { callee := .builtin .append, args := #[s, x], argTypes := #[t, t] })
    (base : Nat) (e : TypeId) (size bytes : Nat) (E : ElemT P t e size bytes)
    (v : Value) (n : Nat) (xs : List Value) (hs : a.eval s = v) (hown : w.ownsRow base e size v n xs)
    (A : Option Addr) (m c : Nat) (news : List Value) (hx : a.eval x = .slice A m c) (hr : Rd w size A m news) (h1 : ∀ u ∈ news, u.oneCell' = true)
    (hbytes : (n + m) * bytes ≤ 140737488355328) (h63 : n + m ≤ maxLen) (hbase : base ≤ w.heap.size) (hnil : A = none → m = 0)
    (h : ∀ v' w', w'.ownsRow base e size v' (n + m) (xs ++ news) → w.grownBy w' v.ownBlock → (v'.ownBlock = v.ownBlock ∨ v'.ownBlock = some w.heap.size) → wpList P ops Q rest (a.put o.dst v') w') : wpList P ops Q (o :: rest) a w :=
  wpList_wanted hgd fun _ hK => wp_append_rd w s x t ho base e size bytes E v n xs hs hown A m c news hx hr h1 hbytes h63 hbase hnil fun v' w' h2 h3 h4 => hK _ _ (h v' w' h2 h3 h4)
end
/-- The same law inside a region that draws its order. -/
theorem step_append_rd {P : Program} {w : World} {ops : Array Oper} {o : Oper} {a : Act} {K : Act → World → Prop} {Q : Exit → Act → World → Prop} {E : Prop} (hgd : Region.wanted o (yielded ops a.tmps) = true) (s x : Operand) (t : TypeId)
    (ho : o.op = .call { callee := .builtin .append, args := #[s, x], argTypes := #[t, t] })
    (base : Nat) (e : TypeId) (size bytes : Nat) (ET : ElemT P t e size bytes)
    (v : Value) (n : Nat) (xs : List Value) (hs : a.eval s = v) (hown : w.ownsRow base e size v n xs)
    (A : Option Addr) (m c : Nat) (news : List Value) (hx : a.eval x = .slice A m c) (hr : Rd w size A m news) (h1 : ∀ u ∈ news, u.oneCell' = true)
    (hbytes : (n + m) * bytes ≤ 140737488355328) (h63 : n + m ≤ maxLen) (hbase : base ≤ w.heap.size) (hnil : A = none → m = 0)
    (h : ∀ v' w', w'.ownsRow base e size v' (n + m) (xs ++ news) → w.grownBy w' v.ownBlock → (v'.ownBlock = v.ownBlock ∨ v'.ownBlock = some w.heap.size) → K (a.put o.dst v') w') :
    if Region.wanted o (yielded ops a.tmps) = true then Oper.wp P o a w K Q else E := by
  rw [if_pos hgd]
  exact wp_append_rd w s x t ho base e size bytes ET v n xs hs hown A m c news hx hr h1 hbytes h63 hbase hnil h
/-- 'make([]T, n)' of one-cell elements: an equation for every world. -/
theorem make_one {P : Program} {t e : TypeId} {z : Value} {bytes : Nat} (ht : P.underlying t = some (.slice e)) (h : (P.info? e).map (fun i => (i.zero, i.size, i.bytes)) = some (some z, 1, bytes)) (hz : z.cells = #[z])
    (n : Nat) (hb : bytes * n ≤ 281474976710656) (hm : n ≤ maxLen) :
    ∃ cs : Array Value, cs.size = n ∧ cs.toList = List.replicate n z ∧ ∀ (kl kc : IntKind) (W : World), (Instr.makeSlice t (.int kl (n : Int)) (.int kc (n : Int))).run P W = .ok (.slice (some ⟨W.heap.size, 0, none⟩) n n) (W.alloc (.cells cs e)) := by
  obtain ⟨i, hi, h1, h2, h3⟩ := info_parts h
  refine ⟨madeCells z.cells (n * i.size), by rw [size_madeCells, h2, Nat.mul_one], ?_, fun kl kc W => ?_⟩
  · rw [h2, Nat.mul_one, hz]
    apply List.ext_getElem
    · simp [madeCells]
    · intro j h1 h2
      simp [madeCells, Nat.mod_one]
  · have hb' : (i.bytes : Int) * (n : Int) ≤ 281474976710656 := by
      rw [h3]
      have h : ((bytes * n : Nat) : Int) ≤ 281474976710656 := by omega
      rwa [Int.natCast_mul] at h
    have hm' : n ≤ 9223372036854775807 := by simp only [maxLen] at hm; omega
    have hr := run_make (P := P) W t e i z ht hi h1 kl kc n n (by omega) (by omega) hb' (by omega)
    simp only [Int.toNat_natCast] at hr
    exact hr
/-- A new block that holds just its own cells is a row of the call's own. -/
theorem own_new (w : World) (cs : Array Value) (e : TypeId) (size n base : Nat) (h : cs.size = n * size) (hm : n ≤ maxLen) (hb : base ≤ w.heap.size) :
    (w.alloc (.cells cs e)).ownsRow base e size (.slice (some ⟨w.heap.size, 0, none⟩) n n) n cs.toList := by
  refine ⟨by simpa using h, .inr ⟨_, n, cs, rfl, hb, heap_alloc_new w _, Nat.le_refl _, hm, h, ?_⟩⟩
  rw [List.take_of_length_le (by simp [h])]
theorem below_drewN {B : Nat} {a w : World} (h : Below B a w) (n : Nat) : Below B a (w.drewN n) := ⟨h.os, h.tape, h.output, h.size, h.block⟩
/-- 's == nil' of a slice. -/
theorem eql_slice_nil_any {P : Program} {t e : TypeId} (h : P.underlying t = some (.slice e)) (w : World) (a : Option Addr) (n c n' c' : Nat) :
    (binOp .eql t (.slice a n c) (.slice none n' c')).run P w = .ok (.bool a.isNone) w := by
  simp only [binOp]
  simp [Op.equal, Op.maxDepth, Lib.run_equalIn_slice_nil w 9999 t e a n c n' c' h]
/-- An own row stays while only new blocks are made and written. -/
theorem own_below {w w' : World} {base : Nat} {e : TypeId} {size n : Nat} {v : Value} {xs : List Value} (h : w.ownsRow base e size v n xs) (hb : Below w.heap.size w w') : w'.ownsRow base e size v n xs := by
  refine ⟨h.1, ?_⟩
  rcases h.2 with h0 | ⟨g, cap, cur, hv, hbase, hh, hr⟩
  · exact .inl h0
  · have hlt : g < w.heap.size := by
      rcases Nat.lt_or_ge g w.heap.size with hlt | hge
      · exact hlt
      · rw [Array.getElem?_eq_none hge] at hh; cases hh
    exact .inr ⟨g, cap, cur, hv, hbase, (hb.block g hlt).trans hh, hr⟩
/-- A call's own row: in blocks from B on. -/
theorem own_grown {B : Nat} {a w w' : World} {e : TypeId} {size n : Nat} {v : Value} {xs : List Value} (h : Below B a w) (ho : w.ownsRow B e size v n xs) (hg : w.grownBy w' v.ownBlock) (hB : B ≤ w.heap.size) : Below B a w' :=
  h.grown hg hB fun _ hk => (ho.lt _ hk).1
end Go.Proofs.Ytblljpdlmllceaa
/-
  Words for bytes in memory.
-/
namespace Go.Proofs.Ytblljpdlmllceaa
open Go.RowKit
/-- A byte as a cell. -/
def bv (u : UInt8) : Value := .int .u8 (u.toNat : Int)
def bvs (l : List UInt8) : List Value := l.map bv
theorem bvs_one (l : List UInt8) : ∀ u ∈ bvs l, u.oneCell' = true := by
  intro u hu
  obtain ⟨x, _, rfl⟩ := List.mem_map.1 hu
  rfl
theorem bvs_length (l : List UInt8) : (bvs l).length = l.length := List.length_map _
theorem Rd.byte {w : World} {A : Option Addr} {l : List UInt8} (h : Rd w 1 A l.length (bvs l)) {k : Nat} (hk : k < l.length) :
    ∃ b o, A = some ⟨b, o, none⟩ ∧ w.cell? ⟨b, o + k, none⟩ = some (.int .u8 (l[k].toNat : Int)) := by
  obtain ⟨b, o, e, hc⟩ := h.2 (by rw [bvs_length]; omega)
  exact ⟨b, o, e, hc k _ (by simp [bvs, bv, hk])⟩
/-- 'string(b)' where b reads as these bytes. -/
theorem run_str_rd {P : Program} {w : World} (src dst e : TypeId) {A : Option Addr} (c : Nat) {l : List UInt8} (hs : P.underlying src = some (.slice e)) (he : P.underlying e = some (.int .u8)) (hd : P.underlying dst = some .string)
    (hA : A = none → l.length = 0) (h : Rd w 1 A l.length (bvs l)) : (convert src dst (.slice A l.length c)).run P w = .ok (.string ⟨l.toArray⟩) w := by
  rcases A with _ | a
  · have hl : l = [] := List.eq_nil_of_length_eq_zero (hA rfl)
    subst hl
    exact run_convert_bytes_nil w src e hs he _ _ dst hd
  · refine run_convert_bytes_back w src dst e a c l hs he hd fun j hj => ?_
    obtain ⟨b, o, hb, hc⟩ := h.byte hj
    injection hb with hb
    subst hb
    rw [add_plain]; exact hc
theorem run_str_n {P : Program} {w : World} (src dst e : TypeId) {A : Option Addr} {n : Nat} (c : Nat) {l : List UInt8} (hn : l.length = n) (hs : P.underlying src = some (.slice e)) (he : P.underlying e = some (.int .u8)) (hd : P.underlying dst = some .string)
    (hA : A = none → n = 0) (h : Rd w 1 A n (bvs l)) : (convert src dst (.slice A n c)).run P w = .ok (.string ⟨l.toArray⟩) w := by
  subst hn
  exact run_str_rd src dst e c hs he hd hA h
theorem own_nil {w : World} {base n c size : Nat} {e : TypeId} {A : Option Addr} {xs : List Value} (h : w.ownsRow base e size (.slice A n c) n xs) : A = none → n = 0 := by
  rintro rfl
  rcases h.2 with ⟨_, h⟩ | ⟨g, cap, cur, h, _⟩
  · exact h
  · cases h
theorem own_cap {w : World} {base n c size : Nat} {e : TypeId} {A : Option Addr} {xs : List Value} (h : w.ownsRow base e size (.slice A n c) n xs) : n ≤ c := by
  rcases h.2 with ⟨h, h0⟩ | ⟨g, cap, cur, h, _, _, hn, _⟩
  · omega
  · injection h with _ _ h3; omega
theorem own_form {w : World} {base n size : Nat} {e : TypeId} {v : Value} {xs : List Value} (h : w.ownsRow base e size v n xs) : ∃ A c, v = .slice A n c := by
  rcases h.2 with ⟨hv, h0⟩ | ⟨g, cap, cur, hv, _, _, hn, _⟩
  · exact ⟨none, 0, by rw [h0]; exact hv⟩
  · exact ⟨_, _, hv⟩
end Go.Proofs.Ytblljpdlmllceaa
/-
  Rows of records: a list whose elements stand in memory as some cells each.
-/
namespace Go.Proofs.Ytblljpdlmllceaa
open Go.RowKit
section
variable {α : Type} {enc : α → List Value} {k : Nat}
theorem rec_append (a b : List α) : (a ++ b).flatMap enc = a.flatMap enc ++ b.flatMap enc := List.flatMap_append ..
theorem rec_len (hk : ∀ x, (enc x).length = k) (L : List α) : (L.flatMap enc).length = L.length * k := by
  induction L with
  | nil => simp
  | cons y L ih =>
    rw [List.flatMap_cons, List.length_append, ih, hk, List.length_cons, Nat.add_mul, Nat.one_mul, Nat.add_comm]
theorem rec_at (hk : ∀ x, (enc x).length = k) {L : List α} {i : Nat} {x : α} (hx : L[i]? = some x) (j : Nat) (hj : j < k) : (L.flatMap enc)[i * k + j]? = (enc x)[j]? := by
  induction L generalizing i with
  | nil => simp at hx
  | cons y L ih =>
    rw [List.flatMap_cons]
    cases i with
    | zero =>
      simp at hx; subst hx
      rw [List.getElem?_append_left (by rw [hk]; omega)]; simp
    | succ i =>
      simp at hx
      rw [List.getElem?_append_right (by rw [hk, Nat.succ_mul]; omega), hk, show (i + 1) * k + j - k = i * k + j from by rw [Nat.succ_mul]; omega]
      exact ih hx
theorem rec_take (hk : ∀ x, (enc x).length = k) (L : List α) (i : Nat) : (L.flatMap enc).take (i * k) = (L.take i).flatMap enc := by
  rcases Nat.lt_or_ge i L.length with hi | hi
  · have h : L.flatMap enc = (L.take i).flatMap enc ++ (L.drop i).flatMap enc := by rw [← rec_append, List.take_append_drop]
    rw [h, List.take_left' (by rw [rec_len hk, List.length_take, Nat.min_eq_left (by omega)])]
  · rw [List.take_of_length_le (by rw [rec_len hk]; exact Nat.mul_le_mul_right _ hi), List.take_of_length_le hi]
theorem rec_drop (hk : ∀ x, (enc x).length = k) (L : List α) (i : Nat) : (L.flatMap enc).drop (i * k) = (L.drop i).flatMap enc := by
  rcases Nat.lt_or_ge i L.length with hi | hi
  · have h : L.flatMap enc = (L.take i).flatMap enc ++ (L.drop i).flatMap enc := by rw [← rec_append, List.take_append_drop]
    rw [h, List.drop_left' (by rw [rec_len hk, List.length_take, Nat.min_eq_left (by omega)])]
  · rw [List.drop_of_length_le (by rw [rec_len hk]; exact Nat.mul_le_mul_right _ hi), List.drop_of_length_le hi]; rfl
theorem rec_one (h1 : ∀ x, ∀ u ∈ enc x, u.oneCell' = true) (L : List α) : ∀ u ∈ L.flatMap enc, u.oneCell' = true := by
  intro u hu
  obtain ⟨x, _, hu⟩ := List.mem_flatMap.1 hu
  exact h1 x u hu
theorem rec_set (hk : ∀ x, (enc x).length = k) {L : List α} {i : Nat} (hi : i < L.length) (x : α) : (L.set i x).flatMap enc = (L.flatMap enc).take (i * k) ++ enc x ++ (L.flatMap enc).drop ((i + 1) * k) := by
  rw [rec_take hk, rec_drop hk, List.set_eq_take_append_cons_drop, if_pos hi, rec_append, List.flatMap_cons, List.append_assoc]
end
/-- A new block, its number given. -/
theorem Rd.newAt (w : World) (cs : Array Value) (t : TypeId) (n size b : Nat) (fz : Nat × Nat) (h : cs.size = n * size) (hb : b = w.heap.size) : Rd (w.alloc (.cells cs t fz)) size (some ⟨b, 0, none⟩) n cs.toList := by
  subst hb
  exact Rd.new w cs t n fz h
section
variable {w : World} {base : Nat} {e : TypeId} {size : Nat} {g n cap : Nat} {xs : List Value}
/-- A cell of an own row is written. -/
theorem own_setCell (ho : w.ownsRow base e size (.slice (some ⟨g, 0, none⟩) n cap) n xs) (j : Nat) (u : Value) :
    (w.setCell ⟨g, j, none⟩ u).ownsRow base e size (.slice (some ⟨g, 0, none⟩) n cap) n (xs.set j u) := by
  refine ⟨by rw [List.length_set]; exact ho.1, .inr ?_⟩
  rcases ho.2 with ⟨h, _⟩ | ⟨g', cap', cur, hv, hb, hh, hn, hm, hc, ht⟩
  · cases h
  · injection hv with h1 _ h3
    injection h1 with h1
    injection h1 with h1
    subst h1; subst h3
    have h2 := heap_setCell_same w g j _ _ u hh
    refine ⟨g, cap, _, rfl, hb, h2, hn, hm, by simpa using hc, ?_⟩
    rw [← ht]
    simp only [Array.toList_setIfInBounds, List.take_set]
end
end Go.Proofs.Ytblljpdlmllceaa
/-
  Words for a row that is turned in place: append within the capacity, clear.
-/
namespace Go.Proofs.Ytblljpdlmllceaa
open Go.RowKit
section
variable {P : Program}
/-- append within the capacity, inside a region that draws its order. -/
theorem step_append_in {w : World} {ops : Array Oper} {o : Oper} {a : Act} {K : Act → World → Prop} {Q : Exit → Act → World → Prop} {E : Prop} (hgd : Region.wanted o (yielded ops a.tmps) = true) (s x : Operand) (t : TypeId)
    (ho : o.op = .call { callee := .builtin .append, args := #[s, x], argTypes := #[t, t] })
    (e : TypeId) (size bytes : Nat) (ET : ElemT P t e size bytes) (g n cap : Nat) (cur : Array Value) (hg : w.heap[g]? = some (.cells cur e (0, 0)))
    (hs : a.eval s = .slice (some ⟨g, 0, none⟩) n cap) (ad : Addr) (m c : Nat) (news : List Value) (hx : a.eval x = .slice (some ad) m c) (hr : Rd w size (some ad) m news) (h1 : ∀ u ∈ news, u.oneCell' = true)
    (hroom : n + m ≤ cap) (hcur : cur.size = cap * size)
    (h : K (a.put o.dst (.slice (some ⟨g, 0, none⟩) (n + m) cap)) (w.setRow g (cur.toList.take (n * size) ++ news ++ cur.toList.drop (n * size + news.length)).toArray)) :
    if Region.wanted o (yielded ops a.tmps) = true then Oper.wp P o a w K Q else E := by
  rw [if_pos hgd]
  obtain ⟨ht, i, z, hi, hz, hsize, hby, hzs, hsz⟩ := ET
  have hcells : ∀ j u, news[j]? = some u → w.cell? (ad.add j) = some u := by
    intro j u hu
    have hl : 0 < news.length := by have := (List.getElem?_eq_some_iff.1 hu).1; omega
    obtain ⟨b, o, he, hc⟩ := hr.2 hl
    injection he with he
    subst he
    rw [add_plain]
    exact hc j u hu
  have hle : (n + m) * size ≤ cap * size := Nat.mul_le_mul_right _ hroom
  have hfit : n * i.size + news.length ≤ cur.size := by rw [hsize, hr.1, hcur, ← Nat.add_mul]; exact hle
  have hrun := run_append_room (P := P) w t o.type e i ht hi g n cap cur hg ad m c news (by rw [hr.1, hsize]) hcells h1 hroom hfit
  rw [hsize] at hrun
  unfold Oper.wp execOp
  simp only [ho, resolve, invoke, builtin, Sem.run_bind, Sem.run_pure, Result.andThen_ok, List.map_toArray, List.map_cons, List.map_nil, hs, hx, hrun]
  exact h
/-- 'clear' of a piece of a row. -/
theorem run_clear_row (t e ty : TypeId) (z : Value) (size : Nat) (ht : P.underlying t = some (.slice e)) (hv : ∀ w, (zeroValue e).run P w = .ok z w) (hz : z.cells.size = size) (h1 : ∀ u ∈ z.cells, u.oneCell' = true) (hsz : 0 < size)
    (w : World) (g o n c : Nat) (cur : Array Value) (hn : 0 < n) (hg : w.heap[g]? = some (.cells cur e (0, 0))) (hfit : o + n * size ≤ cur.size) :
    (Builtin.clear_ #[t] ty #[.slice (some ⟨g, o, none⟩) n c]).run P w =
      .ok (.tuple #[]) (w.setRow g (cur.toList.take o ++ (Builtin.zeroCells z.cells n).toList ++ cur.toList.drop (o + (Builtin.zeroCells z.cells n).toList.length)).toArray) := by
  have hlen : (Builtin.zeroCells z.cells n).toList.length = n * size := by rw [Array.length_toList, size_zeroCells, hz]
  have hone : ∀ v ∈ (Builtin.zeroCells z.cells n).toList, v.oneCell' = true := by
    intro v hv'
    obtain ⟨k, hk, rfl⟩ := List.getElem_of_mem hv'
    have hk' : k < n * z.cells.size := by rw [hlen] at hk; rw [hz]; exact hk
    have hm : k % z.cells.size < z.cells.size := Nat.mod_lt _ (by omega)
    refine h1 _ ?_
    simp [Builtin.zeroCells, hm]
  have hst := run_storeCells_at P g o e (Builtin.zeroCells z.cells n).toList 0 cur w hg (by rw [hlen]; omega) hone
  simp only [Nat.add_zero] at hst
  obtain ⟨m, rfl⟩ : ∃ m, n = m + 1 := ⟨n - 1, by omega⟩
  simp [Builtin.clear_, run_underlying ht, hv, hst]
/-- Whole knowledge of an own row that is not nil. -/
theorem own_row {w : World} {base : Nat} {e : TypeId} {size n g cap : Nat} {xs : List Value} (h : w.ownsRow base e size (.slice (some ⟨g, 0, none⟩) n cap) n xs) :
    ∃ cur, base ≤ g ∧ w.heap[g]? = some (.cells cur e (0, 0)) ∧ n ≤ cap ∧ cap ≤ maxLen ∧ cur.size = cap * size ∧ cur.toList.take (n * size) = xs := by
  rcases h.2 with ⟨h0, _⟩ | ⟨g', cap', cur, hv, hb, hh, hn, hm, hc, ht⟩
  · cases h0
  · injection hv with h1 _ h3
    injection h1 with h1
    injection h1 with h1
    subst h1; subst h3
    exact ⟨cur, hb, hh, hn, hm, hc, ht⟩
end
end Go.Proofs.Ytblljpdlmllceaa
/-
  A region that draws its order, where calls make memory: an operation that yields one value in every world that has grown out of the world at hand may be taken first; a call is taken where nothing else may come up.
-/
namespace Go.Proofs.Ytblljpdlmllceaa
open Go.RowKit
/-- The worlds that have grown out of w: what stood stands. -/
def Later (w W : World) : Prop := Below w.heap.size w W
theorem Later.refl (w : World) : Later w w := Below.refl _ _
theorem Later.trans {a b c : World} (h : Later a b) (k : Later b c) : Later a c := Below.trans h (Below.mono k (Below.size h))
/-- Every world may come. -/
def Always (_ _ : World) : Prop := True
/-- A relation of worlds that stays, and adds up. -/
structure Steady (R : World → World → Prop) : Prop where
  refl : ∀ w, R w w
  trans : ∀ {a b c}, R a b → R b c → R a c
theorem Later.steady : Steady Later := ⟨Later.refl, Later.trans⟩
theorem Always.steady : Steady Always := ⟨fun _ => trivial, fun _ _ => trivial⟩
theorem later_cell {w : World} {b o : Nat} {u : Value} (h : w.cell? ⟨b, o, none⟩ = some u) : ∀ W, Later w W → W.cell? ⟨b, o, none⟩ = some u := fun _ hW => (hW.cell (cell_lt h)).trans h
theorem later_drew_cell {w : World} {b o : Nat} {u : Value} (h : w.cell? ⟨b, o, none⟩ = some u) : ∀ W, Later w.drew W → W.cell? ⟨b, o, none⟩ = some u := later_cell (w := w.drew) h
section
variable {P : Program} {ops : Array Oper} {Q : Exit → Act → World → Prop} {md : Region.Mode} {R : World → World → Prop}
/-- Whatever order is picked from here on, and each operation leaves what stood. -/
def wpAnyR (P : Program) (md : Region.Mode) (ops : Array Oper) (Q : Exit → Act → World → Prop) (R : World → World → Prop) : Nat → Array Bool → Act → World → Prop
  | 0, listed, a, w => Region.ready md ops listed = [] ∧ Q .normal a w
  | fuel + 1, listed, a, w =>
    (Region.ready md ops listed = [] → Q .normal a w) ∧
    ∀ i ∈ Region.ready md ops listed, wpOp P ops Q i (fun a' w' => R w w' ∧ wpAnyR P md ops Q R fuel (listed.setIfInBounds i true) a' w') a w
theorem wpAny_of_r : ∀ (fuel : Nat) (listed : Array Bool) (a : Act) (w : World), wpAnyR P md ops Q R fuel listed a w → wpAny P md ops Q fuel listed a w
  | 0, _, _, _, h => h
  | fuel + 1, _, _, _, h => ⟨h.1, fun i hi => wpOp_mono (fun a' w' h' => wpAny_of_r fuel _ a' w' h'.2) (h.2 i hi)⟩
theorem yieldsIf_later (hR : Steady R) {o : Oper} {v : Value} {a : Act} {w w' : World} (h : YieldsIf P ops (R w) o v a) (hl : R w w') : YieldsIf P ops (R w') o v a :=
  h.imp (fun ⟨hw, hv⟩ => ⟨hw, fun W hW => hv W (hR.trans hl hW)⟩) id
theorem wpAnyR_first (hR : Steady R) {i : Nat} {oi : Oper} {v : Value} (hi : ops[i]? = some oi) (hsel : ∀ (j : Nat) (o : Oper) cs b, ops[j]? = some o → o.op ≠ .select cs b)
    (hQ : ∀ c a w, Q (.panic c) (a.put oi.dst v) w → Q (.panic c) a w) :
    ∀ (fuel : Nat) (listed : Array Bool) (a : Act) (w : World),
      (∀ j oj, ops[j]? = some oj → j ≠ i → listed.getD j true = false → (∀ e ∈ oj.after, Region.binds md e = true → e.on ≠ i) → oi.apart ops oj = true) →
      i ∈ Region.ready md ops listed → YieldsIf P ops (R w) oi v a →
      wpAnyR P md ops Q R fuel (listed.setIfInBounds i true) (a.put oi.dst v) w → wpAnyR P md ops Q R (fuel + 1) listed a w := by
  intro fuel
  induction fuel with
  | zero =>
    intro listed a w _ hr hy H
    refine ⟨fun h => (by rw [h] at hr; cases hr), fun j hj => ?_⟩
    by_cases hji : j = i
    · subst hji; exact hy.wpOp hi (hR.refl w) ⟨hR.refl w, H⟩
    · have := ready_mono hj hji
      rw [H.1] at this
      cases this
  | succ fuel ih =>
    intro listed a w hfree hr hy H
    refine ⟨fun h => (by rw [h] at hr; cases hr), fun j hj => ?_⟩
    by_cases hji : j = i
    · subst hji; exact hy.wpOp hi (hR.refl w) ⟨hR.refl w, H⟩
    · have h1 := H.2 j (ready_mono hj hji)
      obtain ⟨hjun, oj, hoj, hall⟩ := mem_ready.1 hj
      have hnot : ∀ e ∈ oj.after, Region.binds md e = true → e.on ≠ i := fun e he hb heq => by
        have h1 := hall e he hb
        have h0 := (mem_ready.1 hr).1
        rw [heq] at h1
        rcases Nat.lt_or_ge i listed.size with h' | h'
        · simp [h'] at h0 h1; rw [h0] at h1; cases h1
        · simp [Array.getElem?_eq_none h'] at h1
      have h2 := wpOp_putIf hoj (hfree j oj hoj hji hjun hnot) (fun cs b => hsel i oi cs b hi) (fun cs b => hsel j oj cs b hoj) hQ hy h1
      have hfree' : ∀ k ok, ops[k]? = some ok → k ≠ i → (listed.setIfInBounds j true).getD k true = false →
          (∀ e ∈ ok.after, Region.binds md e = true → e.on ≠ i) → oi.apart ops ok = true := fun k ok hk hki hun hno => by
        refine hfree k ok hk hki ?_ hno
        by_cases hjk : j = k
        · subst hjk; exact hjun
        · rw [getD_set_ne true hjk] at hun; exact hun
      refine wpOp_mono (fun a' w' h3 => ⟨h3.2.1, ih (listed.setIfInBounds j true) a' w' hfree' (ready_mono hr (Ne.symm hji)) (yieldsIf_later hR h3.1 h3.2.1) ?_⟩) h2
      rw [Array.setIfInBounds_comm _ _ hji]
      exact h3.2.2
theorem op_of_drop {i : Nat} {o : Oper} {rest : List Oper} (h : ops.toList.drop i = o :: rest) : ops[i]? = some o := by
  have e : (ops.toList.drop i)[0]? = some o := by rw [h]; rfl
  rw [List.getElem?_drop, Nat.add_zero] at e
  rw [← Array.getElem?_toList]; exact e
/-- Number i is taken first: it is wanted, and yields v in every later world. -/
theorem wpAnyR_take (hR : Steady R) (i : Nat) {oi : Oper} {rest : List Oper} {v : Value} {fuel : Nat} {listed : Array Bool} {a : Act} {w : World} (hi : ops.toList.drop i = oi :: rest)
    (hs : Region.noSelect ops = true) (hf : Region.free md ops listed i = true) (hr : (Region.ready md ops listed).contains i = true)
    (hQ : ∀ c a w, Q (.panic c) (a.put oi.dst v) w → Q (.panic c) a w) (hw : Region.wanted oi (yielded ops a.tmps) = true)
    (hy : ∀ W, R w W → (execOp a.eval oi).run P W = .ok (.value v) W)
    (h : wpAnyR P md ops Q R fuel (listed.setIfInBounds i true) (a.put oi.dst v) w) : wpAnyR P md ops Q R (fuel + 1) listed a w :=
  wpAnyR_first hR (op_of_drop hi) (Region.noSelect_spec hs) hQ fuel listed a w (Region.free_spec (op_of_drop hi) hf) (by simpa using hr) (.inl ⟨hw, hy⟩) h
/-- Number i is passed over: its guard says no. -/
theorem wpAnyR_skip (hR : Steady R) (i : Nat) {oi : Oper} {rest : List Oper} {fuel : Nat} {listed : Array Bool} {a : Act} {w : World} (hi : ops.toList.drop i = oi :: rest)
    (hs : Region.noSelect ops = true) (hf : Region.free md ops listed i = true) (hr : (Region.ready md ops listed).contains i = true)
    (hQ : ∀ c a w, Q (.panic c) (a.put oi.dst undef) w → Q (.panic c) a w) (hw : Region.wanted oi (yielded ops a.tmps) = false)
    (h : wpAnyR P md ops Q R fuel (listed.setIfInBounds i true) (a.put oi.dst undef) w) : wpAnyR P md ops Q R (fuel + 1) listed a w :=
  wpAnyR_first hR (op_of_drop hi) (Region.noSelect_spec hs) hQ fuel listed a w (Region.free_spec (op_of_drop hi) hf) (by simpa using hr) (.inr ⟨hw, rfl⟩) h
/-- Number i alone may come up. -/
theorem wpAnyR_one (i : Nat) {o : Oper} {rest : List Oper} {fuel : Nat} {listed : Array Bool} {a : Act} {w : World} (hr : Region.ready md ops listed = [i]) (ho : ops.toList.drop i = o :: rest)
    (h : ∀ K : Act → World → Prop, Shut (∀ a' w', R w w' → wpAnyR P md ops Q R fuel (listed.setIfInBounds i true) a' w' → K a' w') → if Region.wanted o (yielded ops a.tmps) = true then Oper.wp P o a w K Q else K (a.put o.dst undef) w) :
    wpAnyR P md ops Q R (fuel + 1) listed a w := by
  refine ⟨fun h0 => (by rw [hr] at h0; cases h0), fun j hj => ?_⟩
  rw [hr] at hj
  obtain rfl : j = i := by simpa using hj
  exact wpOp_step (op_of_drop ho) fun K hK => h K fun a' w' hl hW => hK a' w' ⟨hl, hW⟩
theorem wpAnyR_done {listed : Array Bool} {a : Act} {w : World} (hr : Region.ready md ops listed = []) (h : Q .normal a w) :
    ∀ fuel, wpAnyR P md ops Q R fuel listed a w
  | 0 => ⟨hr, h⟩
  | _ + 1 => ⟨fun _ => h, by rw [hr]; simp⟩
/-- The beginning. -/
theorem wp_region_r {id : Nat} {a : Act} {w : World} (hm : P.follows .mixedOrders = true)
    (h : wpAnyR P .any ops Q R ops.size (Array.replicate ops.size false) a w.drew) : (Code.region id ops true).wp P Q a w :=
  wp_region_any hm (wpAny_of_r _ _ _ _ h)
end

/-! The two relations that are used: nothing that stood turns; whatever. -/
section
variable {P : Program} {ops : Array Oper} {Q : Exit → Act → World → Prop} {md : Region.Mode}
abbrev wpAnyK (P : Program) (md : Region.Mode) (ops : Array Oper) (Q : Exit → Act → World → Prop) := wpAnyR P md ops Q Later
abbrev wpAnyT (P : Program) (md : Region.Mode) (ops : Array Oper) (Q : Exit → Act → World → Prop) := wpAnyR P md ops Q Always
theorem wpAnyK_take (i : Nat) {oi : Oper} {rest : List Oper} {v : Value} {fuel : Nat} {listed : Array Bool} {a : Act} {w : World} (hi : ops.toList.drop i = oi :: rest)
    (hs : Region.noSelect ops = true) (hf : Region.free md ops listed i = true) (hr : (Region.ready md ops listed).contains i = true)
    (hQ : ∀ c a w, Q (.panic c) (a.put oi.dst v) w → Q (.panic c) a w) (hw : Region.wanted oi (yielded ops a.tmps) = true)
    (hy : ∀ W, Later w W → (execOp a.eval oi).run P W = .ok (.value v) W)
    (h : wpAnyR P md ops Q Later fuel (listed.setIfInBounds i true) (a.put oi.dst v) w) : wpAnyR P md ops Q Later (fuel + 1) listed a w := wpAnyR_take Later.steady i hi hs hf hr hQ hw hy h
theorem wpAnyK_skip (i : Nat) {oi : Oper} {rest : List Oper} {fuel : Nat} {listed : Array Bool} {a : Act} {w : World} (hi : ops.toList.drop i = oi :: rest)
    (hs : Region.noSelect ops = true) (hf : Region.free md ops listed i = true) (hr : (Region.ready md ops listed).contains i = true)
    (hQ : ∀ c a w, Q (.panic c) (a.put oi.dst undef) w → Q (.panic c) a w) (hw : Region.wanted oi (yielded ops a.tmps) = false)
    (h : wpAnyR P md ops Q Later fuel (listed.setIfInBounds i true) (a.put oi.dst undef) w) : wpAnyR P md ops Q Later (fuel + 1) listed a w := wpAnyR_skip Later.steady i hi hs hf hr hQ hw h
theorem wpAnyK_one (i : Nat) {o : Oper} {rest : List Oper} {fuel : Nat} {listed : Array Bool} {a : Act} {w : World} (hr : Region.ready md ops listed = [i]) (ho : ops.toList.drop i = o :: rest)
    (h : ∀ K : Act → World → Prop, Shut (∀ a' w', Later w w' → wpAnyR P md ops Q Later fuel (listed.setIfInBounds i true) a' w' → K a' w') → if Region.wanted o (yielded ops a.tmps) = true then Oper.wp P o a w K Q else K (a.put o.dst undef) w) :
    wpAnyR P md ops Q Later (fuel + 1) listed a w := wpAnyR_one i hr ho h
theorem wpAnyK_done {listed : Array Bool} {a : Act} {w : World} (hr : Region.ready md ops listed = []) (h : Q .normal a w) (fuel : Nat) : wpAnyR P md ops Q Later fuel listed a w := wpAnyR_done hr h fuel
theorem wp_region_k {id : Nat} {a : Act} {w : World} (hm : P.follows .mixedOrders = true)
    (h : wpAnyR P .any ops Q Later ops.size (Array.replicate ops.size false) a w.drew) : (Code.region id ops true).wp P Q a w := wp_region_r hm h
theorem wpAnyT_take (i : Nat) {oi : Oper} {rest : List Oper} {v : Value} {fuel : Nat} {listed : Array Bool} {a : Act} {w : World} (hi : ops.toList.drop i = oi :: rest)
    (hs : Region.noSelect ops = true) (hf : Region.free md ops listed i = true) (hr : (Region.ready md ops listed).contains i = true)
    (hQ : ∀ c a w, Q (.panic c) (a.put oi.dst v) w → Q (.panic c) a w) (hw : Region.wanted oi (yielded ops a.tmps) = true)
    (hy : ∀ W, Always w W → (execOp a.eval oi).run P W = .ok (.value v) W)
    (h : wpAnyR P md ops Q Always fuel (listed.setIfInBounds i true) (a.put oi.dst v) w) : wpAnyR P md ops Q Always (fuel + 1) listed a w := wpAnyR_take Always.steady i hi hs hf hr hQ hw hy h
theorem wpAnyT_skip (i : Nat) {oi : Oper} {rest : List Oper} {fuel : Nat} {listed : Array Bool} {a : Act} {w : World} (hi : ops.toList.drop i = oi :: rest)
    (hs : Region.noSelect ops = true) (hf : Region.free md ops listed i = true) (hr : (Region.ready md ops listed).contains i = true)
    (hQ : ∀ c a w, Q (.panic c) (a.put oi.dst undef) w → Q (.panic c) a w) (hw : Region.wanted oi (yielded ops a.tmps) = false)
    (h : wpAnyR P md ops Q Always fuel (listed.setIfInBounds i true) (a.put oi.dst undef) w) : wpAnyR P md ops Q Always (fuel + 1) listed a w := wpAnyR_skip Always.steady i hi hs hf hr hQ hw h
theorem wpAnyT_one (i : Nat) {o : Oper} {rest : List Oper} {fuel : Nat} {listed : Array Bool} {a : Act} {w : World} (hr : Region.ready md ops listed = [i]) (ho : ops.toList.drop i = o :: rest)
    (h : ∀ K : Act → World → Prop, Shut (∀ a' w', Always w w' → wpAnyR P md ops Q Always fuel (listed.setIfInBounds i true) a' w' → K a' w') → if Region.wanted o (yielded ops a.tmps) = true then Oper.wp P o a w K Q else K (a.put o.dst undef) w) :
    wpAnyR P md ops Q Always (fuel + 1) listed a w := wpAnyR_one i hr ho h
theorem wpAnyT_done {listed : Array Bool} {a : Act} {w : World} (hr : Region.ready md ops listed = []) (h : Q .normal a w) (fuel : Nat) : wpAnyR P md ops Q Always fuel listed a w := wpAnyR_done hr h fuel
theorem wp_region_t {id : Nat} {a : Act} {w : World} (hm : P.follows .mixedOrders = true)
    (h : wpAnyR P .any ops Q Always ops.size (Array.replicate ops.size false) a w.drew) : (Code.region id ops true).wp P Q a w := wp_region_r hm h
end
end Go.Proofs.Ytblljpdlmllceaa
/-
  A region that draws its order, with loud operations (they may turn what stood: append in place, store, a call): an operation that reads memory may be taken first if no loud one can come up ahead of it.
-/
namespace Go.Proofs.Ytblljpdlmllceaa
open Go.RowKit
/-- All that can be listed while number i is not. -/
def unlistedCl (md : Region.Mode) (ops : Array Oper) (i : Nat) : Nat → Array Bool → Array Bool
  | 0, listed => listed
  | n + 1, listed => unlistedCl md ops i n ((Region.ready md ops listed).foldl (fun l j => if j == i then l else l.setIfInBounds j true) listed)
/-- Number i waits for no loud one: C is closed but for i, holds what is listed, and no loud one that is not. -/
def calm (md : Region.Mode) (ops : Array Oper) (loud : List Nat) (listed C : Array Bool) (i : Nat) : Bool :=
  (Region.ready md ops C == [i]) && (List.range listed.size).all (fun j => !(listed.getD j false) || C.getD j false) && loud.all (fun j => !(C.getD j false) || listed.getD j false) && (C.size == listed.size)
section
variable {P : Program} {ops : Array Oper} {Q : Exit → Act → World → Prop} {md : Region.Mode} {loud : List Nat}
/-- Whatever order is picked from here on, and each operation that is not loud leaves what stood. -/
def wpAnyL (P : Program) (md : Region.Mode) (ops : Array Oper) (Q : Exit → Act → World → Prop) (loud : List Nat) : Nat → Array Bool → Act → World → Prop
  | 0, listed, a, w => Region.ready md ops listed = [] ∧ Q .normal a w
  | fuel + 1, listed, a, w =>
    (Region.ready md ops listed = [] → Q .normal a w) ∧
    ∀ i ∈ Region.ready md ops listed, wpOp P ops Q i (fun a' w' => (i ∈ loud ∨ Later w w') ∧ wpAnyL P md ops Q loud fuel (listed.setIfInBounds i true) a' w') a w
theorem wpAny_of_l : ∀ (fuel : Nat) (listed : Array Bool) (a : Act) (w : World), wpAnyL P md ops Q loud fuel listed a w → wpAny P md ops Q fuel listed a w
  | 0, _, _, _, h => h
  | fuel + 1, _, _, _, h => ⟨h.1, fun i hi => wpOp_mono (fun a' w' h' => wpAny_of_l fuel _ a' w' h'.2) (h.2 i hi)⟩
/-- What may come up ahead of i, told by a set that stays: 'In' holds of the list at hand, is kept by each ready one but i, and such a one is not loud. -/
theorem wpAnyL_first {i : Nat} {oi : Oper} {v : Value} (S : World → World → Prop) (hS : Steady S) (In : Array Bool → Prop)
    (hIn : ∀ listed j, In listed → j ∈ Region.ready md ops listed → j ≠ i → In (listed.setIfInBounds j true) ∧ ∀ w w', (j ∈ loud ∨ Later w w') → S w w') (hi : ops[i]? = some oi) (hsel : ∀ (j : Nat) (o : Oper) cs b, ops[j]? = some o → o.op ≠ .select cs b)
    (hQ : ∀ c a w, Q (.panic c) (a.put oi.dst v) w → Q (.panic c) a w) :
    ∀ (fuel : Nat) (listed : Array Bool) (a : Act) (w : World), In listed →
      (∀ j oj, ops[j]? = some oj → j ≠ i → listed.getD j true = false → (∀ e ∈ oj.after, Region.binds md e = true → e.on ≠ i) → oi.apart ops oj = true) →
      i ∈ Region.ready md ops listed → YieldsIf P ops (S w) oi v a →
      wpAnyL P md ops Q loud fuel (listed.setIfInBounds i true) (a.put oi.dst v) w → wpAnyL P md ops Q loud (fuel + 1) listed a w := by
  intro fuel
  induction fuel with
  | zero =>
    intro listed a w _ _ hr hy H
    refine ⟨fun h => (by rw [h] at hr; cases hr), fun j hj => ?_⟩
    by_cases hji : j = i
    · subst hji; exact hy.wpOp hi (hS.refl w) ⟨.inr (Later.refl w), H⟩
    · have := ready_mono hj hji
      rw [H.1] at this
      cases this
  | succ fuel ih =>
    intro listed a w hin hfree hr hy H
    refine ⟨fun h => (by rw [h] at hr; cases hr), fun j hj => ?_⟩
    by_cases hji : j = i
    · subst hji; exact hy.wpOp hi (hS.refl w) ⟨.inr (Later.refl w), H⟩
    · have h1 := H.2 j (ready_mono hj hji)
      obtain ⟨hjun, oj, hoj, hall⟩ := mem_ready.1 hj
      have hnot : ∀ e ∈ oj.after, Region.binds md e = true → e.on ≠ i := fun e he hb heq => by
        have h1 := hall e he hb
        have h0 := (mem_ready.1 hr).1
        rw [heq] at h1
        rcases Nat.lt_or_ge i listed.size with h' | h'
        · simp [h'] at h0 h1; rw [h0] at h1; cases h1
        · simp [Array.getElem?_eq_none h'] at h1
      have h2 := wpOp_putIf hoj (hfree j oj hoj hji hjun hnot) (fun cs b => hsel i oi cs b hi) (fun cs b => hsel j oj cs b hoj) hQ hy h1
      have hfree' : ∀ k ok, ops[k]? = some ok → k ≠ i → (listed.setIfInBounds j true).getD k true = false →
          (∀ e ∈ ok.after, Region.binds md e = true → e.on ≠ i) → oi.apart ops ok = true := fun k ok hk hki hun hno => by
        refine hfree k ok hk hki ?_ hno
        by_cases hjk : j = k
        · subst hjk; exact hjun
        · rw [getD_set_ne true hjk] at hun; exact hun
      obtain ⟨hin', hst⟩ := hIn listed j hin hj hji
      refine wpOp_mono (fun a' w' h3 => ⟨h3.2.1, ih (listed.setIfInBounds j true) a' w' hin' hfree' (ready_mono hr (Ne.symm hji)) (yieldsIf_later hS h3.1 (hst _ _ h3.2.1)) ?_⟩) h2
      rw [Array.setIfInBounds_comm _ _ hji]
      exact h3.2.2
theorem getD_true_of_false {l : Array Bool} {k : Nat} (h : l.getD k false = true) : l.getD k true = true := by
  rcases Nat.lt_or_ge k l.size with hk | hk
  · simp [hk] at h ⊢; exact h
  · simp [Array.getElem?_eq_none hk] at h
theorem calm_in {i : Nat} {l0 C : Array Bool} (hc : calm md ops loud l0 C i = true) :
    (fun l : Array Bool => l.size = C.size ∧ (∀ k, l0.getD k true = true → l.getD k true = true) ∧ ∀ k, l.getD k false = true → C.getD k false = true) l0 ∧
    ∀ (l : Array Bool) (j : Nat), (l.size = C.size ∧ (∀ k, l0.getD k true = true → l.getD k true = true) ∧ ∀ k, l.getD k false = true → C.getD k false = true) → j ∈ Region.ready md ops l → j ≠ i →
      ((l.setIfInBounds j true).size = C.size ∧ (∀ k, l0.getD k true = true → (l.setIfInBounds j true).getD k true = true) ∧ ∀ k, (l.setIfInBounds j true).getD k false = true → C.getD k false = true) ∧ ∀ w w', (j ∈ loud ∨ Later w w') → Later w w' := by
  simp only [calm, Bool.and_eq_true] at hc
  obtain ⟨⟨⟨h1, h2⟩, h3⟩, h4⟩ := hc
  have h1 : Region.ready md ops C = [i] := by simpa using h1
  have h4 : C.size = l0.size := by simpa using h4
  refine ⟨⟨h4.symm, fun k h => h, fun k hk => ?_⟩, fun l j hl hj hji => ?_⟩
  · have hlt : k < l0.size := by
      rcases Nat.lt_or_ge k l0.size with hlt | hge
      · exact hlt
      · simp [Array.getElem?_eq_none hge] at hk
    have := List.all_eq_true.1 h2 k (List.mem_range.2 hlt)
    rw [hk] at this
    simpa using this
  · obtain ⟨hs, hm, hC⟩ := hl
    obtain ⟨hjun, oj, hoj, hall⟩ := mem_ready.1 hj
    have hjs : j < l.size := by
      rcases Nat.lt_or_ge j l.size with hlt | hge
      · exact hlt
      · simp [Array.getElem?_eq_none hge] at hjun
    have hCj : C.getD j false = true := by
      cases hcj : C.getD j false with
      | true => rfl
      | false =>
        exfalso
        have hcj2 : C.getD j true = false := by
          have : j < C.size := by omega
          simp [this] at hcj ⊢; exact hcj
        have : j ∈ Region.ready md ops C := mem_ready.2 ⟨hcj2, oj, hoj, fun e he hb => hC _ (hall e he hb)⟩
        rw [h1] at this
        exact hji (by simpa using this)
    refine ⟨⟨by simpa using hs, fun k hk => ?_, fun k hk => ?_⟩, fun w w' h => ?_⟩
    · by_cases hjk : j = k
      · subst hjk; simp [hjs]
      · rw [getD_set_ne true hjk]; exact hm k hk
    · by_cases hjk : j = k
      · subst hjk; exact hCj
      · rw [getD_set_ne false hjk] at hk; exact hC k hk
    · rcases h with h | h
      · exfalso
        have := List.all_eq_true.1 h3 j h
        rw [hCj] at this
        have h0 : l0.getD j false = true := by simpa using this
        have := hm j (getD_true_of_false h0)
        rw [hjun] at this
        cases this
      · exact h
/-- Number i is taken first: it reads memory. -/
theorem wpAnyL_take (i : Nat) {oi : Oper} {rest : List Oper} {v : Value} {fuel : Nat} {listed : Array Bool} {a : Act} {w : World} (hi : ops.toList.drop i = oi :: rest)
    (hs : Region.noSelect ops = true) (hf : Region.free md ops listed i = true) (hr : (Region.ready md ops listed).contains i = true) (hc : calm md ops loud listed (unlistedCl md ops i ops.size listed) i = true)
    (hQ : ∀ c a w, Q (.panic c) (a.put oi.dst v) w → Q (.panic c) a w) (hw : Region.wanted oi (yielded ops a.tmps) = true)
    (hy : ∀ W, Later w W → (execOp a.eval oi).run P W = .ok (.value v) W)
    (h : wpAnyL P md ops Q loud fuel (listed.setIfInBounds i true) (a.put oi.dst v) w) : wpAnyL P md ops Q loud (fuel + 1) listed a w :=
  wpAnyL_first Later Later.steady _ (calm_in hc).2 (op_of_drop hi) (Region.noSelect_spec hs) hQ fuel listed a w (calm_in hc).1 (Region.free_spec (op_of_drop hi) hf) (by simpa using hr) (.inl ⟨hw, hy⟩) h
/-- Number i is taken first: it reads no memory. -/
theorem wpAnyL_pure (i : Nat) {oi : Oper} {rest : List Oper} {v : Value} {fuel : Nat} {listed : Array Bool} {a : Act} {w : World} (hi : ops.toList.drop i = oi :: rest)
    (hs : Region.noSelect ops = true) (hf : Region.free md ops listed i = true) (hr : (Region.ready md ops listed).contains i = true)
    (hQ : ∀ c a w, Q (.panic c) (a.put oi.dst v) w → Q (.panic c) a w) (hw : Region.wanted oi (yielded ops a.tmps) = true)
    (hy : ∀ W, (execOp a.eval oi).run P W = .ok (.value v) W)
    (h : wpAnyL P md ops Q loud fuel (listed.setIfInBounds i true) (a.put oi.dst v) w) : wpAnyL P md ops Q loud (fuel + 1) listed a w :=
  wpAnyL_first Always Always.steady (fun _ => True) (fun _ _ _ _ _ => ⟨trivial, fun _ _ _ => trivial⟩) (op_of_drop hi) (Region.noSelect_spec hs) hQ fuel listed a w trivial (Region.free_spec (op_of_drop hi) hf) (by simpa using hr) (.inl ⟨hw, fun W _ => hy W⟩) h
theorem wpAnyL_skip (i : Nat) {oi : Oper} {rest : List Oper} {fuel : Nat} {listed : Array Bool} {a : Act} {w : World} (hi : ops.toList.drop i = oi :: rest)
    (hs : Region.noSelect ops = true) (hf : Region.free md ops listed i = true) (hr : (Region.ready md ops listed).contains i = true)
    (hQ : ∀ c a w, Q (.panic c) (a.put oi.dst undef) w → Q (.panic c) a w) (hw : Region.wanted oi (yielded ops a.tmps) = false)
    (h : wpAnyL P md ops Q loud fuel (listed.setIfInBounds i true) (a.put oi.dst undef) w) : wpAnyL P md ops Q loud (fuel + 1) listed a w :=
  wpAnyL_first Always Always.steady (fun _ => True) (fun _ _ _ _ _ => ⟨trivial, fun _ _ _ => trivial⟩) (op_of_drop hi) (Region.noSelect_spec hs) hQ fuel listed a w trivial (Region.free_spec (op_of_drop hi) hf) (by simpa using hr) (.inr ⟨hw, rfl⟩) h
/-- Number i alone may come up; it is not loud. -/
theorem wpAnyL_one (i : Nat) {o : Oper} {rest : List Oper} {fuel : Nat} {listed : Array Bool} {a : Act} {w : World} (hr : Region.ready md ops listed = [i]) (ho : ops.toList.drop i = o :: rest)
    (h : ∀ K : Act → World → Prop, Shut (∀ a' w', Later w w' → wpAnyL P md ops Q loud fuel (listed.setIfInBounds i true) a' w' → K a' w') → if Region.wanted o (yielded ops a.tmps) = true then Oper.wp P o a w K Q else K (a.put o.dst undef) w) :
    wpAnyL P md ops Q loud (fuel + 1) listed a w := by
  refine ⟨fun h0 => (by rw [hr] at h0; cases h0), fun j hj => ?_⟩
  rw [hr] at hj
  obtain rfl : j = i := by simpa using hj
  exact wpOp_step (op_of_drop ho) fun K hK => h K fun a' w' hl hW => hK a' w' ⟨.inr hl, hW⟩
/-- Number i alone may come up; it is loud. -/
theorem wpAnyL_loud (i : Nat) {o : Oper} {rest : List Oper} {fuel : Nat} {listed : Array Bool} {a : Act} {w : World} (hr : Region.ready md ops listed = [i]) (hl : loud.contains i = true) (ho : ops.toList.drop i = o :: rest)
    (h : ∀ K : Act → World → Prop, Shut (∀ a' w', wpAnyL P md ops Q loud fuel (listed.setIfInBounds i true) a' w' → K a' w') → if Region.wanted o (yielded ops a.tmps) = true then Oper.wp P o a w K Q else K (a.put o.dst undef) w) :
    wpAnyL P md ops Q loud (fuel + 1) listed a w := by
  refine ⟨fun h0 => (by rw [hr] at h0; cases h0), fun j hj => ?_⟩
  rw [hr] at hj
  obtain rfl : j = i := by simpa using hj
  exact wpOp_step (op_of_drop ho) fun K hK => h K fun a' w' hW => hK a' w' ⟨.inl (by simpa using hl), hW⟩
theorem wpAnyL_done {listed : Array Bool} {a : Act} {w : World} (hr : Region.ready md ops listed = []) (h : Q .normal a w) :
    ∀ fuel, wpAnyL P md ops Q loud fuel listed a w
  | 0 => ⟨hr, h⟩
  | _ + 1 => ⟨fun _ => h, by rw [hr]; simp⟩
/-- The beginning. -/
theorem wp_region_l (loud : List Nat) {id : Nat} {a : Act} {w : World} (hm : P.follows .mixedOrders = true)
    (h : wpAnyL P .any ops Q loud ops.size (Array.replicate ops.size false) a w.drew) : (Code.region id ops true).wp P Q a w :=
  wp_region_any hm (wpAny_of_l _ _ _ _ h)
end
end Go.Proofs.Ytblljpdlmllceaa
/-
  The frame of a law's proof: a law that returns true and writes nothing that was there meets its row. And: how the arguments read.
-/
namespace Go.Proofs.Ytblljpdlmllceaa
open Go.ChangeShapes Go.WideShapes Go.ChangeAt Go.RowKit
open Go.ChangeMaps (open_string shut_string)
theorem own : ownKnob Try.prog.godebug = none := by kernel_rfl
theorem laidOut : laidOutB Try.prog = true := by kernel_rfl

section
variable {H : Type} {enc : TypeId × Value → H} {P : Program}
theorem trodAll_below (hl : laidOutB P = true) {W W' : World} (hb : Below W.heap.size W W') :
    ∀ {ts : List TypeId} {vs : List Value} {ds : List (DataW H)} {ps : List MemPlace}, (ts.all fun t => P.readableRec t && decide (t < P.types.size)) = true →
      DataW.TrodAll enc P W 0 (fun _ => true) true ts vs ds ps → (∀ x ∈ ps, x.block < W.heap.size) → DataW.TrodAll enc P W' 0 (fun b => decide (b < W.heap.size)) true ts vs ds ps
  | [], vs, ds, ps, _, h, _ => by
    obtain ⟨rfl, rfl, rfl⟩ := trodAll_nil h
    exact trodAll_mk0
  | t :: ts, vs, ds, ps, hr, h, hlt => by
    obtain ⟨v, vs', d, ds', p, q, rfl, rfl, rfl, h1, h2⟩ := trodAll_cons h
    simp only [List.all_cons, Bool.and_eq_true] at hr
    obtain ⟨⟨hr1, hr2⟩, hr3⟩ := hr
    exact trodAll_cons_mk (Below.trod hl hr1 (of_decide_eq_true hr2) h1 hb fun x hx => hlt x (by simp [hx])) (trodAll_below hl hb hr3 h2 fun x hx => hlt x (by simp [hx]))

/-- The step from 'it returns true, and writes nothing that was there' to the row's own condition. -/
theorem post_law (hl : laidOutB P = true) {f : Func} {s : ChangeSpec} {W W' : World} {args : Array Value} {ds gs : List (DataW H)} {before : List MemPlace} {T : TypeId}
    (hres : f.resultTypes = #[T]) (hT : P.underlying T = some .bool) (hvars : s.vars = []) (hts : (f.params.toList.all fun t => P.readableRec t && decide (t < P.types.size)) = true)
    (hW : DataW.Whole enc P f.params.toList s.vars false W args.toList ds gs before)
    (hs1 : (s.fn H (ds ++ gs)).results = [.lit (.bool true)]) (hs2 : (s.fn H (ds ++ gs)).args = ds) (hs3 : (s.fn H (ds ++ gs)).vars = []) (hb : Below W.heap.size W W') :
    s.post enc P f false true false false W args (.bool true) W' := by
  have hW' := hW
  obtain ⟨p, q, hA, hV, rfl, hfz, hnd⟩ := hW
  rw [hvars] at hV
  obtain ⟨rfl, rfl⟩ := trodVars_none hV
  have hlt : ∀ x ∈ p, x.block < W.heap.size := fun x hx => hW'.lt x (by simp [hx])
  refine ⟨_, [], _, [], p, [], hW', ?_, ?_, ?_, hb.frame _, fun h => by cases h⟩
  · rw [hs1, hres]
    exact trodAll_mk1 (shut_bool hT true)
  · rw [hs2]
    have := trodAll_below hl hb hts hA hlt
    simpa using this
  · rw [hs3, hvars]; rfl
end

/-! The bound of the second form. -/
theorem bulk_one {H : Type} (d : DataW H) : 1 ≤ Rows.uptoBulk d := by
  cases d with
  | lit l => cases l <;> simp [Rows.uptoBulk]
  | _ => simp [Rows.uptoBulk]
theorem bulk_length {H : Type} (l : List (DataW H)) : l.length ≤ Rows.uptoBulkAll l := by
  induction l with
  | nil => simp [Rows.uptoBulkAll]
  | cons x r ih => have := bulk_one x; simp only [Rows.uptoBulkAll, List.length_cons]; omega
theorem bulk_mem {H : Type} {d : DataW H} {l : List (DataW H)} (h : d ∈ l) : Rows.uptoBulk d ≤ Rows.uptoBulkAll l := by
  induction l with
  | nil => cases h
  | cons x r ih =>
    simp only [Rows.uptoBulkAll]
    cases List.mem_cons.1 h with
    | inl e => subst e; omega
    | inr e => have := ih e; omega
theorem bulk_append {H : Type} (l r : List (DataW H)) : Rows.uptoBulkAll (l ++ r) = Rows.uptoBulkAll l + Rows.uptoBulkAll r := by
  induction l with
  | nil => simp [Rows.uptoBulkAll]
  | cons x l ih => simp only [List.cons_append, Rows.uptoBulkAll, ih]; omega
theorem bulk_bound {H : Type} {l : List (DataW H)} (hk : Rows.uptoSmall H (l ++ []) = true) : Rows.uptoBulkAll l ≤ 1048576 := by
  rw [List.append_nil] at hk
  exact of_decide_eq_true hk
theorem bulk_slice {H : Type} {d : DataW H} {c : Nat} (hd : (d = .nil ∧ c = 0) ∨ ∃ el sp, d = .slice el sp ∧ el.length + sp.length = c) : c + 1 ≤ Rows.uptoBulk d := by
  rcases hd with ⟨rfl, rfl⟩ | ⟨el, sp, rfl, hc⟩
  · simp [Rows.uptoBulk]
  · have h1 := bulk_length el
    have h2 := bulk_length sp
    simp only [Rows.uptoBulk]
    omega

section
variable {H : Type} {enc : TypeId × Value → H} {P : Program} {W : World} {b base : Nat} {held : Bool} {r : Reach}
/-- A slice of bytes that came in. -/
theorem open_bytes {t e : TypeId} {v : Value} {d : DataW H} {p : List MemPlace} (ht : P.underlying t = some (.slice e)) (he : P.underlying e = some (.int .u8)) (hc : P.cellsOf e = 1)
    (hv : Value.okWide P W r base t v) (h : DataW.Trod enc P W b (fun _ => true) held t v d p) :
    ∃ (A : Option Addr) (c : Nat) (l : List UInt8), v = .slice A l.length c ∧ l.length ≤ c ∧ c ≤ maxLen ∧ (A = none → l.length = 0) ∧ Rd W 1 A l.length (bvs l) ∧
      ((d = .nil ∧ c = 0) ∨ ∃ el sp, d = .slice el sp ∧ el.length + sp.length = c) := by
  obtain ⟨a, len, cap, rfl⟩ := okWide_slice ht hv
  obtain ⟨fuel, hf⟩ := h
  rcases open_ints ht he hc hf with ⟨hcs, hx⟩ | ⟨x, l, c, zs, hcs, _, hl, hm, hz, hx, hcell, hwz⟩
  · simp [Value.cells] at hcs
    obtain ⟨rfl, rfl, rfl⟩ := hcs
    simp only [Prod.mk.injEq] at hx
    exact ⟨none, 0, [], rfl, Nat.le_refl _, Nat.zero_le _, fun _ => rfl, Rd.nil _ _ _, .inl ⟨hx.1, rfl⟩⟩
  · simp [Value.cells] at hcs
    obtain ⟨rfl, rfl, rfl⟩ := hcs
    simp only [if_true] at hz
    simp only [Prod.mk.injEq] at hx
    have hlen : ((zs.take len).map fun n => UInt8.ofNat n.toNat).length = len := by simp; omega
    refine ⟨some x, cap, (zs.take len).map fun n => UInt8.ofNat n.toNat, by rw [hlen], by omega, hm, by simp, ?_, .inr ⟨_, _, hx.1, by simp [lits]; omega⟩⟩
    obtain ⟨xb, xo, xs⟩ := x
    refine ⟨by rw [hlen]; simp [bvs]; omega, fun h0 => ?_⟩
    have hz0 : 0 < zs.length := by
      simp [bvs] at h0
      omega
    have hs := World.cell?_spot (hcell 0 hz0)
    have hs' : xs = none := by simpa [Addr.add] using hs
    subst hs'
    refine ⟨xb, xo, rfl, fun j u hu => ?_⟩
    have hj : j < len ∧ j < zs.length := by
      have := (List.getElem?_eq_some_iff.1 hu).1
      simp [bvs] at this
      omega
    have hc := hcell j hj.2
    rw [add_plain] at hc
    rw [hc]
    have hw : (Lit.int .u8 zs[j]).wf = true := hwz _ (List.getElem_mem hj.2)
    have hb : 0 ≤ zs[j] ∧ zs[j] ≤ 255 := by simpa [Lit.wf, IntKind.min, IntKind.max, IntKind.signed, IntKind.bits] using hw
    simp [bvs, hj.1, List.getElem?_eq_getElem hj.2, bv] at hu
    rw [← hu]
    simp [List.getD, List.getElem?_eq_getElem hj.2]
    omega
/-- The reach: a slice of bytes that came in. -/
theorem bytes_reach {ts : List TypeId} {ds : List (DataW H)} (h : (DataW.weightsEach P ts ds).all (· ≤ reachBytes) = true) {j : Nat} {t e : TypeId} {d : DataW H} {c : Nat} (ht : ts[j]? = some t) (hj : ds[j]? = some d)
    (hu : P.underlying t = some (.slice e)) (hb : P.bytesOf e = 1) (hd : (d = .nil ∧ c = 0) ∨ ∃ el sp, d = .slice el sp ∧ el.length + sp.length = c) : c ≤ 140737488351232 := by
  rcases hd with ⟨_, rfl⟩ | ⟨el, sp, rfl, hc⟩
  · omega
  · have := sized_slice h ht hj hu
    rw [hb, hc, Nat.mul_one] at this
    simpa [reachBytes] using this
end
end Go.Proofs.Ytblljpdlmllceaa
/-
  How incoming data reads: shapes (relations between cells and plain data), each opened from the row's tread; with its bulk.
-/
namespace Go.Proofs.Ytblljpdlmllceaa
open Go.ChangeShapes Go.WideShapes Go.ChangeAt Go.RowKit
set_option linter.unusedVariables false
/-- Cells of a value read as this. -/
abbrev Sh (α : Type) := World → List Value → α → Prop
def IntSh (k : IntKind) : Sh Int := fun _ cs n => cs = [.int k n] ∧ (Lit.int k n).wf = true
def BoolSh : Sh Bool := fun _ cs b => cs = [.bool b]
def StringSh : Sh ByteArray := fun _ cs s => cs = [.string s] ∧ s.size ≤ maxLen
def BytesSh : Sh (List UInt8) := fun w cs l => ∃ A c, cs = [.slice A l.length c] ∧ l.length ≤ c ∧ c ≤ maxLen ∧ (A = none → l.length = 0) ∧ Rd w 1 A l.length (bvs l)
def SliceSh {α : Type} (size : Nat) (R : Sh α) : Sh (List α) := fun w cs xs => ∃ A c, cs = [.slice A xs.length c] ∧ xs.length ≤ c ∧ c ≤ maxLen ∧ (A = none → xs.length = 0) ∧
  (0 < xs.length → ∃ b o, A = some ⟨b, o, none⟩ ∧ ∀ i x, xs[i]? = some x → ∃ us, us.length = size ∧ (∀ j u, us[j]? = some u → w.cell? ⟨b, o + i * size + j, none⟩ = some u) ∧ R w us x)
/-- The bulk of a list. -/
def sumM {α : Type} (m : α → Nat) : List α → Nat
  | [] => 0
  | x :: r => m x + 1 + sumM m r
theorem sumM_length {α : Type} (m : α → Nat) (l : List α) : l.length ≤ sumM m l := by
  induction l with
  | nil => exact Nat.le_refl _
  | cons x r ih => simp only [sumM, List.length_cons]; omega
theorem sumM_mem {α : Type} {m : α → Nat} {x : α} {l : List α} (h : x ∈ l) : m x + 1 ≤ sumM m l := by
  induction l with
  | nil => cases h
  | cons y r ih =>
    simp only [sumM]
    rcases List.mem_cons.1 h with rfl | h
    · omega
    · have := ih h; omega
section
variable {α : Type} {H : Type} {enc : TypeId × Value → H} {P : Program}
/-- Whatever comes in at this type reads so. -/
def Opens (enc : TypeId × Value → H) (P : Program) (t : TypeId) (R : Sh α) (m : α → Nat) : Prop :=
  ∀ (w : World) (base : Nat) (held : Bool) (fuel : Nat) (cs : List Value) (x : DataW H × List MemPlace), DataW.trod enc P w base (fun _ => true) held fuel t cs = some x → ∃ a, R w cs a ∧ m a + 1 ≤ Rows.uptoBulk x.1
theorem opens_int {t : TypeId} {k : IntKind} (ht : P.underlying t = some (.int k)) : Opens enc P t (IntSh k) (fun _ => 0) := by
  intro w base held fuel cs x h
  obtain ⟨n, rfl, rfl, hw⟩ := DataW.trod_int ht h
  exact ⟨n, ⟨rfl, hw⟩, bulk_one _⟩
theorem opens_bool {t : TypeId} (ht : P.underlying t = some .bool) : Opens enc P t BoolSh (fun _ => 0) := by
  intro w base held fuel cs x h
  obtain ⟨n, rfl, rfl⟩ := DataW.trod_bool ht h
  exact ⟨n, rfl, bulk_one _⟩
theorem opens_string {t : TypeId} (ht : P.underlying t = some .string) : Opens enc P t StringSh (fun s => s.size) := by
  intro w base held fuel cs x h
  obtain ⟨s, rfl, rfl, hw⟩ := DataW.trod_string ht h
  exact ⟨s, ⟨rfl, hw⟩, Nat.le_of_eq (by show s.data.size + 1 = s.data.toList.length + 1; rw [Array.length_toList])⟩
theorem bulk_range {D : Nat → DataW H} {f : Nat → α} {m : α → Nat} {k : Nat} (h : ∀ i, i < k → m (f i) + 1 ≤ Rows.uptoBulk (D i)) : sumM m ((List.range k).map f) ≤ Rows.uptoBulkAll ((List.range k).map D) := by
  have gen : ∀ (l : List Nat), (∀ i ∈ l, i < k) → sumM m (l.map f) ≤ Rows.uptoBulkAll (l.map D) := by
    intro l hl
    induction l with
    | nil => exact Nat.le_refl _
    | cons i l ih =>
      have h1 := h i (hl i (List.mem_cons_self ..))
      have h2 := ih fun j hj => hl j (List.mem_cons_of_mem _ hj)
      simp only [List.map_cons, sumM, Rows.uptoBulkAll]
      omega
  exact gen _ fun i hi => List.mem_range.1 hi
theorem opens_slice {t e : TypeId} {size : Nat} {R : Sh α} {m : α → Nat} [Inhabited α] (ht : P.underlying t = some (.slice e)) (hc : P.cellsOf e = size) (hpos : 0 < size) (hE : Opens enc P e R m) :
    Opens enc P t (SliceSh size R) (sumM m) := by
  intro w base held fuel cs x h
  rcases Go.Deep.open_slice ht h with ⟨rfl, rfl⟩ | ⟨a, len, cap, mm, n, D, Pl, rfl, hb, hl, hm, hmm, rfl, hx⟩
  · exact ⟨[], ⟨none, 0, rfl, Nat.le_refl _, Nat.zero_le _, fun _ => rfl, fun h => absurd h (by simp)⟩, by simp [Rows.uptoBulk, sumM]⟩
  · simp only [if_true] at hmm
    have hmm' := hmm.symm
    subst hmm'
    rw [hc] at hx
    have each : ∀ i, i < cap → ∃ y : α, ∃ us : List Value, us.length = size ∧ (∀ j, j < size → w.cell? ((a.add (i * size)).add j) = us[j]?) ∧ R w us y ∧ m y + 1 ≤ Rows.uptoBulk (D i) := by
      intro i hi
      obtain ⟨cs', h1, h2⟩ := hx i hi
      obtain ⟨_, hlen, hcell⟩ := World.cells?_some h1
      obtain ⟨y, hy, hby⟩ := hE _ _ _ _ _ _ h2
      exact ⟨y, cs', hlen, hcell, hy, hby⟩
    obtain ⟨f, hf⟩ := Go.Deep.choose_lt each
    have hlen : ((List.range len).map f).length = len := by simp
    refine ⟨(List.range len).map f, ⟨some a, cap, by rw [hlen], by rw [hlen]; exact hl, hm, by simp, fun h0 => ?_⟩, ?_⟩
    · rw [hlen] at h0
      obtain ⟨us0, hl0, hc0, _⟩ := hf 0 (by omega)
      have h00 := hc0 0 hpos
      rw [List.getElem?_eq_getElem (by omega)] at h00
      have hs := World.cell?_spot h00
      obtain ⟨xb, xo, xs⟩ := a
      have hs' : xs = none := by simpa [Addr.add] using hs
      subst hs'
      refine ⟨xb, xo, rfl, fun i x hx => ?_⟩
      have hi : i < len := by have := (List.getElem?_eq_some_iff.1 hx).1; simpa using this
      obtain ⟨us, hul, huc, hR, _⟩ := hf i (by omega)
      have hxi : x = f i := by simpa [hi] using hx.symm
      subst hxi
      refine ⟨us, hul, fun j u hj => ?_, hR⟩
      have hjs : j < size := by rw [← hul]; exact (List.getElem?_eq_some_iff.1 hj).1
      have := huc j hjs
      rw [add_plain, add_plain] at this
      rw [this, hj]
    · have h1 := bulk_range (D := D) (f := f) (m := m) (k := len) fun i hi => by obtain ⟨_, _, _, _, h⟩ := hf i (by omega); exact h
      simp only [Rows.uptoBulk]
      omega
theorem opens_bytes {t e : TypeId} (ht : P.underlying t = some (.slice e)) (he : P.underlying e = some (.int .u8)) (hc : P.cellsOf e = 1) : Opens enc P t BytesSh (fun l => l.length) := by
  intro w base held fuel cs x hf
  rcases open_ints ht he hc hf with ⟨rfl, rfl⟩ | ⟨a, len, cap, zs, rfl, _, hl, hm, hz, rfl, hcell, hwz⟩
  · exact ⟨[], ⟨none, 0, rfl, Nat.le_refl _, Nat.zero_le _, fun _ => rfl, Rd.nil _ _ _⟩, by simp [Rows.uptoBulk]⟩
  · simp only [if_true] at hz
    have hlen : ((zs.take len).map fun n => UInt8.ofNat n.toNat).length = len := by simp; omega
    refine ⟨(zs.take len).map fun n => UInt8.ofNat n.toNat, ⟨some a, cap, by rw [hlen], by rw [hlen]; exact hl, hm, by simp, ?_⟩, ?_⟩
    · obtain ⟨xb, xo, xs⟩ := a
      refine ⟨by rw [hlen]; simp [bvs]; omega, fun h0 => ?_⟩
      have hz0 : 0 < zs.length := by
        simp [bvs] at h0
        omega
      have hs := World.cell?_spot (hcell 0 hz0)
      have hs' : xs = none := by simpa [Addr.add] using hs
      subst hs'
      refine ⟨xb, xo, rfl, fun j u hu => ?_⟩
      have hj : j < len ∧ j < zs.length := by
        have := (List.getElem?_eq_some_iff.1 hu).1
        simp [bvs] at this
        omega
      have hc := hcell j hj.2
      rw [add_plain] at hc
      rw [hc]
      have hw : (Lit.int .u8 zs[j]).wf = true := hwz _ (List.getElem_mem hj.2)
      have hb : 0 ≤ zs[j] ∧ zs[j] ≤ 255 := by simpa [Lit.wf, IntKind.min, IntKind.max, IntKind.signed, IntKind.bits] using hw
      simp [bvs, hj.1, List.getElem?_eq_getElem hj.2, bv] at hu
      rw [← hu]
      simp [List.getD, List.getElem?_eq_getElem hj.2]
      omega
    · have h1 := bulk_length (H := H) (lits .u8 (zs.take len))
      simp only [Rows.uptoBulk]
      rw [show (lits .u8 (zs.take len) : List (DataW H)).length = len from by simp [lits]; omega] at h1
      rw [hlen]
      omega
/-- A struct's parts. -/
theorem opens_parts {t : TypeId} {fs : Array Field} (ht : P.underlying t = some (.struct fs)) {w : World} {base : Nat} {held : Bool} {fuel : Nat} {cs : List Value} {x : DataW H × List MemPlace}
    (h : DataW.trod enc P w base (fun _ => true) held fuel t cs = some x) :
    cs.length = P.cellsOf t ∧ ∃ ys : List (DataW H × List MemPlace), ys.length = fs.size ∧ x.1 = .agg (ys.map (·.1)) ∧ ∃ n, ∀ (i : Nat) (f : Field), fs[i]? = some f → DataW.trod enc P w base (fun _ => true) held n f.type ((cs.drop f.offset).take (P.cellsOf f.type)) = ys[i]? := by
  obtain ⟨xs, n, _, rfl, hl, hxl, hf⟩ := DataW.trod_struct ht h
  exact ⟨hl, xs, hxl, rfl, n, hf⟩
theorem opens_struct2 {β : Type} {t : TypeId} {f0 f1 : Field} {R0 : Sh α} {R1 : Sh β} {m0 : α → Nat} {m1 : β → Nat} (ht : P.underlying t = some (.struct #[f0, f1])) (hc : P.cellsOf t = 2) (ho : f0.offset = 0 ∧ f1.offset = 1)
    (hs : P.cellsOf f0.type = 1 ∧ P.cellsOf f1.type = 1) (h0 : Opens enc P f0.type R0 m0) (h1 : Opens enc P f1.type R1 m1) :
    Opens enc P t (fun w cs (a : α × β) => ∃ u0 u1, cs = [u0, u1] ∧ R0 w [u0] a.1 ∧ R1 w [u1] a.2) (fun a => m0 a.1 + m1 a.2 + 2) := by
  intro w base held fuel cs x h
  obtain ⟨hl, ys, hyl, hx, n, hf⟩ := opens_parts ht h
  rw [hc] at hl
  match cs, hl, ys, hyl with
  | [u0, u1], _, [y0, y1], _ =>
    have g0 := hf 0 f0 rfl
    have g1 := hf 1 f1 rfl
    simp [ho.1, ho.2, hs.1, hs.2] at g0 g1
    obtain ⟨a0, r0, b0⟩ := h0 _ _ _ _ _ _ g0
    obtain ⟨a1, r1, b1⟩ := h1 _ _ _ _ _ _ g1
    refine ⟨(a0, a1), ⟨u0, u1, rfl, r0, r1⟩, ?_⟩
    rw [hx]
    simp only [List.map_cons, List.map_nil, Rows.uptoBulk, Rows.uptoBulkAll]
    omega
theorem opens_struct3 {β γ : Type} {t : TypeId} {f0 f1 f2 : Field} {R0 : Sh α} {R1 : Sh β} {R2 : Sh γ} {m0 : α → Nat} {m1 : β → Nat} {m2 : γ → Nat} (ht : P.underlying t = some (.struct #[f0, f1, f2])) (hc : P.cellsOf t = 3)
    (ho : f0.offset = 0 ∧ f1.offset = 1 ∧ f2.offset = 2) (hs : P.cellsOf f0.type = 1 ∧ P.cellsOf f1.type = 1 ∧ P.cellsOf f2.type = 1) (h0 : Opens enc P f0.type R0 m0) (h1 : Opens enc P f1.type R1 m1) (h2 : Opens enc P f2.type R2 m2) :
    Opens enc P t (fun w cs (a : α × β × γ) => ∃ u0 u1 u2, cs = [u0, u1, u2] ∧ R0 w [u0] a.1 ∧ R1 w [u1] a.2.1 ∧ R2 w [u2] a.2.2) (fun a => m0 a.1 + m1 a.2.1 + m2 a.2.2 + 3) := by
  intro w base held fuel cs x h
  obtain ⟨hl, ys, hyl, hx, n, hf⟩ := opens_parts ht h
  rw [hc] at hl
  match cs, hl, ys, hyl with
  | [u0, u1, u2], _, [y0, y1, y2], _ =>
    have g0 := hf 0 f0 rfl
    have g1 := hf 1 f1 rfl
    have g2 := hf 2 f2 rfl
    simp [ho.1, ho.2.1, ho.2.2, hs.1, hs.2.1, hs.2.2] at g0 g1 g2
    obtain ⟨a0, r0, b0⟩ := h0 _ _ _ _ _ _ g0
    obtain ⟨a1, r1, b1⟩ := h1 _ _ _ _ _ _ g1
    obtain ⟨a2, r2, b2⟩ := h2 _ _ _ _ _ _ g2
    refine ⟨(a0, a1, a2), ⟨u0, u1, u2, rfl, r0, r1, r2⟩, ?_⟩
    rw [hx]
    simp only [List.map_cons, List.map_nil, Rows.uptoBulk, Rows.uptoBulkAll]
    omega
theorem opens_struct5 {β γ δ ε : Type} {t : TypeId} {f0 f1 f2 f3 f4 : Field} {R0 : Sh α} {R1 : Sh β} {R2 : Sh γ} {R3 : Sh δ} {R4 : Sh ε} {m0 : α → Nat} {m1 : β → Nat} {m2 : γ → Nat} {m3 : δ → Nat} {m4 : ε → Nat} (ht : P.underlying t = some (.struct #[f0, f1, f2, f3, f4])) (hc : P.cellsOf t = 5)
    (ho : f0.offset = 0 ∧ f1.offset = 1 ∧ f2.offset = 2 ∧ f3.offset = 3 ∧ f4.offset = 4) (hs : P.cellsOf f0.type = 1 ∧ P.cellsOf f1.type = 1 ∧ P.cellsOf f2.type = 1 ∧ P.cellsOf f3.type = 1 ∧ P.cellsOf f4.type = 1)
    (h0 : Opens enc P f0.type R0 m0) (h1 : Opens enc P f1.type R1 m1) (h2 : Opens enc P f2.type R2 m2) (h3 : Opens enc P f3.type R3 m3) (h4 : Opens enc P f4.type R4 m4) :
    Opens enc P t (fun w cs (a : α × β × γ × δ × ε) => ∃ u0 u1 u2 u3 u4, cs = [u0, u1, u2, u3, u4] ∧ R0 w [u0] a.1 ∧ R1 w [u1] a.2.1 ∧ R2 w [u2] a.2.2.1 ∧ R3 w [u3] a.2.2.2.1 ∧ R4 w [u4] a.2.2.2.2) (fun a => m0 a.1 + m1 a.2.1 + m2 a.2.2.1 + m3 a.2.2.2.1 + m4 a.2.2.2.2 + 5) := by
  intro w base held fuel cs x h
  obtain ⟨hl, ys, hyl, hx, n, hf⟩ := opens_parts ht h
  rw [hc] at hl
  match cs, hl, ys, hyl with
  | [u0, u1, u2, u3, u4], _, [y0, y1, y2, y3, y4], _ =>
    have g0 := hf 0 f0 rfl
    have g1 := hf 1 f1 rfl
    have g2 := hf 2 f2 rfl
    have g3 := hf 3 f3 rfl
    have g4 := hf 4 f4 rfl
    simp [ho.1, ho.2.1, ho.2.2.1, ho.2.2.2.1, ho.2.2.2.2, hs.1, hs.2.1, hs.2.2.1, hs.2.2.2.1, hs.2.2.2.2] at g0 g1 g2 g3 g4
    obtain ⟨a0, r0, b0⟩ := h0 _ _ _ _ _ _ g0
    obtain ⟨a1, r1, b1⟩ := h1 _ _ _ _ _ _ g1
    obtain ⟨a2, r2, b2⟩ := h2 _ _ _ _ _ _ g2
    obtain ⟨a3, r3, b3⟩ := h3 _ _ _ _ _ _ g3
    obtain ⟨a4, r4, b4⟩ := h4 _ _ _ _ _ _ g4
    refine ⟨(a0, a1, a2, a3, a4), ⟨u0, u1, u2, u3, u4, rfl, r0, r1, r2, r3, r4⟩, ?_⟩
    rw [hx]
    simp only [List.map_cons, List.map_nil, Rows.uptoBulk, Rows.uptoBulkAll]
    omega
/-- An argument that is a slice. -/
theorem open_sh {t e : TypeId} {W : World} {b base : Nat} {held : Bool} {r : Reach} {v : Value} {d : DataW H} {p : List MemPlace} {R : Sh α} {m : α → Nat} (hO : Opens enc P t R m) (ht : P.underlying t = some (.slice e))
    (hv : Value.okWide P W r base t v) (h : DataW.Trod enc P W b (fun _ => true) held t v d p) : ∃ a, R W [v] a ∧ m a + 1 ≤ Rows.uptoBulk d := by
  obtain ⟨a, len, cap, rfl⟩ := okWide_slice ht hv
  obtain ⟨fuel, hf⟩ := h
  exact hO _ _ _ _ _ _ hf
theorem SliceSh.at_ {size : Nat} {R : Sh α} {w : World} {A : Option Addr} {n c : Nat} {xs : List α} (h : SliceSh size R w [.slice A n c] xs) {i : Nat} {x : α} (hx : xs[i]? = some x) :
    n = xs.length ∧ ∃ b o, A = some ⟨b, o, none⟩ ∧ ∃ us, us.length = size ∧ (∀ j u, us[j]? = some u → w.cell? ⟨b, o + i * size + j, none⟩ = some u) ∧ R w us x := by
  obtain ⟨A', c', hv, _, _, _, hx'⟩ := h
  injection hv with hv
  injection hv with h1 h2 h3
  subst h1
  have hi := (List.getElem?_eq_some_iff.1 hx).1
  obtain ⟨b, o, rfl, he⟩ := hx' (by omega)
  exact ⟨h2, b, o, rfl, he i x hx⟩
end
end Go.Proofs.Ytblljpdlmllceaa
/-
  Below a block number all stands but one block.
-/
namespace Go.Proofs.Ytblljpdlmllceaa
open Go.RowKit
/-- All blocks below B but x are as they were; no block has gone. -/
def Still (B x : Nat) (w w' : World) : Prop := w.heap.size ≤ w'.heap.size ∧ ∀ k, k < B → k ≠ x → w'.heap[k]? = w.heap[k]?
section
variable {B x : Nat} {w w' w'' : World}
theorem Still.refl (B x : Nat) (w : World) : Still B x w w := ⟨Nat.le_refl _, fun _ _ _ => rfl⟩
theorem Still.trans (h : Still B x w w') (k : Still B x w' w'') : Still B x w w'' := ⟨Nat.le_trans h.1 k.1, fun i hi hx => (k.2 i hi hx).trans (h.2 i hi hx)⟩
theorem Still.of_below (h : Below B w w') : Still B x w w' := ⟨h.size, fun k hk _ => h.block k hk⟩
theorem Still.setCell (h : Still B x w w') (o : Nat) (u : Value) : Still B x w (w'.setCell ⟨x, o, none⟩ u) :=
  h.trans ⟨by simp [World.setCell], fun k _ hx => Below.heap_setCell _ _ _ _ (by simpa using hx)⟩
theorem Still.below (h : Still B x w w') (hb : Below B w' w'') : Still B x w w'' := h.trans (Still.of_below hb)
theorem Rd.still {size n : Nat} {A : Option Addr} {xs : List Value} (h : Rd w size A n xs) (hs : Still B x w w') (hB : w.heap.size ≤ B) (hx : ∀ b o, A = some ⟨b, o, none⟩ → b ≠ x) : Rd w' size A n xs := by
  refine ⟨h.1, fun hn => ?_⟩
  obtain ⟨b, o, e, hc⟩ := h.2 hn
  refine ⟨b, o, e, fun j u hu => ?_⟩
  have h1 := hc j u hu
  have hlt := cell_lt h1
  rw [World.cell?_of_block (hs.2 b (Nat.lt_of_lt_of_le hlt hB) (hx b o e))]
  exact h1
end
/-- What an append leaves of a block that is not the row's. -/
theorem grown_block {W w' : World} {base : Nat} {e : TypeId} {size n : Nat} {v : Value} {xs : List Value} {k : Nat} {x : Obj} (ho : W.ownsRow base e size v n xs) (hg : W.grownBy w' v.ownBlock) (hx : W.heap[k]? = some x) (hk : k < base ∨ ∃ w : World, w.ownsRow base e size v n xs ∧ w.heap.size ≤ k) : w'.heap[k]? = some x := by
  have hlt : k < W.heap.size := by
    rcases Nat.lt_or_ge k W.heap.size with h | h
    · exact h
    · rw [Array.getElem?_eq_none h] at hx; cases hx
  rw [hg.block k hlt ?_]
  · exact hx
  · intro hk2
    rcases hk with hk | ⟨w, hw, hk⟩
    · have := (ho.lt k hk2.symm).1; omega
    · have := (hw.lt k hk2.symm).2; omega
end Go.Proofs.Ytblljpdlmllceaa
/-
  What is written: one row of the call's own and new blocks alone.
-/
namespace Go.Proofs.Ytblljpdlmllceaa
open Go.RowKit
theorem grown_trans {w w1 w2 : World} {row row2 : Option Nat} (h : w.grownBy w1 row) (k : w1.grownBy w2 row2) (hr : row2 = row ∨ ∀ b, row2 = some b → w.heap.size ≤ b) : w.grownBy w2 row :=
  ⟨k.os.trans h.os, k.tape.trans h.tape, k.output.trans h.output, Nat.le_trans h.size k.size, fun i hi hne => (k.block i (Nat.lt_of_lt_of_le hi h.size) (fun e => by
    rcases hr with rfl | hr
    · exact hne e
    · have := hr i e.symm; omega)).trans (h.block i hi hne)⟩
theorem grown_drew {w w' : World} {row : Option Nat} (h : w.grownBy w' row) : w.grownBy w'.drew row := ⟨h.os, h.tape, h.output, h.size, h.block⟩
theorem grown_later {w w' : World} (h : Later w w') (row : Option Nat) : w.grownBy w' row := ⟨h.os, h.tape, h.output, h.size, fun k hk _ => h.block k hk⟩
theorem grown_alloc {w w' : World} {row : Option Nat} (h : w.grownBy w' row) (o : Obj) : w.grownBy (w'.alloc o) row := grown_trans h (World.grownBy_alloc w' o row) (.inl rfl)
theorem grown_setRow {w w' : World} {g : Nat} {row : Option Nat} (h : w.grownBy w' row) (hg : row = some g ∨ w.heap.size ≤ g) (cs : Array Value) : w.grownBy (w'.setRow g cs) row :=
  ⟨h.os, h.tape, h.output, by have := h.size; simpa [World.setRow] using this, fun k hk hne => by
    rw [setRow_other _ _ _ _ (fun e => by
      rcases hg with hg | hg
      · exact hne (by rw [e, hg])
      · omega)]
    exact h.block k hk hne⟩
theorem grown_setCell {w w' : World} {g o : Nat} {row : Option Nat} (h : w.grownBy w' row) (hg : row = some g ∨ w.heap.size ≤ g) (u : Value) : w.grownBy (w'.setCell ⟨g, o, none⟩ u) row :=
  ⟨h.os, h.tape, h.output, by have := h.size; simpa [World.setCell] using this, fun k hk hne => by
    rw [Below.heap_setCell _ _ _ _ (fun e => by
      have e : k = g := e
      rcases hg with hg | hg
      · exact hne (by rw [e, hg])
      · omega)]
    exact h.block k hk hne⟩
theorem grown_blocks {B : Nat} {w w' : World} {g : Nat} (hb : Below B w w') (hk : ∀ k, k ≠ g → w'.heap[k]? = w.heap[k]?) : w.grownBy w' (some g) :=
  ⟨hb.os, hb.tape, hb.output, hb.size, fun k _ hne => hk k fun e => hne (by rw [e])⟩
/-- Rows of unlike elements lie in unlike blocks. -/
theorem own_apart {w : World} {b1 b2 : Nat} {e1 e2 : TypeId} {s1 s2 n1 n2 : Nat} {v1 v2 : Value} {x1 x2 : List Value} (h1 : w.ownsRow b1 e1 s1 v1 n1 x1) (h2 : w.ownsRow b2 e2 s2 v2 n2 x2) (he : e1 ≠ e2) : v1.ownBlock = none ∨ v1.ownBlock ≠ v2.ownBlock := by
  rcases h1.2 with ⟨rfl, _⟩ | ⟨g1, c1, cur1, rfl, _, hg1, _⟩
  · exact .inl rfl
  · rcases h2.2 with ⟨rfl, _⟩ | ⟨g2, c2, cur2, rfl, _, hg2, _⟩
    · exact .inr fun h => nomatch h
    · refine .inr fun h => he ?_
      have : g1 = g2 := by injection h
      subst this
      rw [hg1] at hg2
      injection hg2 with hg2
      injection hg2
theorem own_kept {w w' : World} {b1 b2 : Nat} {e1 e2 : TypeId} {s1 s2 n1 n2 : Nat} {v1 v2 : Value} {x1 x2 : List Value} (h1 : w.ownsRow b1 e1 s1 v1 n1 x1) (h2 : w.ownsRow b2 e2 s2 v2 n2 x2) (he : e1 ≠ e2) (hg : w.grownBy w' v2.ownBlock) : w'.ownsRow b1 e1 s1 v1 n1 x1 := h1.kept hg (own_apart h1 h2 he)
end Go.Proofs.Ytblljpdlmllceaa
/-
  'copy' between rows whose elements are some cells each; slices.overlaps of two blocks.
-/
namespace Go.Proofs.Ytblljpdlmllceaa
open Go.RowKit
theorem run_copy_rowk {P : Program} (w : World) (dT sT ty elem : TypeId) (size g o dLen dCap : Nat) (a : Addr) (sLen sCap : Nat) (cur : Array Value) (t : TypeId) (cs : List Value) (n : Nat)
    (hu : P.underlying dT = some (.slice elem)) (hs : (P.info? elem).map (·.size) = some size)
    (hg : w.heap[g]? = some (.cells cur t (0, 0))) (hn : Nat.min sLen dLen = n) (hl : cs.length = n * size)
    (hsrc : ∀ j v, cs[j]? = some v → w.cell? (a.add j) = some v) (hfit : o + cs.length ≤ cur.size) (h1 : ∀ v ∈ cs, v.oneCell' = true) :
    (Builtin.copy_ #[dT, sT] ty #[.slice (some ⟨g, o, none⟩) dLen dCap, .slice (some a) sLen sCap]).run P w =
      .ok (goInt n) (w.setRow g (cur.toList.take o ++ cs ++ cur.toList.drop (o + cs.length)).toArray) := by
  have hld := run_loadCells_list (P := P) w a cs hsrc
  have hst := run_storeCells_at P g o t cs 0 cur w hg (by simpa using hfit) h1
  cases hq : P.info? elem with
  | none => simp [hq] at hs
  | some i =>
    have hi : i.size = size := by simpa [hq] using hs
    simp [Builtin.copy_, run_underlying hu, Builtin.lenOf, Builtin.firstCells, sizeOf, typeInfo, hq, hi, hn, ← hl, hld, hst]
end Go.Proofs.Ytblljpdlmllceaa
/-
  An incoming slice of records, as a row of cells.
-/
namespace Go.Proofs.Ytblljpdlmllceaa
open Go.RowKit
set_option linter.unusedVariables false
set_option linter.unusedSimpArgs false
theorem rd_of_sh {α : Type} {size : Nat} {R : Sh α} {enc : α → List Value} {W : World} {v : Value} {L : List α} (hk : ∀ x, (enc x).length = size) (hpos : 0 < size) (hR : ∀ cs x, R W cs x → cs = enc x) (h : SliceSh size R W [v] L) :
    ∃ (A : Option Addr) (c : Nat), v = .slice A L.length c ∧ L.length ≤ c ∧ c ≤ maxLen ∧ (A = none → L.length = 0) ∧ Rd W size A L.length (L.flatMap enc) := by
  obtain ⟨A, c, hv', hlc, hcm, hA, hx⟩ := h
  injection hv' with hv'
  subst hv'
  refine ⟨A, c, rfl, hlc, hcm, hA, rec_len hk L, fun h0 => ?_⟩
  have h0' : 0 < L.length := by
    rw [rec_len hk] at h0
    exact Nat.pos_of_ne_zero fun e => by rw [e] at h0; simp at h0
  obtain ⟨bb, o, rfl, he⟩ := hx h0'
  refine ⟨bb, o, rfl, fun j u hu => ?_⟩
  have hj : j < L.length * size := by rw [← rec_len hk L]; exact (List.getElem?_eq_some_iff.1 hu).1
  have hd : j / size < L.length := Nat.div_lt_of_lt_mul (by rwa [Nat.mul_comm] at hj)
  obtain ⟨s, hs⟩ : ∃ s, L[j / size]? = some s := ⟨_, List.getElem?_eq_getElem hd⟩
  obtain ⟨us, hul, huc, hr⟩ := he (j / size) s hs
  have e := hR _ _ hr
  subst e
  have hm : j % size < size := Nat.mod_lt _ hpos
  have ej : j = j / size * size + j % size := by rw [Nat.mul_comm]; exact (Nat.div_add_mod j size).symm
  have h1 := rec_at hk hs (j % size) hm
  rw [← ej, hu] at h1
  have h2 := huc (j % size) u h1.symm
  rw [Nat.add_assoc, ← ej] at h2
  exact h2
end Go.Proofs.Ytblljpdlmllceaa
/-
  A region in which two operations may come up in either order, both ways followed; a cut behind it.
-/
namespace Go.Proofs.Ytblljpdlmllceaa
open Go.RowKit
section
variable {P : Program} {ops : Array Oper} {Q : Exit → Act → World → Prop} {md : Region.Mode} {loud : List Nat}
/-- Number i is taken first, where none is loud. -/
theorem wpAnyL_take0 (i : Nat) {oi : Oper} {rest : List Oper} {v : Value} {fuel : Nat} {listed : Array Bool} {a : Act} {w : World} (hi : ops.toList.drop i = oi :: rest)
    (hs : Region.noSelect ops = true) (hf : Region.free md ops listed i = true) (hr : (Region.ready md ops listed).contains i = true)
    (hQ : ∀ c a w, Q (.panic c) (a.put oi.dst v) w → Q (.panic c) a w) (hw : Region.wanted oi (yielded ops a.tmps) = true)
    (hy : ∀ W, Later w W → (execOp a.eval oi).run P W = .ok (.value v) W)
    (h : wpAnyL P md ops Q [] fuel (listed.setIfInBounds i true) (a.put oi.dst v) w) : wpAnyL P md ops Q [] (fuel + 1) listed a w :=
  wpAnyL_first Later Later.steady (fun _ => True) (fun _ _ _ _ _ => ⟨trivial, fun _ _ h => h.elim (fun h => by cases h) id⟩) (op_of_drop hi) (Region.noSelect_spec hs) hQ fuel listed a w trivial (Region.free_spec (op_of_drop hi) hf) (by simpa using hr) (.inl ⟨hw, hy⟩) h
/-- Two may come up; none is loud. -/
theorem wpAnyL_two (i j : Nat) {oi oj : Oper} {ri rj : List Oper} {fuel : Nat} {listed : Array Bool} {a : Act} {w : World} (hr : Region.ready md ops listed = [i, j]) (hoi : ops.toList.drop i = oi :: ri) (hoj : ops.toList.drop j = oj :: rj)
    (hi : ∀ K : Act → World → Prop, Shut (∀ a' w', Later w w' → wpAnyL P md ops Q loud fuel (listed.setIfInBounds i true) a' w' → K a' w') → if Region.wanted oi (yielded ops a.tmps) = true then Oper.wp P oi a w K Q else K (a.put oi.dst undef) w)
    (hj : ∀ K : Act → World → Prop, Shut (∀ a' w', Later w w' → wpAnyL P md ops Q loud fuel (listed.setIfInBounds j true) a' w' → K a' w') → if Region.wanted oj (yielded ops a.tmps) = true then Oper.wp P oj a w K Q else K (a.put oj.dst undef) w) :
    wpAnyL P md ops Q loud (fuel + 1) listed a w := by
  refine ⟨fun h0 => (by rw [hr] at h0; cases h0), fun k hk => ?_⟩
  rw [hr] at hk
  rcases List.mem_cons.1 hk with rfl | hk
  · exact wpOp_step (op_of_drop hoi) fun K hK => hi K fun a' w' hl hW => hK a' w' ⟨.inr hl, hW⟩
  · obtain rfl : k = j := by simpa using hk
    exact wpOp_step (op_of_drop hoj) fun K hK => hj K fun a' w' hl hW => hK a' w' ⟨.inr hl, hW⟩
/-- Two may come up; loud ones too. -/
theorem wpAnyL_both (i j : Nat) {oi oj : Oper} {ri rj : List Oper} {fuel : Nat} {listed : Array Bool} {a : Act} {w : World} (hr : Region.ready md ops listed = [i, j]) (hoi : ops.toList.drop i = oi :: ri) (hoj : ops.toList.drop j = oj :: rj)
    (hi : ∀ K : Act → World → Prop, Shut (∀ a' w', (i ∈ loud ∨ Later w w') → wpAnyL P md ops Q loud fuel (listed.setIfInBounds i true) a' w' → K a' w') → if Region.wanted oi (yielded ops a.tmps) = true then Oper.wp P oi a w K Q else K (a.put oi.dst undef) w)
    (hj : ∀ K : Act → World → Prop, Shut (∀ a' w', (j ∈ loud ∨ Later w w') → wpAnyL P md ops Q loud fuel (listed.setIfInBounds j true) a' w' → K a' w') → if Region.wanted oj (yielded ops a.tmps) = true then Oper.wp P oj a w K Q else K (a.put oj.dst undef) w) :
    wpAnyL P md ops Q loud (fuel + 1) listed a w := by
  refine ⟨fun h0 => (by rw [hr] at h0; cases h0), fun k hk => ?_⟩
  rw [hr] at hk
  rcases List.mem_cons.1 hk with rfl | hk
  · exact wpOp_step (op_of_drop hoi) fun K hK => hi K fun a' w' hl hW => hK a' w' ⟨hl, hW⟩
  · obtain rfl : k = j := by simpa using hk
    exact wpOp_step (op_of_drop hoj) fun K hK => hj K fun a' w' hl hW => hK a' w' ⟨hl, hW⟩
/-- A cut: a region that ends as usual, in one of some frames. -/
def CutPost (F : Nat → World → Prop) (T : Nat → Act) : Exit → Act → World → Prop
  | .normal, a, W => ∃ b, a = T b ∧ F b W
  | _, _, _ => False
theorem cut_leaf {F : Nat → World → Prop} {T : Nat → Act} {a : Act} {W : World} (b : Nat) (h1 : a = T b) (h2 : F b W) : CutPost F T .normal a W := ⟨b, h1, h2⟩
theorem wp_cut {c : Code} {a : Act} {w : World} (F : Nat → World → Prop) (T : Nat → Act) (h1 : c.wp P (CutPost F T) a w) (h2 : ∀ b W, F b W → Q .normal (T b) W) : c.wp P Q a w :=
  Code.wp_mono (fun e a' W h => by cases e with | normal => obtain ⟨b, rfl, hF⟩ := h; exact h2 b W hF | _ => exact h.elim) h1
end
end Go.Proofs.Ytblljpdlmllceaa
