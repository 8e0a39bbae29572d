/-
  Texts of this seat in one: Mem, Bytes, KMath.
-/
import Derived.WalkKit
import Derived.WalkSpells
import Derived.WalkLawsBesides
import Derived.Lib.Hide
import Derived.Lib.SlBytesConst
import Derived.Maps.AppendAt
import Derived.Deep.AppendLies
import Derived.Deep.Draws
import Derived.BigQuiet
import Derived.Deep.QuietTactic
/-
  Words for memory that every proof of this seat uses: a slice that is read as a list of cells (nil let in), and append onto a row of the call's own.
-/
namespace Go.Proofs.YtcmollfhlillfaaGreatDoor
open Go.RowKit

theorem ret_int {k : IntKind} {a b : Int} (h : a = b) : Ending.returned (.int k a) = .returned (.int k b) := by rw [h]
theorem ret_val {a b : Value} (h : a = b) : Ending.returned a = .returned b := by rw [h]
theorem hide_ {p : Prop} (h : p) : Hid p := h
theorem add_plain (b o k : Nat) : (⟨b, o, none⟩ : Addr).add k = ⟨b, o + k, none⟩ := by
  unfold Addr.add; split
  · rename_i h; subst h; rfl
  · rfl
theorem cell_lt {w : World} {b o : Nat} {u : Value} (h : w.cell? ⟨b, o, none⟩ = some u) : b < w.heap.size := by
  rcases Nat.lt_or_ge b w.heap.size with hlt | hge
  · exact hlt
  · unfold World.cell? at h
    rw [Array.getElem?_eq_none hge] at h
    cases h

/-- The slice's address A leads to n elements of this many cells, which read as xs. -/
def Rd (w : World) (size : Nat) (A : Option Addr) (n : Nat) (xs : List Value) : Prop :=
  xs.length = n * size ∧ (0 < xs.length → ∃ b o, A = some ⟨b, o, none⟩ ∧ ∀ j u, xs[j]? = some u → w.cell? ⟨b, o + j, none⟩ = some u)

section
variable {w w' : World} {size n m : Nat} {A : Option Addr} {xs : List Value}
theorem Rd.nil (w : World) (size : Nat) (A : Option Addr) : Rd w size A 0 [] := ⟨by simp, fun h => absurd h (by simp)⟩
theorem Rd.keep (h : Rd w size A n xs) (hk : ∀ p : Addr, p.block < w.heap.size → w'.cell? p = w.cell? p) : Rd w' size A n xs := by
  refine ⟨h.1, fun hn => ?_⟩
  obtain ⟨b, o, e, hc⟩ := h.2 hn
  exact ⟨b, o, e, fun j u hu => (hk _ (cell_lt (hc j u hu))).trans (hc j u hu)⟩
theorem Rd.below (h : Rd w size A n xs) (hb : Below w.heap.size w w') : Rd w' size A n xs := h.keep fun _ hp => hb.cell hp
theorem Rd.drew (h : Rd w size A n xs) : Rd w.drew size A n xs := h
theorem Rd.drewN (h : Rd w size A n xs) (k : Nat) : Rd (w.drewN k) size A n xs := h
theorem Rd.alloc (h : Rd w size A n xs) (o : Obj) : Rd (w.alloc o) size A n xs := h.keep fun p hp => World.cell?_alloc_lt w o p hp
theorem Rd.take (h : Rd w size A n xs) {k : Nat} (hk : k ≤ n) : Rd w size A k (xs.take (k * size)) := by
  have hle : k * size ≤ n * size := Nat.mul_le_mul_right _ hk
  refine ⟨by rw [List.length_take, h.1]; omega, fun hn => ?_⟩
  obtain ⟨b, o, e, hc⟩ := h.2 (by rw [List.length_take] at hn; omega)
  refine ⟨b, o, e, fun j u hu => hc j u ?_⟩
  rw [List.getElem?_take] at hu
  split at hu
  · exact hu
  · cases hu
theorem Rd.cut (h : Rd w size A n xs) {k cap : Nat} (hk : k ≤ n) (hc : n ≤ cap) :
    Rd w size (if cap = k then A else A.map (·.add (k * size))) (n - k) (xs.drop (k * size)) := by
  refine ⟨by rw [List.length_drop, h.1, Nat.sub_mul], fun hn => ?_⟩
  have h1 := h.1
  rw [List.length_drop] at hn
  obtain ⟨b, o, rfl, hcell⟩ := h.2 (by omega)
  have hne : ¬ cap = k := by rintro rfl; have : n = cap := by omega
                             subst this; omega
  rw [if_neg hne]
  refine ⟨b, o + k * size, by simp [add_plain], fun j u hu => ?_⟩
  rw [List.getElem?_drop] at hu
  rw [Nat.add_assoc]
  exact hcell _ u hu
theorem Rd.of_own {base : Nat} {e : TypeId} {c : Nat} (h : w.ownsRow base e size (.slice A n c) n xs) : Rd w size A n xs := by
  refine ⟨h.1, fun hx => ?_⟩
  have hn : 0 < n := by rcases Nat.eq_zero_or_pos n with h0 | h0
                        · subst h0; have := h.1; omega
                        · exact h0
  obtain ⟨g, cap, hv, _, hlt⟩ := h.form hn
  have hA : A = some ⟨g, 0, none⟩ := by injection hv
  subst hA
  refine ⟨g, 0, rfl, fun j u hu => ?_⟩
  have := h.cells (g := g) rfl j u hu
  rwa [add_plain] at this
/-- A new block that reads as its own cells. -/
theorem Rd.new (w : World) (cs : Array Value) (t : TypeId) (n : Nat) (fz : Nat × Nat) (h : cs.size = n * size) : Rd (w.alloc (.cells cs t fz)) size (some ⟨w.heap.size, 0, none⟩) n cs.toList := by
  refine ⟨by simpa using h, fun _ => ⟨_, 0, rfl, fun j u hu => ?_⟩⟩
  have hb : (w.alloc (.cells cs t fz)).heap[w.heap.size]? = some (.cells cs t fz) := heap_alloc_new w _
  rw [Nat.zero_add, cell_of_row _ _ j cs t fz hb]
  simpa using hu
end

/-- The slice type t of the element type e: how many cells and bytes an element has. -/
def ElemT (P : Program) (t e : TypeId) (size bytes : Nat) : Prop :=
  P.underlying t = some (.slice e) ∧ ∃ i z, P.info? e = some i ∧ i.zero = some z ∧ i.size = size ∧ i.bytes = bytes ∧ z.cells.size = size ∧ 0 < size
theorem elem_mk {P : Program} {t e : TypeId} {z : Value} {size bytes : Nat} (ht : P.underlying t = some (.slice e)) (h : (P.info? e).map (fun i => (i.zero, i.size, i.bytes)) = some (some z, size, bytes))
    (hz : z.cells.size = size) (hs : 0 < size) : ElemT P t e size bytes := by
  obtain ⟨i, hi, h1, h2, h3⟩ := info_parts h
  exact ⟨ht, i, z, hi, h1, h2, h3, hz, hs⟩

section
variable {P : Program} (w : World)
theorem run_append_none (base : Nat) (t ty e : TypeId) (i : TypeInfo) (size : Nat) (ht : P.underlying t = some (.slice e)) (hi : P.info? e = some i)
    (v : Value) (n : Nat) (xs : List Value) (hown : w.ownsRow base e size v n xs) (c : Nat) : (Builtin.append_ #[t, t] ty #[v, .slice none 0 c]).run P w = .ok v w := by
  rcases hown.2 with ⟨rfl, rfl⟩ | ⟨g, cap, cur, rfl, _, _, hnc, _⟩
  · simp [Builtin.append_, run_underlying ht, sizeOf, typeInfo, hi, Builtin.lenOf, Builtin.firstCells]
  · simp [Builtin.append_, run_underlying ht, sizeOf, typeInfo, hi, Builtin.lenOf, Builtin.firstCells, hnc, storeCells]

theorem run_append_rd (base : Nat) (t ty e : TypeId) (size bytes : Nat) (E : ElemT P t e size bytes)
    (v : Value) (n : Nat) (xs : List Value) (hown : w.ownsRow base e size v n xs)
    (A : Option Addr) (m c : Nat) (news : List Value) (hr : Rd w size A m news) (h1 : ∀ u ∈ news, u.oneCell' = true)
    (hbytes : (n + m) * bytes ≤ 140737488355328) (h63 : n + m ≤ maxLen) (hbase : base ≤ w.heap.size) (hnil : A = none → m = 0) :
    ∃ v' w', (Builtin.append_ #[t, t] ty #[v, .slice A m c]).run P w = .ok v' w' ∧ w'.ownsRow base e size v' (n + m) (xs ++ news) ∧ w.grownBy w' v.ownBlock ∧
      (v'.ownBlock = v.ownBlock ∨ v'.ownBlock = some w.heap.size) := by
  obtain ⟨ht, i, z, hi, hz, hsize, hby, hzs, hsz⟩ := E
  rcases A with _ | ad
  · have hm : m = 0 := hnil rfl
    subst hm
    have hn : news = [] := List.eq_nil_of_length_eq_zero (by simpa using hr.1)
    subst hn
    exact ⟨v, w, run_append_none w base t ty e i size ht hi v n xs hown c, by simpa using hown, World.grownBy.refl w _, .inl rfl⟩
  · have hcells : ∀ j u, news[j]? = some u → w.cell? (ad.add j) = some u := by
      intro j u hu
      have hl : 0 < news.length := by have := (List.getElem?_eq_some_iff.1 hu).1; omega
      obtain ⟨b, o, he, hc⟩ := hr.2 hl
      injection he with he
      subst he
      rw [add_plain]
      exact hc j u hu
    obtain ⟨v', w', hrun, h2, h3, _, h5⟩ := run_append_own_at (P := P) w base t ty e i z size bytes ht hi hz hsize hby hzs hsz v n xs hown ad m c news hr.1 hcells h1 h63 hbytes hbase
    exact ⟨v', w', hrun, h2, h3, h5⟩

theorem wp_append_rd {o : Oper} {a : Act} {K : Act → World → Prop} {Q : Exit → Act → World → Prop} (s x : Operand) (t : TypeId)
    (ho : o.op = .call { callee := .builtin .append, args := #[s, x], argTypes := #[t, t] })
    (base : Nat) (e : TypeId) (size bytes : Nat) (E : ElemT P t e size bytes)
    (v : Value) (n : Nat) (xs : List Value) (hs : a.eval s = v) (hown : w.ownsRow base e size v n xs)
    (A : Option Addr) (m c : Nat) (news : List Value) (hx : a.eval x = .slice A m c) (hr : Rd w size A m news) (h1 : ∀ u ∈ news, u.oneCell' = true)
    (hbytes : (n + m) * bytes ≤ 140737488355328) (h63 : n + m ≤ maxLen) (hbase : base ≤ w.heap.size) (hnil : A = none → m = 0)
    (h : ∀ v' w', w'.ownsRow base e size v' (n + m) (xs ++ news) → w.grownBy w' v.ownBlock → (v'.ownBlock = v.ownBlock ∨ v'.ownBlock = some w.heap.size) → K (a.put o.dst v') w') : o.wp P a w K Q := by
  obtain ⟨v', w', hrun, h2, h3, h4⟩ := run_append_rd (P := P) w base t o.type e size bytes E v n xs hown A m c news hr h1 hbytes h63 hbase hnil
  unfold Oper.wp execOp
  simp only [ho, resolve, invoke, builtin, Sem.run_bind, Sem.run_pure, Result.andThen_ok, List.map_toArray, List.map_cons, List.map_nil, hs, hx, hrun]
  exact h v' w' h2 h3 h4

theorem wpList_append_rd {ops : Array Oper} {rest : List Oper} {o : Oper} {a : Act} {Q : Exit → Act → World → Prop} (hgd : o.guard = none) (s x : Operand) (t : TypeId)
    (ho : o.op = .call { callee := .builtin .append, args := #[s, x], argTypes := #[t, t] })
    (base : Nat) (e : TypeId) (size bytes : Nat) (E : ElemT P t e size bytes)
    (v : Value) (n : Nat) (xs : List Value) (hs : a.eval s = v) (hown : w.ownsRow base e size v n xs)
    (A : Option Addr) (m c : Nat) (news : List Value) (hx : a.eval x = .slice A m c) (hr : Rd w size A m news) (h1 : ∀ u ∈ news, u.oneCell' = true)
    (hbytes : (n + m) * bytes ≤ 140737488355328) (h63 : n + m ≤ maxLen) (hbase : base ≤ w.heap.size) (hnil : A = none → m = 0)
    (h : ∀ v' w', w'.ownsRow base e size v' (n + m) (xs ++ news) → w.grownBy w' v.ownBlock → (v'.ownBlock = v.ownBlock ∨ v'.ownBlock = some w.heap.size) → wpList P ops Q rest (a.put o.dst v') w') : wpList P ops Q (o :: rest) a w :=
  wpList_plain hgd fun _ hK => wp_append_rd w s x t ho base e size bytes E v n xs hs hown A m c news hx hr h1 hbytes h63 hbase hnil fun v' w' h2 h3 h4 => hK _ _ (h v' w' h2 h3 h4)
end

section
variable {P : Program} (w : World)
theorem wpList_wanted {ops : Array Oper} {rest : List Oper} {o : Oper} {a : Act} {Q : Exit → Act → World → Prop} {w : World} (hw : Region.wanted o (yielded ops a.tmps) = true)
    (h : ∀ K : Act → World → Prop, (∀ a w, wpList P ops Q rest a w → K a w) → o.wp P a w K Q) : wpList P ops Q (o :: rest) a w :=
  wpList_step fun K hK => by rw [if_pos hw]; exact h K hK
/-- The same law where the operation is guarded, and its guard says yes. -/
theorem wpList_append_rdg {ops : Array Oper} {rest : List Oper} {o : Oper} {a : Act} {Q : Exit → Act → World → Prop} (hgd : Region.wanted o (yielded ops a.tmps) = true) (s x : Operand) (t : TypeId)
    (ho : o.op = .call { callee := .builtin .append, args := #[s, x], argTypes := #[t, t] })
    (base : Nat) (e : TypeId) (size bytes : Nat) (E : ElemT P t e size bytes)
    (v : Value) (n : Nat) (xs : List Value) (hs : a.eval s = v) (hown : w.ownsRow base e size v n xs)
    (A : Option Addr) (m c : Nat) (news : List Value) (hx : a.eval x = .slice A m c) (hr : Rd w size A m news) (h1 : ∀ u ∈ news, u.oneCell' = true)
    (hbytes : (n + m) * bytes ≤ 140737488355328) (h63 : n + m ≤ maxLen) (hbase : base ≤ w.heap.size) (hnil : A = none → m = 0)
    (h : ∀ v' w', w'.ownsRow base e size v' (n + m) (xs ++ news) → w.grownBy w' v.ownBlock → (v'.ownBlock = v.ownBlock ∨ v'.ownBlock = some w.heap.size) → wpList P ops Q rest (a.put o.dst v') w') : wpList P ops Q (o :: rest) a w :=
  wpList_wanted hgd fun _ hK => wp_append_rd w s x t ho base e size bytes E v n xs hs hown A m c news hx hr h1 hbytes h63 hbase hnil fun v' w' h2 h3 h4 => hK _ _ (h v' w' h2 h3 h4)
end
/-- The same law inside a region that draws its order. -/
theorem step_append_rd {P : Program} {w : World} {ops : Array Oper} {o : Oper} {a : Act} {K : Act → World → Prop} {Q : Exit → Act → World → Prop} {E : Prop} (hgd : Region.wanted o (yielded ops a.tmps) = true) (s x : Operand) (t : TypeId)
    (ho : o.op = .call { callee := .builtin .append, args := #[s, x], argTypes := #[t, t] })
    (base : Nat) (e : TypeId) (size bytes : Nat) (ET : ElemT P t e size bytes)
    (v : Value) (n : Nat) (xs : List Value) (hs : a.eval s = v) (hown : w.ownsRow base e size v n xs)
    (A : Option Addr) (m c : Nat) (news : List Value) (hx : a.eval x = .slice A m c) (hr : Rd w size A m news) (h1 : ∀ u ∈ news, u.oneCell' = true)
    (hbytes : (n + m) * bytes ≤ 140737488355328) (h63 : n + m ≤ maxLen) (hbase : base ≤ w.heap.size) (hnil : A = none → m = 0)
    (h : ∀ v' w', w'.ownsRow base e size v' (n + m) (xs ++ news) → w.grownBy w' v.ownBlock → (v'.ownBlock = v.ownBlock ∨ v'.ownBlock = some w.heap.size) → K (a.put o.dst v') w') :
    if Region.wanted o (yielded ops a.tmps) = true then Oper.wp P o a w K Q else E := by
  rw [if_pos hgd]
  exact wp_append_rd w s x t ho base e size bytes ET v n xs hs hown A m c news hx hr h1 hbytes h63 hbase hnil h
/-- 'make([]T, n)' of one-cell elements: an equation for every world. -/
theorem make_one {P : Program} {t e : TypeId} {z : Value} {bytes : Nat} (ht : P.underlying t = some (.slice e)) (h : (P.info? e).map (fun i => (i.zero, i.size, i.bytes)) = some (some z, 1, bytes)) (hz : z.cells = #[z])
    (n : Nat) (hb : bytes * n ≤ 281474976710656) (hm : n ≤ maxLen) :
    ∃ cs : Array Value, cs.size = n ∧ cs.toList = List.replicate n z ∧ ∀ (kl kc : IntKind) (W : World), (Instr.makeSlice t (.int kl (n : Int)) (.int kc (n : Int))).run P W = .ok (.slice (some ⟨W.heap.size, 0, none⟩) n n) (W.alloc (.cells cs e)) := by
  obtain ⟨i, hi, h1, h2, h3⟩ := info_parts h
  refine ⟨madeCells z.cells (n * i.size), by rw [size_madeCells, h2, Nat.mul_one], ?_, fun kl kc W => ?_⟩
  · rw [h2, Nat.mul_one, hz]
    apply List.ext_getElem
    · simp [madeCells]
    · intro j h1 h2
      simp [madeCells, Nat.mod_one]
  · have hb' : (i.bytes : Int) * (n : Int) ≤ 281474976710656 := by
      rw [h3]
      have h : ((bytes * n : Nat) : Int) ≤ 281474976710656 := by omega
      rwa [Int.natCast_mul] at h
    have hm' : n ≤ 9223372036854775807 := by simp only [maxLen] at hm; omega
    have hr := run_make (P := P) W t e i z ht hi h1 kl kc n n (by omega) (by omega) hb' (by omega)
    simp only [Int.toNat_natCast] at hr
    exact hr
/-- A new block that holds just its own cells is a row of the call's own. -/
theorem own_new (w : World) (cs : Array Value) (e : TypeId) (size n base : Nat) (h : cs.size = n * size) (hm : n ≤ maxLen) (hb : base ≤ w.heap.size) :
    (w.alloc (.cells cs e)).ownsRow base e size (.slice (some ⟨w.heap.size, 0, none⟩) n n) n cs.toList := by
  refine ⟨by simpa using h, .inr ⟨_, n, cs, rfl, hb, heap_alloc_new w _, Nat.le_refl _, hm, h, ?_⟩⟩
  rw [List.take_of_length_le (by simp [h])]
theorem below_drewN {B : Nat} {a w : World} (h : Below B a w) (n : Nat) : Below B a (w.drewN n) := ⟨h.os, h.tape, h.output, h.size, h.block⟩
/-- 's == nil' of a slice. -/
theorem eql_slice_nil_any {P : Program} {t e : TypeId} (h : P.underlying t = some (.slice e)) (w : World) (a : Option Addr) (n c n' c' : Nat) :
    (binOp .eql t (.slice a n c) (.slice none n' c')).run P w = .ok (.bool a.isNone) w := by
  simp only [binOp]
  simp [Op.equal, Op.maxDepth, Lib.run_equalIn_slice_nil w 9999 t e a n c n' c' h]
/-- An own row stays while only new blocks are made and written. -/
theorem own_below {w w' : World} {base : Nat} {e : TypeId} {size n : Nat} {v : Value} {xs : List Value} (h : w.ownsRow base e size v n xs) (hb : Below w.heap.size w w') : w'.ownsRow base e size v n xs := by
  refine ⟨h.1, ?_⟩
  rcases h.2 with h0 | ⟨g, cap, cur, hv, hbase, hh, hr⟩
  · exact .inl h0
  · have hlt : g < w.heap.size := by
      rcases Nat.lt_or_ge g w.heap.size with hlt | hge
      · exact hlt
      · rw [Array.getElem?_eq_none hge] at hh; cases hh
    exact .inr ⟨g, cap, cur, hv, hbase, (hb.block g hlt).trans hh, hr⟩
/-- A call's own row: in blocks from B on. -/
theorem own_grown {B : Nat} {a w w' : World} {e : TypeId} {size n : Nat} {v : Value} {xs : List Value} (h : Below B a w) (ho : w.ownsRow B e size v n xs) (hg : w.grownBy w' v.ownBlock) (hB : B ≤ w.heap.size) : Below B a w' :=
  h.grown hg hB fun _ hk => (ho.lt _ hk).1
theorem qA {α : Type} (l : List α) (i : Nat) (a : α) : l.toArray.setIfInBounds i a = (l.set i a).toArray := List.setIfInBounds_toArray ..
theorem qZ {α : Type} (a b : α) (l : List α) : (a :: l).set 0 b = b :: l := rfl
theorem qS {α : Type} (a b : α) (l : List α) (i : Nat) : (a :: l).set (i + 1) b = a :: l.set i b := rfl
end Go.Proofs.YtcmollfhlillfaaGreatDoor
/-
  Words for bytes in memory.
-/
namespace Go.Proofs.YtcmollfhlillfaaGreatDoor
open Go.RowKit
/-- A byte as a cell. -/
def bv (u : UInt8) : Value := .int .u8 (u.toNat : Int)
def bvs (l : List UInt8) : List Value := l.map bv
theorem bvs_one (l : List UInt8) : ∀ u ∈ bvs l, u.oneCell' = true := by
  intro u hu
  obtain ⟨x, _, rfl⟩ := List.mem_map.1 hu
  rfl
theorem bvs_length (l : List UInt8) : (bvs l).length = l.length := List.length_map _
theorem Rd.byte {w : World} {A : Option Addr} {l : List UInt8} (h : Rd w 1 A l.length (bvs l)) {k : Nat} (hk : k < l.length) :
    ∃ b o, A = some ⟨b, o, none⟩ ∧ w.cell? ⟨b, o + k, none⟩ = some (.int .u8 (l[k].toNat : Int)) := by
  obtain ⟨b, o, e, hc⟩ := h.2 (by rw [bvs_length]; omega)
  exact ⟨b, o, e, hc k _ (by simp [bvs, bv, hk])⟩
/-- 'string(b)' where b reads as these bytes. -/
theorem run_str_rd {P : Program} {w : World} (src dst e : TypeId) {A : Option Addr} (c : Nat) {l : List UInt8} (hs : P.underlying src = some (.slice e)) (he : P.underlying e = some (.int .u8)) (hd : P.underlying dst = some .string)
    (hA : A = none → l.length = 0) (h : Rd w 1 A l.length (bvs l)) : (convert src dst (.slice A l.length c)).run P w = .ok (.string ⟨l.toArray⟩) w := by
  rcases A with _ | a
  · have hl : l = [] := List.eq_nil_of_length_eq_zero (hA rfl)
    subst hl
    exact run_convert_bytes_nil w src e hs he _ _ dst hd
  · refine run_convert_bytes_back w src dst e a c l hs he hd fun j hj => ?_
    obtain ⟨b, o, hb, hc⟩ := h.byte hj
    injection hb with hb
    subst hb
    rw [add_plain]; exact hc
theorem run_str_n {P : Program} {w : World} (src dst e : TypeId) {A : Option Addr} {n : Nat} (c : Nat) {l : List UInt8} (hn : l.length = n) (hs : P.underlying src = some (.slice e)) (he : P.underlying e = some (.int .u8)) (hd : P.underlying dst = some .string)
    (hA : A = none → n = 0) (h : Rd w 1 A n (bvs l)) : (convert src dst (.slice A n c)).run P w = .ok (.string ⟨l.toArray⟩) w := by
  subst hn
  exact run_str_rd src dst e c hs he hd hA h
theorem own_nil {w : World} {base n c size : Nat} {e : TypeId} {A : Option Addr} {xs : List Value} (h : w.ownsRow base e size (.slice A n c) n xs) : A = none → n = 0 := by
  rintro rfl
  rcases h.2 with ⟨_, h⟩ | ⟨g, cap, cur, h, _⟩
  · exact h
  · cases h
theorem own_cap {w : World} {base n c size : Nat} {e : TypeId} {A : Option Addr} {xs : List Value} (h : w.ownsRow base e size (.slice A n c) n xs) : n ≤ c := by
  rcases h.2 with ⟨h, h0⟩ | ⟨g, cap, cur, h, _, _, hn, _⟩
  · omega
  · injection h with _ _ h3; omega
theorem own_form {w : World} {base n size : Nat} {e : TypeId} {v : Value} {xs : List Value} (h : w.ownsRow base e size v n xs) : ∃ A c, v = .slice A n c := by
  rcases h.2 with ⟨hv, h0⟩ | ⟨g, cap, cur, hv, _, _, hn, _⟩
  · exact ⟨none, 0, by rw [h0]; exact hv⟩
  · exact ⟨_, _, hv⟩
end Go.Proofs.YtcmollfhlillfaaGreatDoor
/-
  Numbers and texts as bytes: plain functions, and reading what was written.
-/
namespace Go.Proofs.YtcmollfhlillfaaGreatDoor
set_option linter.unusedVariables false
set_option linter.unusedSimpArgs false
/-- A number's bytes. -/
def putN (n : Nat) : List UInt8 := if h : n < 128 then [UInt8.ofNat n] else UInt8.ofNat (n % 128 + 128) :: putN (n / 128)
termination_by n
decreasing_by omega
theorem putN_small {n : Nat} (h : n < 128) : putN n = [UInt8.ofNat n] := by rw [putN, dif_pos h]
theorem putN_big {n : Nat} (h : ¬ n < 128) : putN n = UInt8.ofNat (n % 128 + 128) :: putN (n / 128) := by rw [putN, dif_neg h]
theorem putN_ne (n : Nat) : putN n ≠ [] := by
  by_cases h : n < 128
  · rw [putN_small h]; simp
  · rw [putN_big h]; simp
theorem putN_pos (n : Nat) : 1 ≤ (putN n).length := by
  have := putN_ne n
  cases h : putN n with
  | nil => exact absurd h this
  | cons x r => simp
theorem putN_len : ∀ (k n : Nat), n < 128 ^ k → 1 ≤ k → (putN n).length ≤ k
  | 0, n, _, hk => by omega
  | 1, n, h, _ => by rw [putN_small (by simpa using h)]; simp
  | k + 2, n, h, _ => by
    by_cases hn : n < 128
    · rw [putN_small hn]; simp
    · rw [putN_big hn, List.length_cons]
      have h2 : n / 128 < 128 ^ (k + 1) := by
        rw [Nat.pow_succ] at h
        exact Nat.div_lt_of_lt_mul (by rw [Nat.mul_comm]; exact h)
      have := putN_len (k + 1) (n / 128) h2 (by omega)
      omega
theorem putN_len9 {n : Nat} (h : n < 9223372036854775808) : (putN n).length ≤ 9 := putN_len 9 n (by simpa using h) (by omega)
theorem putN_len3 {n : Nat} (h : n < 2097152) : (putN n).length ≤ 3 := putN_len 3 n (by simpa using h) (by omega)
/-- How a number is read: the number, how many bytes, the error. -/
def numGo (i acc : Nat) : List UInt8 → Nat × Nat × Nat
  | [] => if 9 ≤ i then (0, 0, 2) else (0, 0, 3)
  | x :: r => if i = 9 then (0, 0, 2) else if 128 ≤ x.toNat then numGo (i + 1) (acc + x.toNat % 128 * 128 ^ i) r else if x.toNat = 0 ∧ 0 < i then (0, 0, 2) else (acc + x.toNat * 128 ^ i, i + 1, 0)
def numF (l : List UInt8) : Nat × Nat × Nat := numGo 0 0 l
theorem numGo_put (n : Nat) : ∀ (i acc : Nat) (r : List UInt8), i + (putN n).length ≤ 9 → (0 < i → n ≠ 0) → numGo i acc (putN n ++ r) = (acc + n * 128 ^ i, i + (putN n).length, 0) := by
  induction n using Nat.strongRecOn with
  | _ n ih =>
    intro i acc r hi h0
    by_cases h : n < 128
    · rw [putN_small h] at hi ⊢
      have e : (UInt8.ofNat n).toNat = n := by rw [UInt8.toNat_ofNat']; omega
      simp only [List.length_singleton] at hi
      simp only [List.singleton_append, numGo, e]
      rw [if_neg (by omega), if_neg (by omega), if_neg (by omega)]; rfl
    · rw [putN_big h] at hi ⊢
      have e : (UInt8.ofNat (n % 128 + 128)).toNat = n % 128 + 128 := by rw [UInt8.toNat_ofNat']; omega
      simp only [List.length_cons] at hi
      simp only [List.cons_append, numGo, e]
      rw [if_neg (by omega), if_pos (by omega), ih (n / 128) (by omega) (i + 1) _ r (by omega) (fun _ => by omega)]
      have e2 : acc + (n % 128 + 128) % 128 * 128 ^ i + n / 128 * 128 ^ (i + 1) = acc + n * 128 ^ i := by
        have e3 : (n % 128 + 128) % 128 = n % 128 := by omega
        rw [e3, Nat.pow_succ, Nat.mul_comm (128 ^ i) 128, ← Nat.mul_assoc, Nat.add_assoc, ← Nat.add_mul]
        have e4 : n % 128 + n / 128 * 128 = n := by omega
        rw [e4]
      rw [e2, List.length_cons]
      simp only [Prod.mk.injEq]
      exact ⟨trivial, by omega, trivial⟩
theorem numF_put {n : Nat} (hn : n < 9223372036854775808) (r : List UInt8) : numF (putN n ++ r) = (n, (putN n).length, 0) := by
  unfold numF
  rw [numGo_put n 0 0 r (by have := putN_len9 hn; omega) (fun h => absurd h (by omega))]
  simp
theorem numGo_used (l : List UInt8) : ∀ i acc, (numGo i acc l).2.1 ≤ i + l.length := by
  induction l with
  | nil => intro i acc; unfold numGo; split <;> simp
  | cons x r ih =>
    intro i acc
    unfold numGo
    split
    · simp
    · split
      · have := ih (i + 1) (acc + x.toNat % 128 * 128 ^ i)
        simp only [List.length_cons]; omega
      · split
        · simp
        · simp
theorem numF_used (l : List UInt8) : (numF l).2.1 ≤ l.length := by
  have := numGo_used l 0 0
  unfold numF; omega
theorem numGo_lt (l : List UInt8) : ∀ i acc, i ≤ 9 → acc < 128 ^ i → (numGo i acc l).1 < 9223372036854775808 := by
  induction l with
  | nil => intro i acc _ h; unfold numGo; split <;> simp
  | cons x r ih =>
    intro i acc hi9 h
    unfold numGo
    split
    · simp
    · rename_i hi
      split
      · refine ih (i + 1) _ (by omega) ?_
        rw [Nat.pow_succ]
        have h1 : x.toNat % 128 ≤ 127 := by omega
        have h2 : x.toNat % 128 * 128 ^ i ≤ 127 * 128 ^ i := Nat.mul_le_mul_right _ h1
        omega
      · split
        · simp
        · rename_i h128 _
          simp only
          have h1 : x.toNat ≤ 127 := by omega
          have h2 : x.toNat * 128 ^ i ≤ 127 * 128 ^ i := Nat.mul_le_mul_right _ h1
          have h3 : 128 ^ (i + 1) ≤ 128 ^ 9 := Nat.pow_le_pow_right (by omega) (by omega)
          rw [Nat.pow_succ] at h3
          have h4 : (128 : Nat) ^ 9 = 9223372036854775808 := by decide
          omega
theorem numF_lt (l : List UInt8) : (numF l).1 < 9223372036854775808 := numGo_lt l 0 0 (by omega) (by simp)
/-- A text's bytes. -/
def putT (s : List UInt8) : List UInt8 := putN s.length ++ s
/-- How a text is read. -/
def textF (l : List UInt8) : List UInt8 × Nat × Nat :=
  if (numF l).2.2 ≠ 0 then ([], 0, (numF l).2.2) else if 65536 < (numF l).1 then ([], 0, 6) else if l.length - (numF l).2.1 < (numF l).1 then ([], 0, 3) else ((l.drop (numF l).2.1).take (numF l).1, (numF l).2.1 + (numF l).1, 0)
theorem textF_put {s : List UInt8} (hs : s.length ≤ 65536) (r : List UInt8) : textF (putT s ++ r) = (s, (putT s).length, 0) := by
  unfold textF putT
  rw [List.append_assoc, numF_put (by omega)]
  simp only
  rw [if_neg (by omega), if_neg (by omega), if_neg (by simp only [List.length_append]; omega), List.drop_left, List.take_left, List.length_append]
theorem putT_len {s : List UInt8} (hs : s.length ≤ 65536) : (putT s).length ≤ s.length + 3 := by
  unfold putT
  rw [List.length_append]
  have := putN_len3 (n := s.length) (by omega)
  omega
end Go.Proofs.YtcmollfhlillfaaGreatDoor
