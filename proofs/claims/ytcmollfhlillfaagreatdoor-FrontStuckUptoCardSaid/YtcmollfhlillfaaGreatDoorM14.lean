/-
  Texts of this seat in one: KBytes, Reps, Obj.
-/
import Derived.Test.YtcmollfhlillfaaGreatDoorM13
import Derived.Test.YtcmollfhlillfaaGreatDoorM5
import Derived.Test.YtcmollfhlillfaaGreatDoorM10
import Derived.Test.YtcmollfhlillfaaGreatDoorM12
/-
  code.Writer's Bytes: all, or nothing and the error.
-/
namespace Go.Proofs.YtcmollfhlillfaaGreatDoor
open Go.RowKit
set_option linter.unusedVariables false
set_option linter.unusedSimpArgs false
set_option maxHeartbeats 2000000 in
set_option maxRecDepth 100000 in
/-- A writer without an error hands back its row. -/
theorem wbytes_any {w : World} {B p : Nat} {v : Value} {l : List UInt8} (h : WrAt w B p v (l, 0)) :
    Calls Tryz.prog 69 #[.pointer (some ⟨p, 0, none⟩)] w fun e w' => e = .returned (.tuple #[v, .int .i64 0]) ∧ w' = w := by
  obtain ⟨A1, c1, hv1⟩ := own_form h.2.2
  subst hv1
  have d0 := cell_of_row _ _ 0 _ _ (0, 0) h.2.1
  have d1 := cell_of_row _ _ 1 _ _ (0, 0) h.2.1
  clear h
  go_enter Tryz.func69, Tryz.ntmps69
  go_wp2_with fail
  go_ret2
  exact ⟨rfl, rfl⟩

end Go.Proofs.YtcmollfhlillfaaGreatDoor
/-
  How data lie in memory: a representation tells the cells, what they mean, and in which blocks that lies.
-/
namespace Go.Proofs.YtcmollfhlillfaaGreatDoor
open Go.RowKit
set_option linter.unusedVariables false
set_option linter.unusedSimpArgs false
/-- Cells, their meaning, the blocks behind them. -/
structure Rep (α : Type) where
  size : Nat
  holds : World → List Value → α → List Nat → Prop
  frame : ∀ {w w' : World} {cs : List Value} {a : α} {X : List Nat} {F : Nat → Prop}, holds w cs a X → Hits F w w' → (∀ k ∈ X, ¬ F k) → holds w' cs a X
  lt : ∀ {w : World} {cs : List Value} {a : α} {X : List Nat}, holds w cs a X → ∀ k ∈ X, k < w.heap.size
  len : ∀ {w : World} {cs : List Value} {a : α} {X : List Nat}, holds w cs a X → cs.length = size
  one : ∀ {w : World} {cs : List Value} {a : α} {X : List Nat}, holds w cs a X → ∀ u ∈ cs, u.oneCell' = true
theorem Rep.later {α : Type} (r : Rep α) {w w' : World} {cs : List Value} {a : α} {X : List Nat} (h : r.holds w cs a X) (hl : Later w w') : r.holds w' cs a X := r.frame h (Hits.later (F := fun _ => False) hl) fun _ _ hf => hf
/-- Plain cells. -/
def plainR {α : Type} (enc : α → List Value) (n : Nat) (h : ∀ a, (enc a).length = n) (h1 : ∀ a, ∀ u ∈ enc a, u.oneCell' = true) : Rep α where
  size := n
  holds _ cs a X := cs = enc a ∧ X = []
  frame h _ _ := h
  lt h k hk := by rw [h.2] at hk; cases hk
  len e := by rw [e.1]; exact h _
  one e := by rw [e.1]; exact h1 _
def intR : Rep Int := plainR (fun n => [.int .i64 n]) 1 (fun _ => rfl) (fun _ u hu => by rw [List.mem_singleton.1 hu]; rfl)
def strR : Rep ByteArray := plainR (fun s => [.string s]) 1 (fun _ => rfl) (fun _ u hu => by rw [List.mem_singleton.1 hu]; rfl)
/-- Rows of cells, what they mean, the blocks behind each. -/
def Rows {α : Type} (r : Rep α) (w : World) : List (List Value) → List α → List (List Nat) → Prop
  | [], [], [] => True
  | c :: cs, a :: vs, x :: xs => r.holds w c a x ∧ Rows r w cs vs xs
  | _, _, _ => False
section
variable {α : Type} {r : Rep α} {w w' : World}
theorem Rows.nil : Rows r w [] [] [] := trivial
theorem Rows.lens : ∀ {cs : List (List Value)} {vs : List α} {xs : List (List Nat)}, Rows r w cs vs xs → cs.length = vs.length ∧ xs.length = vs.length
  | [], [], [], _ => ⟨rfl, rfl⟩
  | c :: cs, a :: vs, x :: xs, h => by have := Rows.lens h.2; simp [this.1, this.2]
theorem Rows.flat_len : ∀ {cs : List (List Value)} {vs : List α} {xs : List (List Nat)}, Rows r w cs vs xs → cs.flatten.length = vs.length * r.size
  | [], [], [], _ => by simp
  | c :: cs, a :: vs, x :: xs, h => by
    have h1 := Rows.flat_len h.2
    have h2 := r.len h.1
    rw [List.flatten_cons, List.length_append, h1, h2, List.length_cons, Nat.add_mul, Nat.one_mul, Nat.add_comm]
theorem Rows.one : ∀ {cs : List (List Value)} {vs : List α} {xs : List (List Nat)}, Rows r w cs vs xs → ∀ u ∈ cs.flatten, u.oneCell' = true
  | [], [], [], _, u, hu => by cases hu
  | c :: cs, a :: vs, x :: xs, h, u, hu => by
    rw [List.flatten_cons] at hu
    rcases List.mem_append.1 hu with h1 | h1
    · exact r.one h.1 u h1
    · exact Rows.one h.2 u h1
theorem Rows.lt : ∀ {cs : List (List Value)} {vs : List α} {xs : List (List Nat)}, Rows r w cs vs xs → ∀ k ∈ xs.flatten, k < w.heap.size
  | [], [], [], _, k, hk => by cases hk
  | c :: cs, a :: vs, x :: xs, h, k, hk => by
    rw [List.flatten_cons] at hk
    rcases List.mem_append.1 hk with h1 | h1
    · exact r.lt h.1 k h1
    · exact Rows.lt h.2 k h1
theorem Rows.frame {F : Nat → Prop} (hh : Hits F w w') : ∀ {cs : List (List Value)} {vs : List α} {xs : List (List Nat)}, Rows r w cs vs xs → (∀ k ∈ xs.flatten, ¬ F k) → Rows r w' cs vs xs
  | [], [], [], _, _ => trivial
  | c :: cs, a :: vs, x :: xs, h, hF => by
    rw [List.flatten_cons] at hF
    exact ⟨r.frame h.1 hh fun k hk => hF k (List.mem_append_left _ hk), Rows.frame hh h.2 fun k hk => hF k (List.mem_append_right _ hk)⟩
theorem Rows.append : ∀ {cs ds : List (List Value)} {vs bs : List α} {xs ys : List (List Nat)}, Rows r w cs vs xs → Rows r w ds bs ys → Rows r w (cs ++ ds) (vs ++ bs) (xs ++ ys)
  | [], ds, [], bs, [], ys, _, k => k
  | c :: cs, ds, a :: vs, bs, x :: xs, ys, h, k => ⟨h.1, Rows.append h.2 k⟩
theorem Rows.at_ : ∀ {cs : List (List Value)} {vs : List α} {xs : List (List Nat)} {i : Nat} {a : α}, Rows r w cs vs xs → vs[i]? = some a → ∃ c x, cs[i]? = some c ∧ xs[i]? = some x ∧ r.holds w c a x
  | [], [], [], i, a, _, e => by simp at e
  | c :: cs, b :: vs, x :: xs, 0, a, h, e => by
    have e2 : b = a := by simpa using e
    subst e2
    exact ⟨c, x, rfl, rfl, h.1⟩
  | c :: cs, b :: vs, x :: xs, i + 1, a, h, e => by
    obtain ⟨c', x', h1, h2, h3⟩ := Rows.at_ h.2 (show vs[i]? = some a by simpa using e)
    exact ⟨c', x', by simpa using h1, by simpa using h2, h3⟩
theorem Rows.take : ∀ {cs : List (List Value)} {vs : List α} {xs : List (List Nat)} (k : Nat), Rows r w cs vs xs → Rows r w (cs.take k) (vs.take k) (xs.take k)
  | [], [], [], k, _ => by simp [Rows]
  | c :: cs, a :: vs, x :: xs, 0, h => trivial
  | c :: cs, a :: vs, x :: xs, k + 1, h => ⟨h.1, Rows.take k h.2⟩
theorem Rows.drop : ∀ {cs : List (List Value)} {vs : List α} {xs : List (List Nat)} (k : Nat), Rows r w cs vs xs → Rows r w (cs.drop k) (vs.drop k) (xs.drop k)
  | [], [], [], k, _ => by simp [Rows]
  | c :: cs, a :: vs, x :: xs, 0, h => h
  | c :: cs, a :: vs, x :: xs, k + 1, h => Rows.drop k h.2
theorem Rows.set {c : List Value} {a : α} {x : List Nat} (hc : r.holds w c a x) : ∀ {cs : List (List Value)} {vs : List α} {xs : List (List Nat)} (i : Nat), Rows r w cs vs xs → Rows r w (cs.set i c) (vs.set i a) (xs.set i x)
  | [], [], [], i, _ => trivial
  | _ :: cs, _ :: vs, _ :: xs, 0, h => ⟨hc, h.2⟩
  | _ :: cs, _ :: vs, _ :: xs, i + 1, h => ⟨h.1, Rows.set hc i h.2⟩
theorem rflat_take {cs : List (List Value)} {n : Nat} (h : ∀ c ∈ cs, c.length = n) : ∀ k, cs.flatten.take (k * n) = (cs.take k).flatten := by
  induction cs with
  | nil => intro k; simp
  | cons c cs ih =>
    intro k
    cases k with
    | zero => simp
    | succ k =>
      rw [List.take_succ_cons, List.flatten_cons, List.flatten_cons, ← ih (fun d hd => h d (List.mem_cons_of_mem _ hd)) k, List.take_append, h c (List.mem_cons_self ..), List.take_of_length_le (by rw [h c (List.mem_cons_self ..), Nat.succ_mul]; omega)]
      congr 2
      rw [Nat.succ_mul]; omega
theorem rflat_drop {cs : List (List Value)} {n : Nat} (h : ∀ c ∈ cs, c.length = n) : ∀ k, cs.flatten.drop (k * n) = (cs.drop k).flatten := by
  induction cs with
  | nil => intro k; simp
  | cons c cs ih =>
    intro k
    cases k with
    | zero => simp
    | succ k =>
      rw [List.drop_succ_cons, List.flatten_cons, ← ih (fun d hd => h d (List.mem_cons_of_mem _ hd)) k, List.drop_append, h c (List.mem_cons_self ..), List.drop_of_length_le (by rw [h c (List.mem_cons_self ..), Nat.succ_mul]; omega), List.nil_append]
      congr 1
      rw [Nat.succ_mul]; omega
theorem rflat_at {cs : List (List Value)} {n : Nat} (h : ∀ c ∈ cs, c.length = n) {i : Nat} {c : List Value} (hc : cs[i]? = some c) (j : Nat) (hj : j < n) : cs.flatten[i * n + j]? = c[j]? := by
  have h1 := rflat_drop h i
  have h2 : cs.drop i = c :: cs.drop (i + 1) := by
    have e := List.getElem?_eq_some_iff.1 hc
    rw [List.drop_eq_getElem_cons e.1, e.2]
  rw [← List.getElem?_drop, h1, h2, List.flatten_cons, List.getElem?_append_left (by rw [h c (List.mem_of_getElem? hc)]; exact hj)]
theorem Rows.each {cs : List (List Value)} {vs : List α} {xs : List (List Nat)} (h : Rows r w cs vs xs) : ∀ c ∈ cs, c.length = r.size := by
  intro c hc
  obtain ⟨i, hi⟩ := List.getElem?_of_mem hc
  have hl := h.lens
  have hlt : i < vs.length := by have := (List.getElem?_eq_some_iff.1 hi).1; omega
  obtain ⟨c', x, h1, h2, h3⟩ := h.at_ (List.getElem?_eq_getElem hlt)
  rw [hi] at h1
  injection h1 with h1
  subst h1
  exact r.len h3
end
/-- The block of a row, vs a list. -/
def obL (v : Value) : List Nat := match v.ownBlock with
  | some g => [g]
  | none => []
theorem mem_obL {v : Value} {g : Nat} : g ∈ obL v ↔ v.ownBlock = some g := by
  unfold obL
  cases v.ownBlock with
  | none => simp
  | some k => simp [eq_comm]
theorem obL_nodup (v : Value) : (obL v).Nodup := by
  unfold obL
  cases v.ownBlock with
  | none => exact List.nodup_nil
  | some k => simp
/-- An own row of elements. -/
def sliceR {α : Type} (t : TypeId) (r : Rep α) : Rep (List α) where
  size := 1
  holds w cs L X := ∃ v rows xs, cs = [v] ∧ w.ownsRow 0 t r.size v L.length rows.flatten ∧ Rows r w rows L xs ∧ X = obL v ++ xs.flatten
  frame := by
    rintro w w' cs a X F ⟨v, rows, xs, rfl, h1, h2, rfl⟩ hh hF
    exact ⟨v, rows, xs, rfl, hh.own h1 fun k hk => hF k (List.mem_append_left _ (mem_obL.2 hk)), h2.frame hh fun k hk => hF k (List.mem_append_right _ hk), rfl⟩
  lt := by
    rintro w cs a X ⟨v, rows, xs, rfl, h1, h2, rfl⟩ k hk
    rcases List.mem_append.1 hk with h | h
    · exact (own_block h1 (mem_obL.1 h)).2.1
    · exact h2.lt k h
  len := by rintro w cs a X ⟨v, rows, xs, rfl, _⟩; rfl
  one := by
    rintro w cs a X ⟨v, rows, xs, rfl, h1, _⟩ u hu
    rw [List.mem_singleton.1 hu]
    obtain ⟨A, c, rfl⟩ := own_form h1
    rfl
/-- A row that grows: its elements lie in X, none in the row's own block. -/
def SliceP {α : Type} (base : Nat) (t : TypeId) (r : Rep α) (w : World) (v : Value) (L : List α) (X : List Nat) : Prop :=
  ∃ rows xs, w.ownsRow base t r.size v L.length rows.flatten ∧ Rows r w rows L xs ∧ X = xs.flatten ∧ ∀ k ∈ X, v.ownBlock ≠ some k
section
variable {α : Type} {base : Nat} {t : TypeId} {r : Rep α} {w w' : World} {v : Value} {L : List α} {X : List Nat}
theorem SliceP.nil (base : Nat) (t : TypeId) (r : Rep α) (w : World) : SliceP base t r w (.slice none 0 0) [] [] :=
  ⟨[], [], World.ownsRow_nil _ _ _ _, trivial, rfl, fun k hk => by cases hk⟩
theorem SliceP.hits {F : Nat → Prop} (h : SliceP base t r w v L X) (hh : Hits F w w') (hv : ∀ k, v.ownBlock = some k → ¬ F k) (hX : ∀ k ∈ X, ¬ F k) : SliceP base t r w' v L X := by
  obtain ⟨rows, xs, h1, h2, rfl, h3⟩ := h
  exact ⟨rows, xs, hh.own h1 hv, h2.frame hh hX, rfl, h3⟩
theorem SliceP.later (h : SliceP base t r w v L X) (hl : Later w w') : SliceP base t r w' v L X := h.hits (Hits.later (F := fun _ => False) hl) (fun _ _ hf => hf) fun _ _ hf => hf
theorem SliceP.holds (h : SliceP base t r w v L X) : (sliceR t r).holds w [v] L (obL v ++ X) := by
  obtain ⟨rows, xs, h1, h2, rfl, h3⟩ := h
  refine ⟨v, rows, xs, rfl, ?_, h2, rfl⟩
  exact own_base h1 (Nat.zero_le _)
theorem SliceP.form (h : SliceP base t r w v L X) : ∃ A c, v = .slice A L.length c := by
  obtain ⟨rows, xs, h1, _⟩ := h
  exact own_form h1
theorem SliceP.lt (h : SliceP base t r w v L X) : ∀ k ∈ X, k < w.heap.size := by
  obtain ⟨rows, xs, h1, h2, rfl, h3⟩ := h
  exact h2.lt
theorem SliceP.own (h : SliceP base t r w v L X) : ∃ rows : List (List Value), w.ownsRow base t r.size v L.length rows.flatten := by
  obtain ⟨rows, xs, h1, _⟩ := h
  exact ⟨rows, h1⟩
theorem SliceP.block (h : SliceP base t r w v L X) {g : Nat} (hg : v.ownBlock = some g) : base ≤ g ∧ g < w.heap.size ∧ ∃ cs, w.heap[g]? = some (.cells cs t (0, 0)) := by
  obtain ⟨rows, xs, h1, _⟩ := h
  exact own_block h1 hg
end
/-- The cells of an element of an own row. -/
theorem rows_cells {α : Type} {base : Nat} {t : TypeId} {r : Rep α} {w : World} {A : Option Addr} {n c : Nat} {L : List α} {rows : List (List Value)} {xs : List (List Nat)} (ho : w.ownsRow base t r.size (.slice A n c) L.length rows.flatten) (hr : Rows r w rows L xs) {i : Nat} {el : α} (hi : L[i]? = some el) (hs : 0 < r.size) :
    ∃ g cells x, A = some ⟨g, 0, none⟩ ∧ (∀ j u, cells[j]? = some u → w.cell? ⟨g, i * r.size + j, none⟩ = some u) ∧ r.holds w cells el x ∧ xs[i]? = some x := by
  obtain ⟨cells, x, h1, h2, h3⟩ := hr.at_ hi
  have hlt : i < L.length := (List.getElem?_eq_some_iff.1 hi).1
  rcases ho.2 with ⟨hv, h0⟩ | ⟨g, cap, cur, hv, _⟩
  · omega
  · injection hv with e1 e2 e3
    subst e1 e2
    have hrd := Rd.of_own ho
    have hpos : 0 < rows.flatten.length := by rw [hr.flat_len]; exact Nat.mul_pos (by omega) hs
    obtain ⟨b, o, e, hc⟩ := hrd.2 hpos
    injection e with e; injection e with e1 e2 _
    subst e1 e2
    refine ⟨g, cells, x, rfl, fun j u hu => ?_, h3, h2⟩
    have hj : j < r.size := by rw [← r.len h3]; exact (List.getElem?_eq_some_iff.1 hu).1
    have := hc (i * r.size + j) u (by rw [rflat_at hr.each h1 j hj]; exact hu)
    rwa [Nat.zero_add] at this
theorem slice_cells {α : Type} {t : TypeId} {r : Rep α} {w : World} {A : Option Addr} {n c : Nat} {L : List α} {X : List Nat} (h : (sliceR t r).holds w [.slice A n c] L X) {i : Nat} {el : α} (hi : L[i]? = some el) (hs : 0 < r.size) :
    L.length = n ∧ ∃ g cells x, A = some ⟨g, 0, none⟩ ∧ (∀ j u, cells[j]? = some u → w.cell? ⟨g, i * r.size + j, none⟩ = some u) ∧ r.holds w cells el x := by
  obtain ⟨v, rows, xs, e, h1, h2, rfl⟩ := h
  injection e with e
  subst e
  obtain ⟨g, cells, x, g1, g2, g3, _⟩ := rows_cells h1 h2 hi hs
  obtain ⟨A', c', e⟩ := own_form h1
  injection e with _ e _
  exact ⟨e.symm, g, cells, x, g1, g2, g3⟩
theorem slice_len {α : Type} {t : TypeId} {r : Rep α} {w : World} {cs : List Value} {L : List α} {X : List Nat} (h : (sliceR t r).holds w cs L X) : ∃ A c, cs = [.slice A L.length c] := by
  obtain ⟨v, rows, xs, rfl, h1, h2, rfl⟩ := h
  obtain ⟨A', c', rfl⟩ := own_form h1
  exact ⟨A', c', rfl⟩
/-- One element more: 'append' to a row of one's own. -/
theorem wpList_push {α : Type} {P : Program} {base : Nat} {t e : TypeId} {r : Rep α} {w : World} {v : Value} {L : List α} {X : List Nat} {ops : Array Oper} {rest : List Oper} {o : Oper} {a : Act} {Q : Exit → Act → World → Prop} {bytes n : Nat}
    (hgd : o.guard = none) (s x : Operand) (ho : o.op = .call { callee := .builtin .append, args := #[s, x], argTypes := #[t, t] }) (E : ElemT P t e r.size bytes) (hs : a.eval s = v) (h : SliceP base e r w v L X) (hn : L.length = n)
    {b c : Nat} {cells : List Value} {el : α} {Y : List Nat} (hx : a.eval x = .slice (some ⟨b, 0, none⟩) 1 c) (hr : Rd w r.size (some ⟨b, 0, none⟩) 1 cells) (hc : r.holds w cells el Y) (hY : ∀ k ∈ Y, v.ownBlock ≠ some k)
    (hbytes : (n + 1) * bytes ≤ 140737488355328) (h63 : n + 1 ≤ maxLen) (hbase : base ≤ w.heap.size)
    (hK : ∀ A' c' w', SliceP base e r w' (.slice A' (n + 1) c') (L ++ [el]) (X ++ Y) → w.grownBy w' v.ownBlock → ((Value.slice A' (n + 1) c').ownBlock = v.ownBlock ∨ (Value.slice A' (n + 1) c').ownBlock = some w.heap.size) →
      wpList P ops Q rest (a.put o.dst (.slice A' (n + 1) c')) w') : wpList P ops Q (o :: rest) a w := by
  subst hn
  obtain ⟨rows, xs, h1, h2, rfl, h3⟩ := h
  refine wpList_append_rd w hgd s x t ho base e r.size bytes E v L.length rows.flatten hs h1 (some ⟨b, 0, none⟩) 1 c cells hx hr (r.one hc) hbytes h63 hbase (fun h => by cases h) ?_
  intro v' w' hown hg hat
  obtain ⟨A', c', rfl⟩ := own_form hown
  have hh : Hits (fun k => v.ownBlock = some k) w w' := (Hits.refl _ w).grown hg fun g hg _ => hg
  refine hK A' c' w' ⟨rows ++ [cells], xs ++ [Y], ?_, ?_, by simp, ?_⟩ hg hat
  · rw [List.flatten_append, List.length_append]; simpa using hown
  · exact Rows.append (h2.frame hh fun k hk hf => h3 k hk hf) ⟨r.frame hc hh fun k hk hf => hY k hk hf, trivial⟩
  · intro k hk
    rcases List.mem_append.1 hk with hk2 | hk2
    · rcases hat with e1 | e1
      · rw [e1]; exact h3 k hk2
      · rw [e1]; intro e2; injection e2 with e2; have := h2.lt k hk2; omega
    · rcases hat with e1 | e1
      · rw [e1]; exact hY k hk2
      · rw [e1]; intro e2; injection e2 with e2; have := r.lt hc k hk2; omega
/-- The same inside a region that draws its order. -/
theorem step_push {α : Type} {P : Program} {base : Nat} {t e : TypeId} {r : Rep α} {w : World} {v : Value} {L : List α} {X : List Nat} {ops : Array Oper} {o : Oper} {a : Act} {K : Act → World → Prop} {Q : Exit → Act → World → Prop} {E0 : Prop} {bytes n : Nat}
    (hgd : Region.wanted o (yielded ops a.tmps) = true) (s x : Operand) (ho : o.op = .call { callee := .builtin .append, args := #[s, x], argTypes := #[t, t] }) (E : ElemT P t e r.size bytes) (hs : a.eval s = v) (h : SliceP base e r w v L X) (hn : L.length = n)
    {b c : Nat} {cells : List Value} {el : α} {Y : List Nat} (hx : a.eval x = .slice (some ⟨b, 0, none⟩) 1 c) (hr : Rd w r.size (some ⟨b, 0, none⟩) 1 cells) (hc : r.holds w cells el Y) (hY : ∀ k ∈ Y, v.ownBlock ≠ some k)
    (hbytes : (n + 1) * bytes ≤ 140737488355328) (h63 : n + 1 ≤ maxLen) (hbase : base ≤ w.heap.size)
    (hK : ∀ A' c' w', SliceP base e r w' (.slice A' (n + 1) c') (L ++ [el]) (X ++ Y) → w.grownBy w' v.ownBlock → ((Value.slice A' (n + 1) c').ownBlock = v.ownBlock ∨ (Value.slice A' (n + 1) c').ownBlock = some w.heap.size) →
      K (a.put o.dst (.slice A' (n + 1) c')) w') : if Region.wanted o (yielded ops a.tmps) = true then Oper.wp P o a w K Q else E0 := by
  subst hn
  obtain ⟨rows, xs, h1, h2, rfl, h3⟩ := h
  refine step_append_rd hgd s x t ho base e r.size bytes E v L.length rows.flatten hs h1 (some ⟨b, 0, none⟩) 1 c cells hx hr (r.one hc) hbytes h63 hbase (fun h => by cases h) ?_
  intro v' w' hown hg hat
  obtain ⟨A', c', rfl⟩ := own_form hown
  have hh : Hits (fun k => v.ownBlock = some k) w w' := (Hits.refl _ w).grown hg fun g hg _ => hg
  refine hK A' c' w' ⟨rows ++ [cells], xs ++ [Y], ?_, ?_, by simp, ?_⟩ hg hat
  · rw [List.flatten_append, List.length_append]; simpa using hown
  · exact Rows.append (h2.frame hh fun k hk hf => h3 k hk hf) ⟨r.frame hc hh fun k hk hf => hY k hk hf, trivial⟩
  · intro k hk
    rcases List.mem_append.1 hk with hk2 | hk2
    · rcases hat with e1 | e1
      · rw [e1]; exact h3 k hk2
      · rw [e1]; intro e2; injection e2 with e2; have := h2.lt k hk2; omega
    · rcases hat with e1 | e1
      · rw [e1]; exact hY k hk2
      · rw [e1]; intro e2; injection e2 with e2; have := r.lt hc k hk2; omega
/-- A pointer to a struct of its own. -/
def ptrR {α : Type} (t : TypeId) (r : Rep α) : Rep α where
  size := 1
  holds w cs a X := ∃ b cells Y, cs = [.pointer (some ⟨b, 0, none⟩)] ∧ w.heap[b]? = some (.cells cells t (0, 0)) ∧ r.holds w cells.toList a Y ∧ X = b :: Y
  frame := by
    rintro w w' cs a X F ⟨b, cells, Y, rfl, h1, h2, rfl⟩ hh hF
    exact ⟨b, cells, Y, rfl, hh.row h1 (hF b (List.mem_cons_self ..)), r.frame h2 hh fun k hk => hF k (List.mem_cons_of_mem _ hk), rfl⟩
  lt := by
    rintro w cs a X ⟨b, cells, Y, rfl, h1, h2, rfl⟩ k hk
    rcases List.mem_cons.1 hk with rfl | h
    · exact theap_lt h1
    · exact r.lt h2 k h
  len := by rintro w cs a X ⟨b, cells, Y, rfl, _⟩; rfl
  one := by rintro w cs a X ⟨b, cells, Y, rfl, _⟩ u hu; rw [List.mem_singleton.1 hu]; rfl
/-- New blocks beside those that were. -/
def Fresh (w : World) (X X' : List Nat) : Prop := ∀ k ∈ X', k ∈ X ∨ w.heap.size ≤ k
theorem Fresh.refl (w : World) (X : List Nat) : Fresh w X X := fun _ h => .inl h
theorem Fresh.trans {w w1 : World} {X Y Z : List Nat} (h : Fresh w X Y) (k : Fresh w1 Y Z) (hs : w.heap.size ≤ w1.heap.size) : Fresh w X Z := fun i hi => by
  rcases k i hi with h1 | h1
  · exact h i h1
  · exact .inr (Nat.le_trans hs h1)
/-- One part is put in another's place: still each block once. -/
theorem nodup_part {w : World} {X1 Xs X2 Xs' : List Nat} (h : (X1 ++ Xs ++ X2).Nodup) (hlt : ∀ k ∈ X1 ++ Xs ++ X2, k < w.heap.size) (hn : Xs'.Nodup) (hf : Fresh w Xs Xs') : (X1 ++ Xs' ++ X2).Nodup := by
  rw [List.nodup_append, List.nodup_append] at h ⊢
  obtain ⟨⟨h1, h2, h3⟩, h4, h5⟩ := h
  refine ⟨⟨h1, hn, fun a ha b hb => ?_⟩, h4, fun a ha b hb => ?_⟩
  · rcases hf b hb with h6 | h6
    · exact h3 a ha b h6
    · have := hlt a (by simp [ha]); omega
  · rcases List.mem_append.1 ha with h6 | h6
    · exact h5 a (by simp [h6]) b hb
    · rcases hf a h6 with h7 | h7
      · exact h5 a (by simp [h7]) b hb
      · have := hlt b (by simp [hb]); omega
end Go.Proofs.YtcmollfhlillfaaGreatDoor
/-
  An object: a block whose fields each have cells and blocks of their own.
-/
namespace Go.Proofs.YtcmollfhlillfaaGreatDoor
open Go.RowKit
set_option linter.unusedVariables false
set_option linter.unusedSimpArgs false
/-- A field of an object: what it holds; the blocks that it only reads. -/
structure Fld where
  holds : World → List Value → List Nat → Prop
  ro : List Nat
  frame : ∀ {w w' : World} {cs : List Value} {X : List Nat} {F : Nat → Prop}, holds w cs X → Hits F w w' → (∀ k ∈ X, ¬ F k) → (∀ k ∈ ro, ¬ F k) → holds w' cs X
  lt : ∀ {w : World} {cs : List Value} {X : List Nat}, holds w cs X → (∀ k ∈ X, k < w.heap.size) ∧ ∀ k ∈ ro, k < w.heap.size
def Rep.fld {α : Type} (r : Rep α) (a : α) : Fld := ⟨fun w cs X => r.holds w cs a X, [], fun h hh hX _ => r.frame h hh hX, fun h => ⟨r.lt h, fun k hk => by cases hk⟩⟩
def FRows (w : World) : List (List Value) → List Fld → List (List Nat) → Prop
  | [], [], [] => True
  | c :: cs, f :: fs, x :: xs => f.holds w c x ∧ FRows w cs fs xs
  | _, _, _ => False
section
variable {w w' : World}
theorem FRows.frame {F : Nat → Prop} (hh : Hits F w w') : ∀ {cs : List (List Value)} {fs : List Fld} {xs : List (List Nat)}, FRows w cs fs xs → (∀ k ∈ xs.flatten, ¬ F k) → (∀ f ∈ fs, ∀ k ∈ f.ro, ¬ F k) → FRows w' cs fs xs
  | [], [], [], _, _, _ => trivial
  | c :: cs, f :: fs, x :: xs, h, hF, hR => by
    rw [List.flatten_cons] at hF
    exact ⟨f.frame h.1 hh (fun k hk => hF k (List.mem_append_left _ hk)) (hR f (List.mem_cons_self ..)), FRows.frame hh h.2 (fun k hk => hF k (List.mem_append_right _ hk)) fun g hg => hR g (List.mem_cons_of_mem _ hg)⟩
theorem FRows.lt : ∀ {cs : List (List Value)} {fs : List Fld} {xs : List (List Nat)}, FRows w cs fs xs → (∀ k ∈ xs.flatten, k < w.heap.size) ∧ ∀ f ∈ fs, ∀ k ∈ f.ro, k < w.heap.size
  | [], [], [], _ => ⟨fun k hk => (by cases hk), fun f hf => (by cases hf)⟩
  | c :: cs, f :: fs, x :: xs, h => by
    have h1 := FRows.lt h.2
    have h2 := f.lt h.1
    refine ⟨fun k hk => ?_, fun g hg => ?_⟩
    · rw [List.flatten_cons] at hk
      rcases List.mem_append.1 hk with h3 | h3
      · exact h2.1 k h3
      · exact h1.1 k h3
    · rcases List.mem_cons.1 hg with rfl | h3
      · exact h2.2
      · exact h1.2 g h3
theorem FRows.at_ : ∀ {cs : List (List Value)} {fs : List Fld} {xs : List (List Nat)} {i : Nat} {f : Fld}, FRows w cs fs xs → fs[i]? = some f → ∃ c x, cs[i]? = some c ∧ xs[i]? = some x ∧ f.holds w c x
  | [], [], [], i, f, _, e => by simp at e
  | c :: cs, g :: fs, x :: xs, 0, f, h, e => by
    have e2 : g = f := by simpa using e
    subst e2
    exact ⟨c, x, rfl, rfl, h.1⟩
  | c :: cs, g :: fs, x :: xs, i + 1, f, h, e => by
    obtain ⟨c', x', h1, h2, h3⟩ := FRows.at_ h.2 (show fs[i]? = some f by simpa using e)
    exact ⟨c', x', by simpa using h1, by simpa using h2, h3⟩
theorem FRows.turn {F : Nat → Prop} (hh : Hits F w w') {c : List Value} {f : Fld} {x : List Nat} (hc : f.holds w' c x) : ∀ {cs : List (List Value)} {fs : List Fld} {xs : List (List Nat)} (i : Nat), FRows w cs fs xs → (∀ j y, j ≠ i → xs[j]? = some y → ∀ k ∈ y, ¬ F k) → (∀ g ∈ fs, ∀ k ∈ g.ro, ¬ F k) → FRows w' (cs.set i c) (fs.set i f) (xs.set i x)
  | [], [], [], i, _, _, _ => trivial
  | d :: cs, b :: fs, y :: xs, 0, h, hF, hR => ⟨hc, h.2.frame hh (fun k hk => by
      obtain ⟨l, h1, h2⟩ := List.mem_flatten.1 hk
      obtain ⟨j, hj⟩ := List.getElem?_of_mem h1
      exact hF (j + 1) l (by omega) (by simpa using hj) k h2) fun g hg => hR g (List.mem_cons_of_mem _ hg)⟩
  | d :: cs, b :: fs, y :: xs, i + 1, h, hF, hR => ⟨b.frame h.1 hh (fun k hk => hF 0 y (by omega) (by simp) k hk) (hR b (List.mem_cons_self ..)), FRows.turn hh hc i h.2 (fun j z hj hz => hF (j + 1) z (by omega) (by simpa using hz)) fun g hg => hR g (List.mem_cons_of_mem _ hg)⟩
end
/-- An object in block g. -/
structure ObjAt (w : World) (g : Nat) (t : TypeId) (fs : List Fld) (cs : List (List Value)) (xs : List (List Nat)) : Prop where
  row : w.heap[g]? = some (.cells cs.flatten.toArray t (0, 0))
  rows : FRows w cs fs xs
  nd : (g :: xs.flatten).Nodup
  ro : ∀ f ∈ fs, ∀ k ∈ f.ro, k ∉ g :: xs.flatten
section
variable {w w' : World} {g : Nat} {t : TypeId} {fs : List Fld} {cs : List (List Value)} {xs : List (List Nat)}
theorem ObjAt.lt (h : ObjAt w g t fs cs xs) : ∀ k ∈ g :: xs.flatten, k < w.heap.size := fun k hk => by
  rcases List.mem_cons.1 hk with rfl | hk
  · exact theap_lt h.row
  · exact h.rows.lt.1 k hk
theorem ObjAt.frame {F : Nat → Prop} (h : ObjAt w g t fs cs xs) (hh : Hits F w w') (hF : ∀ k ∈ g :: xs.flatten, ¬ F k) (hR : ∀ f ∈ fs, ∀ k ∈ f.ro, ¬ F k) : ObjAt w' g t fs cs xs :=
  ⟨hh.row h.row (hF g (List.mem_cons_self ..)), h.rows.frame hh (fun k hk => hF k (List.mem_cons_of_mem _ hk)) hR, h.nd, h.ro⟩
theorem ObjAt.later (h : ObjAt w g t fs cs xs) (hl : Later w w') : ObjAt w' g t fs cs xs := h.frame (Hits.later (F := fun _ => False) hl) (fun _ _ hf => hf) fun _ _ _ _ hf => hf
theorem fl_count {xs : List (List Nat)} {x y : List Nat} (a : Nat) : ∀ {i : Nat}, xs[i]? = some y → (xs.set i x).flatten.count a + y.count a = xs.flatten.count a + x.count a := by
  induction xs with
  | nil => intro i h; simp at h
  | cons z xs ih =>
    intro i h
    cases i with
    | zero =>
      have e : z = y := by simpa using h
      subst e
      simp only [List.set_cons_zero, List.flatten_cons, List.count_append]; omega
    | succ i =>
      have := ih (i := i) (by simpa using h)
      simp only [List.set_cons_succ, List.flatten_cons, List.count_append]; omega
theorem fl_other {xs : List (List Nat)} {x y : List Nat} {i j : Nat} (hnd : xs.flatten.Nodup) (hi : xs[i]? = some x) (hj : xs[j]? = some y) (hne : j ≠ i) : ∀ k ∈ y, k ∉ x := by
  intro k hk hx
  have h1 := fl_count (x := []) k hi
  have h2 := List.nodup_iff_count.1 hnd k
  have h3 : 0 < x.count k := List.count_pos_iff.2 hx
  have h4 : k ∈ (xs.set i []).flatten := List.mem_flatten.2 ⟨y, List.mem_of_getElem? (i := j) (by rw [List.getElem?_set_ne (Ne.symm hne)]; exact hj), hk⟩
  have h5 : 0 < (xs.set i []).flatten.count k := List.count_pos_iff.2 h4
  simp only [List.count_nil] at h1
  omega
/-- One field turns. -/
theorem ObjAt.turn (h : ObjAt w g t fs cs xs) {i : Nat} {x x' : List Nat} {c' : List Value} {f' : Fld} (hx : xs[i]? = some x) (hh : Hits (fun k => k = g ∨ k ∈ x) w w') (hr : w'.heap[g]? = some (.cells (cs.set i c').flatten.toArray t (0, 0))) (hc : f'.holds w' c' x') (hn : x'.Nodup)
    (hfr : ∀ k ∈ x', k ∈ x ∨ (k ∉ g :: xs.flatten ∧ ∀ f ∈ fs, k ∉ f.ro)) (hro : ∀ k ∈ f'.ro, k ∉ g :: xs.flatten ∧ k ∉ x') :
    ObjAt w' g t (fs.set i f') (cs.set i c') (xs.set i x') ∧ Hits (· ∈ g :: xs.flatten) w w' ∧ ∀ k ∈ g :: (xs.set i x').flatten, k ∈ g :: xs.flatten ∨ k ∈ x' := by
  have hnd := List.nodup_cons.1 h.nd
  have hsub : ∀ k ∈ x, k ∈ xs.flatten := fun k hk => List.mem_flatten.2 ⟨x, List.mem_of_getElem? hx, hk⟩
  have hmem : ∀ k ∈ g :: (xs.set i x').flatten, k ∈ g :: xs.flatten ∨ k ∈ x' := fun k hk => by
    rcases List.mem_cons.1 hk with rfl | hk
    · exact .inl (List.mem_cons_self ..)
    · obtain ⟨l, h1, h2⟩ := List.mem_flatten.1 hk
      rcases List.mem_or_eq_of_mem_set h1 with h3 | rfl
      · exact .inl (List.mem_cons_of_mem _ (List.mem_flatten.2 ⟨l, h3, h2⟩))
      · exact .inr h2
  refine ⟨⟨hr, FRows.turn hh hc i h.rows (fun j y hj hy k hk hF => ?_) (fun f hf k hk hF => ?_), ?_, fun f hf k hk hm => ?_⟩, hh.mono (fun k _ hk => ?_), hmem⟩
  · rcases hF with rfl | hF
    · exact hnd.1 (List.mem_flatten.2 ⟨y, List.mem_of_getElem? hy, hk⟩)
    · exact fl_other hnd.2 hx hy hj k hk hF
  · rcases hF with rfl | hF
    · exact h.ro f hf k hk (List.mem_cons_self ..)
    · exact h.ro f hf k hk (List.mem_cons_of_mem _ (hsub k hF))
  · refine List.nodup_cons.2 ⟨fun hg => ?_, List.nodup_iff_count.2 fun a => ?_⟩
    · obtain ⟨l, h1, h2⟩ := List.mem_flatten.1 hg
      rcases List.mem_or_eq_of_mem_set h1 with h3 | rfl
      · exact hnd.1 (List.mem_flatten.2 ⟨l, h3, h2⟩)
      · rcases hfr g h2 with h4 | h4
        · exact hnd.1 (hsub g h4)
        · exact h4.1 (List.mem_cons_self ..)
    · have h1 := fl_count (x := x') a hx
      have h2 := List.nodup_iff_count.1 hnd.2 a
      have h3 := List.nodup_iff_count.1 hn a
      by_cases ha : a ∈ x'
      · rcases hfr a ha with h4 | h4
        · have : 0 < x.count a := List.count_pos_iff.2 h4
          omega
        · have h5 : xs.flatten.count a = 0 := List.count_eq_zero.2 fun hm => h4.1 (List.mem_cons_of_mem _ hm)
          omega
      · have : x'.count a = 0 := List.count_eq_zero.2 ha
        omega
  · rcases List.mem_or_eq_of_mem_set hf with h1 | rfl
    · rcases hmem k hm with h2 | h2
      · exact h.ro f h1 k hk h2
      · rcases hfr k h2 with h3 | h3
        · exact h.ro f h1 k hk (List.mem_cons_of_mem _ (hsub k h3))
        · exact h3.2 f h1 hk
    · rcases hmem k hm with h2 | h2
      · exact (hro k hk).1 h2
      · exact (hro k hk).2 h2
  · rcases hk with rfl | hk
    · exact List.mem_cons_self ..
    · exact List.mem_cons_of_mem _ (hsub k hk)
end
end Go.Proofs.YtcmollfhlillfaaGreatDoor
