/-
  tale.Line: the kinds, the parts, small facts.
-/
import Derived.Test.YtjkopohmcabfjaaGreatDoorTUnq
import Derived.Test.YtjkopohmcabfjaaGreatDoorSplit
import Derived.Test.YtjkopohmcabfjaaGreatDoorTKinds
import Derived.Lib.OthersKept
namespace Go.Proofs.YtjkopohmcabfjaaGreatDoor
open Go.RowKit
set_option linter.unusedVariables false
set_option linter.unusedSimpArgs false
def strV (l : List UInt8) : Value := .string ⟨l.toArray⟩
set_option maxHeartbeats 2000000 in
set_option maxRecDepth 100000 in
theorem kinds_any (w : World) : Calls Tryz.prog 22 #[] w fun e w' => e = .returned (.slice (some ⟨w.heap.size, 0, none⟩) 17 17) ∧ w' = w.alloc (.cells (kindsT.map strV).toArray 9) := by
  go_enter Tryz.func22, Tryz.ntmps22
  go_wp2_with fail
  go_ret
  exact ⟨rfl, rfl⟩
def AV.cells (x : AV) : List Value := [.int .i64 x.kind, .int .i64 x.a, .int .i64 x.b, .int .i64 x.n, strV x.key, strV x.val]
theorem cut_kind {k : Nat} (h1 : 1 ≤ k) (h2 : k ≤ 16) : Lib.cut (kindsT.getD k []) [32] = (wordT.getD k [], partT.getD k [], true) := by
  have key : ∀ k : Fin 16, Lib.cut (kindsT.getD (k.val + 1) []) [32] = (wordT.getD (k.val + 1) [], partT.getD (k.val + 1) [], true) := by decide +kernel
  have := key ⟨k - 1, by omega⟩
  rwa [show k - 1 + 1 = k by omega] at this
theorem kind_len {k : Nat} (h1 : 1 ≤ k) (h2 : k ≤ 16) : (kindsT.getD k []).length ≤ 16 := by
  have key : ∀ k : Fin 17, (kindsT.getD k.val []).length ≤ 16 := by decide +kernel
  exact key ⟨k, by omega⟩
/-- A cut: a region that ends in one of some frames, told by two numbers. -/
def CutPost2 (F : Nat → Nat → World → Prop) (T : Nat → Nat → Act) : Exit → Act → World → Prop
  | .normal, a, W => ∃ b c, a = T b c ∧ F b c W
  | _, _, _ => False
theorem cut_leaf2 {F : Nat → Nat → World → Prop} {T : Nat → Nat → Act} {a : Act} {W : World} (b c : Nat) (h1 : a = T b c) (h2 : F b c W) : CutPost2 F T .normal a W := ⟨b, c, h1, h2⟩
theorem wp_cut2 {P : Program} {Q : Exit → Act → World → Prop} {c : Code} {a : Act} {w : World} (F : Nat → Nat → World → Prop) (T : Nat → Nat → Act) (h1 : c.wp P (CutPost2 F T) a w) (h2 : ∀ b d W, F b d W → Q .normal (T b d) W) : c.wp P Q a w :=
  Code.wp_mono (fun e a' W h => by cases e with | normal => obtain ⟨b, d, rfl, hF⟩ := h; exact h2 b d W hF | _ => exact h.elim) h1
theorem two_ab (w : World) (A C : Obj) : Later w ((w.alloc A).alloc C).drew ∧ w.heap.size ≤ w.heap.size ∧ w.heap.size ≤ w.heap.size + 1 ∧ w.heap.size ≠ w.heap.size + 1 ∧ ((w.alloc A).alloc C).drew.heap[w.heap.size]? = some A ∧ ((w.alloc A).alloc C).drew.heap[w.heap.size + 1]? = some C := by
  obtain ⟨h1, h2, h3⟩ := alloc2_at w A C
  exact ⟨below_drewN h3 1, Nat.le_refl _, Nat.le_succ _, by omega, h1, h2⟩
theorem two_ba (w : World) (A C : Obj) : Later w ((w.alloc C).alloc A).drew ∧ w.heap.size ≤ w.heap.size + 1 ∧ w.heap.size ≤ w.heap.size ∧ w.heap.size + 1 ≠ w.heap.size ∧ ((w.alloc C).alloc A).drew.heap[w.heap.size + 1]? = some A ∧ ((w.alloc C).alloc A).drew.heap[w.heap.size]? = some C := by
  obtain ⟨h1, h2, h3⟩ := alloc2_at w C A
  exact ⟨below_drewN h3 1, Nat.le_succ _, Nat.le_refl _, by omega, h2, h1⟩
def LinePost (x : AV) (w : World) (e : Ending) (w' : World) : Prop := e = .returned (.tuple #[strV ((lineF x).getD []), .int .i64 (if (lineF x).isSome = true then 0 else 1)]) ∧ Later w w'
def AV.val6 (x : AV) : Value := .agg #[.int .i64 x.kind, .int .i64 x.a, .int .i64 x.b, .int .i64 x.n, .string ⟨x.key.toArray⟩, .string ⟨x.val.toArray⟩]
theorem ba_inj (a b : List UInt8) : (⟨a.toArray⟩ : ByteArray).toList = (⟨b.toArray⟩ : ByteArray).toList ↔ a = b := by
  rw [Lib.toList_data, Lib.toList_data]
theorem neq_act (x y : AV) (W : World) : (binOp .neq 40 x.val6 y.val6).run Tryz.prog W = .ok (.bool (!decide (x = y))) W := by
  have hS : Tryz.prog.underlying 40 = some (.struct (Tryz.prog.fieldsOf 40)) := by kernel_rfl
  have hp : Tryz.prog.stoodInHeld 40 = false := by kernel_rfl
  unfold AV.val6
  rw [run_neq_struct, show (10000 : Nat) = 9999 + 1 from rfl, run_equalIn_agg W 9999 40 _ _ hS hp]
  simp only [Program.fieldsOf, Tryz.underlying40]
  go_simp
  try simp only [ba_inj]
  obtain ⟨x1, x2, x3, x4, x5, x6⟩ := x
  obtain ⟨y1, y2, y3, y4, y5, y6⟩ := y
  by_cases h1 : x1 = y1 <;> by_cases h2 : x2 = y2 <;> by_cases h3 : x3 = y3 <;> by_cases h4 : x4 = y4 <;> by_cases h5 : x5 = y5 <;> by_cases h6 : x6 = y6 <;> simp [h1, h2, h3, h4, h5, h6]
theorem guard_act (op : BinOp) (x y : Operand) (xs ys : Array Value) (W : World) : (eqGuard op 40 x y (.agg xs) (.agg ys)).run Tryz.prog W = .ok () W := run_eqGuard_agg W op 40 x y xs ys (by kernel_rfl)
theorem part_of {k : Nat} (h1 : 1 ≤ k) (h2 : k ≤ 16) : ∀ c, c ∈ partT.getD k [] → c = 97 ∨ c = 98 ∨ c = 110 ∨ c = 107 ∨ c = 118 := by
  have key : ∀ k : Fin 17, ∀ c, c ∈ partT.getD k.val [] → c = 97 ∨ c = 98 ∨ c = 110 ∨ c = 107 ∨ c = 118 := by decide +kernel
  exact key ⟨k, by omega⟩
theorem part_len {k : Nat} (h1 : 1 ≤ k) (h2 : k ≤ 16) : (partT.getD k []).length ≤ 3 ∧ (wordT.getD k []).length ≤ 16 := by
  have key : ∀ k : Fin 17, (partT.getD k.val []).length ≤ 3 ∧ (wordT.getD k.val []).length ≤ 16 := by decide +kernel
  exact key ⟨k, by omega⟩
def AV.row (x : AV) : Array Value := #[.int .i64 x.kind, .int .i64 x.a, .int .i64 x.b, .int .i64 x.n, .string ⟨x.key.toArray⟩, .string ⟨x.val.toArray⟩]
theorem strT : ElemT Tryz.prog 32 9 1 16 := elem_mk (z := .string ByteArray.empty) Tryz.underlying32 (by kernel_rfl) rfl (by decide)
theorem own_str_ne {w : World} {B n k : Nat} {v : Value} {xs : List Value} (ho : w.ownsRow B 9 1 v n xs) {o : Obj} (hk : w.heap[k]? = some o) (hn : ∀ cs fz, o ≠ .cells cs 9 fz) : some k ≠ v.ownBlock := fun e => by
  rcases ho.2 with ⟨rfl, _⟩ | ⟨g, cap, cur, rfl, _, hg, _⟩
  · cases e
  · have : k = g := by injection e
    subst this
    rw [hk] at hg; injection hg with hg; exact hn _ _ hg
theorem str_one (L : List (List UInt8)) : ∀ u ∈ L.map strV, u.oneCell' = true := by
  intro u hu
  obtain ⟨x, _, rfl⟩ := List.mem_map.1 hu
  rfl
structure AV.Ok (x : AV) : Prop where
  kind : -9223372036854775808 ≤ x.kind ∧ x.kind ≤ 9223372036854775807
  a : -9223372036854775808 ≤ x.a ∧ x.a ≤ 9223372036854775807
  b : -9223372036854775808 ≤ x.b ∧ x.b ≤ 9223372036854775807
  n : -9223372036854775808 ≤ x.n ∧ x.n ≤ 9223372036854775807
  key : x.key.length ≤ 1099511627776
  val : x.val.length ≤ 1099511627776
theorem kinds_at {k : Nat} (h1 : 1 ≤ k) (h2 : k ≤ 16) : (kindsT.map strV)[k]? = some (.string ⟨(kindsT.getD k []).toArray⟩) := by
  have hl : k < kindsT.length := by show k < 17; omega
  rw [List.getElem?_map, List.getElem?_eq_getElem hl, List.getD_eq_getElem?_getD, List.getElem?_eq_getElem hl]; rfl
theorem act_ne (r : Array Value) (fz0 : Nat × Nat) : ∀ cs fz, Obj.cells r 40 fz0 ≠ .cells cs 9 fz := fun cs fz h => by injection h with _ h2; exact absurd h2 (by decide)
theorem iter_ne (s : ByteArray) (p : Nat) : ∀ cs fz, Obj.stringIter s p ≠ .cells cs 9 fz := fun cs fz h => nomatch h
theorem own_put_ne {w : World} {B n d j : Nat} {v u : Value} {xs : List Value} {o : Obj} (ho : w.ownsRow B 9 1 v n xs) (hd : w.heap[d]? = some o) (hn : ∀ cs fz, o ≠ .cells cs 9 fz) : (w.setCell ⟨d, j, none⟩ u).ownsRow B 9 1 v n xs := by
  refine ⟨ho.1, ?_⟩
  rcases ho.2 with h0 | ⟨g, cap, cur, hv, hb, hh, hr⟩
  · exact .inl h0
  · exact .inr ⟨g, cap, cur, hv, hb, (Below.heap_setCell _ _ _ _ (fun e => by
      have e : g = d := e
      subst e
      rw [hh] at hd; injection hd with hd; exact hn _ _ hd.symm)).trans hh, hr⟩

end Go.Proofs.YtjkopohmcabfjaaGreatDoor
