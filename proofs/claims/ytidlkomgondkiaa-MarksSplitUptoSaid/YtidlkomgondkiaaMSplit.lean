/-
  MarksSplit: for any transactions ahead, a transaction is fine of two pieces of its keys just if it is of all of them; it writes nothing that was there.
  Conditions: the arguments hold at most 1048576 values and letters (the second form).
-/
import Derived.Test.YtidlkomgondkiaaKMSplitMath
import Derived.Test.YtidlkomgondkiaaKDBoth
namespace Go.Proofs.Ytidlkomgondkiaa
open Go.ChangeShapes Go.WideShapes Go.ChangeAt Go.RowKit
open Go.ChangeMaps (open_string)
set_option linter.unusedVariables false
set_option linter.unusedSimpArgs false
theorem txnT : ElemT Try.prog 40 32 3 56 := elem_mk (z := .agg #[.int .i64 0, .slice none 0 0, .slice none 0 0]) Try.underlying40 (by kernel_rfl) rfl (by decide)
/-- A blind transaction of these changes. -/
def encB (q : Option Addr × Nat × Nat) : List Value := [.int .i64 0, .slice none 0 0, .slice q.1 q.2.1 q.2.2]
def brow (Q : List (Option Addr × Nat × Nat)) : List Value := Q.flatMap encB
theorem encB_len (q : Option Addr × Nat × Nat) : (encB q).length = 3 := rfl
theorem encB_one (q : Option Addr × Nat × Nat) : ∀ u ∈ encB q, u.oneCell' = true := by
  intro u hu
  simp only [encB, List.mem_cons, List.not_mem_nil, or_false] at hu
  rcases hu with rfl | rfl | rfl <;> rfl
theorem brow_snoc {Q : List (Option Addr × Nat × Nat)} {k : Nat} {q : Option Addr × Nat × Nat} (h : Q[k]? = some q) : brow (Q.take (k + 1)) = brow (Q.take k) ++ encB q := by
  unfold brow; rw [take_snoc h, List.flatMap_append]; simp
/-- Where the changes of each transaction lie. -/
def ChgAt (w : World) (A : Option Addr) (T : List Tx) (Q : List (Option Addr × Nat × Nat)) : Prop := Q.length = T.length ∧ ∀ (i : Nat) (t : Tx), T[i]? = some t → ∃ b o q, A = some ⟨b, o, none⟩ ∧ Q[i]? = some q ∧ w.cell? ⟨b, o + i * 3 + 2, none⟩ = some (.slice q.1 q.2.1 q.2.2) ∧ t.2.2.length = q.2.1 ∧ q.2.1 ≤ 1048576 ∧ Rd w 3 q.1 q.2.1 (crow t.2.2)
theorem list_choice {α : Type} {p : Nat → α → Prop} : ∀ n, (∀ i, i < n → ∃ a, p i a) → ∃ L : List α, L.length = n ∧ ∀ i a, L[i]? = some a → p i a := by
  intro n
  induction n with
  | zero => intro _; exact ⟨[], rfl, fun i a h => by simp at h⟩
  | succ n ih =>
    intro h
    obtain ⟨L, hl, hp⟩ := ih fun i hi => h i (by omega)
    obtain ⟨a, ha⟩ := h n (by omega)
    refine ⟨L ++ [a], by simp [hl], fun i b hb => ?_⟩
    rcases Nat.lt_or_ge i L.length with h1 | h1
    · rw [List.getElem?_append_left h1] at hb; exact hp i b hb
    · rw [List.getElem?_append_right h1] at hb
      match hk : i - L.length, hb with
      | 0, hb => obtain rfl := Option.some.inj hb; rw [show i = n by omega]; exact ha
      | k + 1, hb => simp at hb
theorem chg_at {w : World} {A : Option Addr} {n : Nat} {T : List Tx} (h : TxRow w A n T) : ∃ Q, ChgAt w A T Q := by
  obtain ⟨Q, hl, hp⟩ := list_choice (p := fun i (q : Option Addr × Nat × Nat) => ∀ t, T[i]? = some t → ∃ b o, A = some ⟨b, o, none⟩ ∧ w.cell? ⟨b, o + i * 3 + 2, none⟩ = some (.slice q.1 q.2.1 q.2.2) ∧ t.2.2.length = q.2.1 ∧ q.2.1 ≤ 1048576 ∧ Rd w 3 q.1 q.2.1 (crow t.2.2)) T.length fun i hi => by
    obtain ⟨b, o, A1, A2, m1, c1, m2, c2, h0, h1, h2, h3, h4, h5, h6, h7, h8, h9⟩ := h.2 i _ (List.getElem?_eq_getElem hi)
    refine ⟨(A2, m2, c2), fun t ht => ?_⟩
    rw [List.getElem?_eq_getElem hi] at ht
    obtain rfl := Option.some.inj ht
    exact ⟨b, o, h0, h3, h5, h7, h9⟩
  refine ⟨Q, hl, fun i t ht => ?_⟩
  have hi : i < Q.length := by rw [hl]; exact (List.getElem?_eq_some_iff.1 ht).1
  obtain ⟨b, o, h1, h2⟩ := hp i _ (List.getElem?_eq_getElem hi) t ht
  exact ⟨b, o, _, h1, List.getElem?_eq_getElem hi, h2⟩
/-- The blind transactions, as they lie in a row of their own. -/
theorem blind_row {w W : World} {A A9 : Option Addr} {T : List Tx} {Q : List (Option Addr × Nat × Nat)} {k base c9 : Nat} (h : ChgAt w A T Q) (hb : Later w W) (ho : W.ownsRow base 32 3 (.slice A9 k c9) k (brow (Q.take k))) (hk : k ≤ T.length) : TxRow W A9 k ((T.take k).map fun t => (0, [], t.2.2)) := by
  have hl : ((T.take k).map fun t => ((0, [], t.2.2) : Tx)).length = k := by simp; omega
  by_cases h0 : k = 0
  · subst h0; simpa using TxRow.nil W A9
  · have hr := Rd.of_own ho
    have hlen : (brow (Q.take k)).length = k * 3 := by rw [brow, rec_len encB_len, List.length_take, h.1]; omega
    obtain ⟨b, o, rfl, hc⟩ := hr.2 (by omega)
    refine txRow_of hl fun i t hi => ?_
    rw [List.getElem?_map, List.getElem?_take] at hi
    split at hi
    · rename_i hik
      obtain ⟨t0, ht0, rfl⟩ := Option.map_eq_some_iff.1 hi
      obtain ⟨b', o', q, _, hq, _, h3, h4, h5⟩ := h.2 i t0 ht0
      have hq2 : (Q.take k)[i]? = some q := by rw [List.getElem?_take, if_pos hik]; exact hq
      have e := fun j hj => hc (i * 3 + j) _ ((rec_at encB_len hq2 j hj).trans (List.getElem?_eq_getElem (by rw [encB_len]; exact hj)))
      refine ⟨none, q.1, 0, q.2.2, e 0 (by omega), e 1 (by omega), ?_, by simp, by show t0.2.2.length ≤ _; omega, Rd.nil _ _ _, ?_⟩
      · show _ = some (Value.slice q.1 t0.2.2.length q.2.2); rw [h3]; exact e 2 (by omega)
      · show Rd W 3 q.1 t0.2.2.length (crow t0.2.2); rw [h3]; exact h5.below hb
    · cases hi
/-- What a blind Judge at 5 leaves. -/
theorem blind_post {w w' : World} {B : Nat} {T : List Tx} {e : Ending} (h : JudgePost B [] 0 0 T 5 w e w') : (¬ (T.length ≤ 4 ∧ T.all soundT = true) ∧ e = .returned (.tuple #[.slice none 0 0, .int .i64 2]) ∧ Later w w') ∨
    (T.length ≤ 4 ∧ T.all soundT = true ∧ ∃ A n c V L m, e = .returned (.tuple #[.slice A n c, .int .i64 0]) ∧ JudgeAll 5 0 [] 0 T V L m ∧ Fit L m ∧ m ≤ 5 ∧ L.length ≤ 192 ∧ MK w' B L 0 m ∧ w.grownBy w' (some B)) := by
  rcases h with ⟨h1, _⟩ | ⟨_, h2, h3, h4⟩ | ⟨_, h2, h3, A, n, c, V, L, m, h4, h5, h6, h7, h8, h9⟩
  · exact absurd h1 (by omega)
  · exact .inl ⟨h2, h3, h4⟩
  · have hf := fit_all h5 ⟨trivial, Int.le_refl _, fun k hk => (by cases hk)⟩ (by omega) (fun t ht => (soundT_iff.1 (List.all_eq_true.1 h3 t ht)).2.2.1)
    refine .inr ⟨h2, h3, A, n, c, V, L, m, h4, h5, hf.1, hf.2.1, ?_, h8, h9⟩
    have := hf.2.2.2; simp at this; omega
/-- Marks stay while others are written. -/
theorem mk_apart {w w' : World} {B0 g : Nat} {L L2 : List Mk} {f l f2 l2 : Int} (h : MK w B0 L f l) (h2 : MK w g L2 f2 l2) (hne : B0 ≠ g) (hg : w.grownBy w' (some g)) : MK w' B0 L f l := by
  obtain ⟨A, n, c, h3, h4, h5⟩ := h
  obtain ⟨A', n', c', h6, _, _⟩ := h2
  refine ⟨A, n, c, (hg.block B0 (heap_lt0 h3) (fun e => hne (Option.some.inj e))).trans h3, h4.kept hg ?_, h5⟩
  rcases h4.2 with ⟨h7, _⟩ | ⟨gb, cap, cur, hv, hb, hh, _⟩
  · left; rw [h7]; rfl
  · right
    rw [hv]
    intro e
    obtain rfl : gb = g := Option.some.inj e
    unfold MarksAt at h6
    rw [hh] at h6
    injection h6 with h6
    injection h6 with _ h7
    exact absurd h7 (by decide)
/-- A cut: a region that ends in one of some frames, told by two numbers. -/
def CutPost2 (F : Nat → Nat → World → Prop) (T : Nat → Nat → Act) : Exit → Act → World → Prop
  | .normal, a, W => ∃ b c, a = T b c ∧ F b c W
  | _, _, _ => False
theorem cut_leaf2 {F : Nat → Nat → World → Prop} {T : Nat → Nat → Act} {a : Act} {W : World} (b c : Nat) (h1 : a = T b c) (h2 : F b c W) : CutPost2 F T .normal a W := ⟨b, c, h1, h2⟩
theorem wp_cut2 {P : Program} {Q : Exit → Act → World → Prop} {c : Code} {a : Act} {w : World} (F : Nat → Nat → World → Prop) (T : Nat → Nat → Act) (h1 : c.wp P (CutPost2 F T) a w) (h2 : ∀ b d W, F b d W → Q .normal (T b d) W) : c.wp P Q a w :=
  Code.wp_mono (fun e a' W h => by cases e with | normal => obtain ⟨b, d, rfl, hF⟩ := h; exact h2 b d W hF | _ => exact h.elim) h1
section
variable {P : Program} {ops : Array Oper} {Q : Exit → Act → World → Prop} {md : Region.Mode} {R : World → World → Prop}
/-- Two may come up. -/
theorem wpAnyR_two (i j : Nat) {oi oj : Oper} {ri rj : List Oper} {fuel : Nat} {listed : Array Bool} {a : Act} {w : World} (hr : Region.ready md ops listed = [i, j]) (hoi : ops.toList.drop i = oi :: ri) (hoj : ops.toList.drop j = oj :: rj)
    (hi : ∀ K : Act → World → Prop, Shut (∀ a' w', R w w' → wpAnyR P md ops Q R fuel (listed.setIfInBounds i true) a' w' → K a' w') → if Region.wanted oi (yielded ops a.tmps) = true then Oper.wp P oi a w K Q else K (a.put oi.dst undef) w)
    (hj : ∀ K : Act → World → Prop, Shut (∀ a' w', R w w' → wpAnyR P md ops Q R fuel (listed.setIfInBounds j true) a' w' → K a' w') → if Region.wanted oj (yielded ops a.tmps) = true then Oper.wp P oj a w K Q else K (a.put oj.dst undef) w) :
    wpAnyR P md ops Q R (fuel + 1) listed a w := by
  refine ⟨fun h0 => (by rw [hr] at h0; cases h0), fun k hk => ?_⟩
  rw [hr] at hk
  rcases List.mem_cons.1 hk with rfl | hk
  · exact wpOp_step (op_of_drop hoi) fun K hK => hi K fun a' w' hl hW => hK a' w' ⟨hl, hW⟩
  · obtain rfl : k = j := by simpa using hk
    exact wpOp_step (op_of_drop hoj) fun K hK => hj K fun a' w' hl hW => hK a' w' ⟨hl, hW⟩
end
theorem Below.steady (B : Nat) : Steady (Below B) := ⟨Below.refl B, fun h k => Below.trans h k⟩
theorem wpAnyR_name {P : Program} {ops : Array Oper} {Q : Exit → Act → World → Prop} {md : Region.Mode} {Rl : World → World → Prop} {fuel : Nat} {listed : Array Bool} {a : Act} {w : World} (h : ∀ W, W = w → wpAnyR P md ops Q Rl fuel listed a W) : wpAnyR P md ops Q Rl fuel listed a w := h w rfl
theorem set_three {S0 b d : Nat} {V : World} {a0 a1 a2 : Value} {t : TypeId} {o : Obj} (hb : V.heap[b]? = some (.cells #[a0, a1, a2] t (0, 0))) (hd : V.heap[d]? = some o) (hne : d ≠ b) (hS : S0 ≤ b) (u0 u1 u2 : Value) :
    Below S0 V (((V.setCell ⟨b, 0, none⟩ u0).setCell ⟨b, 1, none⟩ u1).setCell ⟨b, 2, none⟩ u2) ∧ (((V.setCell ⟨b, 0, none⟩ u0).setCell ⟨b, 1, none⟩ u1).setCell ⟨b, 2, none⟩ u2).heap[b]? = some (.cells #[u0, u1, u2] t (0, 0)) ∧ (((V.setCell ⟨b, 0, none⟩ u0).setCell ⟨b, 1, none⟩ u1).setCell ⟨b, 2, none⟩ u2).heap[d]? = some o := by
  refine ⟨Below.setCell (Below.setCell (Below.setCell (Below.refl _ _) hS _) hS _) hS _, ?_, ?_⟩
  · exact heap_setCell_same _ b 2 _ _ _ (heap_setCell_same _ b 1 _ _ _ (heap_setCell_same V b 0 _ _ _ hb))
  · rw [Below.heap_setCell _ _ _ _ hne, Below.heap_setCell _ _ _ _ hne, Below.heap_setCell _ _ _ _ hne]; exact hd
/-- Marks stay while a block of another sort is written. -/
theorem mk_cell {w : World} {B0 b j : Nat} {L : List Mk} {f l : Int} {cs : Array Value} {t : TypeId} {fz : Nat × Nat} (h : MK w B0 L f l) (hb : w.heap[b]? = some (.cells cs t fz)) (h1 : t ≠ 77) (h2 : t ≠ 91) (u : Value) : MK (w.setCell ⟨b, j, none⟩ u) B0 L f l :=
  h.turns (((Turns.refl 0 (fun s => s = t) w).setCell (Nat.zero_le _) (OfSort.of hb rfl) j u)) (fun e => h1 e.symm) (fun e => h2 e.symm)
/-- Two rows of one element, in unlike blocks. -/
def Apart2 (v u : Value) : Prop := ∀ g, v.ownBlock = some g → u.ownBlock ≠ some g
theorem Apart2.comm {v u : Value} (h : Apart2 v u) : Apart2 u v := fun g h1 h2 => h g h2 h1
theorem Apart2.ne {v u : Value} (h : Apart2 v u) : v.ownBlock = none ∨ v.ownBlock ≠ u.ownBlock := by
  cases hv : v.ownBlock with
  | none => exact .inl rfl
  | some g => exact .inr fun e => h g hv e.symm
/-- Two rows of spans in two transactions. -/
def SpL (w : World) (S0 b15 b16 : Nat) (r : Int) (A2 : Option Addr) (n2 c2 : Nat) (v15 v16 : Value) (n15 n16 : Nat) (L H : List Spn) : Prop :=
  w.heap[b15]? = some (.cells #[.int .i64 r, v15, .slice A2 n2 c2] 32 (0, 0)) ∧ w.heap[b16]? = some (.cells #[.int .i64 r, v16, .slice A2 n2 c2] 32 (0, 0)) ∧
  w.ownsRow S0 24 2 v15 n15 (srow L) ∧ w.ownsRow S0 24 2 v16 n16 (srow H) ∧ Apart2 v15 v16 ∧ b15 < S0 ∧ b16 < S0 ∧ b15 ≠ b16 ∧ S0 ≤ w.heap.size
theorem SpL.comm {w : World} {S0 b15 b16 n2 c2 n15 n16 : Nat} {r : Int} {A2 : Option Addr} {v15 v16 : Value} {L H : List Spn} (h : SpL w S0 b15 b16 r A2 n2 c2 v15 v16 n15 n16 L H) : SpL w S0 b16 b15 r A2 n2 c2 v16 v15 n16 n15 H L := by
  obtain ⟨h1, h2, h3, h4, h5, h6, h7, h8, h9⟩ := h
  exact ⟨h2, h1, h4, h3, h5.comm, h7, h6, h8.symm, h9⟩
theorem SpL.later {w w' : World} {S0 b15 b16 n2 c2 n15 n16 : Nat} {r : Int} {A2 : Option Addr} {v15 v16 : Value} {L H : List Spn} (h : SpL w S0 b15 b16 r A2 n2 c2 v15 v16 n15 n16 L H) (hb : Later w w') : SpL w' S0 b15 b16 r A2 n2 c2 v15 v16 n15 n16 L H := by
  obtain ⟨h1, h2, h3, h4, h5, h6, h7, h8, h9⟩ := h
  exact ⟨later_row hb h1, later_row hb h2, own_below h3 hb, own_below h4 hb, h5, h6, h7, h8, Nat.le_trans h9 hb.size⟩
/-- One of the rows has grown, and is stored. -/
theorem SpL.grow {w w' : World} {S0 b15 b16 n2 c2 n15 n16 : Nat} {r : Int} {A2 : Option Addr} {v15 v16 v : Value} {L H : List Spn} {s : Spn} (h : SpL w S0 b15 b16 r A2 n2 c2 v15 v16 n15 n16 L H) (hg : w.grownBy w' v15.ownBlock) (ho : w'.ownsRow S0 24 2 v (n15 + 1) (srow L ++ encS s)) (ha : v.ownBlock = v15.ownBlock ∨ v.ownBlock = some w.heap.size) :
    w'.heap[b15]? = some (.cells #[.int .i64 r, v15, .slice A2 n2 c2] 32 (0, 0)) ∧ (∀ (k : Nat) (o : Obj), S0 ≤ k ∨ True → w.heap[k]? = some o → v15.ownBlock ≠ some k → w'.heap[k]? = some o) ∧ SpL (w'.setCell ⟨b15, 1, none⟩ v) S0 b15 b16 r A2 n2 c2 v v16 (n15 + 1) n16 (L ++ [s]) H := by
  obtain ⟨h1, h2, h3, h4, h5, h6, h7, h8, h9⟩ := h
  have hk : ∀ b, b < S0 → some b ≠ v15.ownBlock := fun b hb e => by have := (h3.lt b e.symm).1; omega
  have r1 := (hg.block b15 (heap_lt0 h1) (hk b15 h6)).trans h1
  have r2 := (hg.block b16 (heap_lt0 h2) (hk b16 h7)).trans h2
  have o4 := h4.kept hg h5.comm.ne
  refine ⟨r1, fun k o _ hk hn => (hg.block k (heap_lt0 hk) (fun e => hn e.symm)).trans hk, ?_, ?_, own_put (by rw [srow_snoc]; exact ho) h6, own_put o4 h6, fun g h10 h11 => ?_, h6, h7, h8, ?_⟩
  · have := heap_setCell_same w' b15 1 _ _ v r1; simpa using this
  · rw [Below.heap_setCell _ _ _ _ (fun e => h8 (by have e : b16 = b15 := e; exact e.symm))]; exact r2
  · rcases ha with ha | ha
    · exact h5 g (ha ▸ h10) h11
    · rw [ha] at h10
      obtain rfl := Option.some.inj h10
      have := (h4.lt _ h11).2; omega
  · have := hg.size; simp [World.setCell]; omega
theorem own_keep {w w' : World} {base size n g : Nat} {e : TypeId} {v : Value} {xs : List Value} (h : w.ownsRow base e size v n xs) (hg : w.grownBy w' (some g)) (hlt : g < base) : w'.ownsRow base e size v n xs :=
  h.kept hg (.inr fun h4 => by have := (h.lt _ h4).1; omega)
/-- Judge of one sound transaction. -/
theorem judge_one {w w' : World} {B : Nat} {L : List Mk} {m v r : Int} {R : List Spn} {C : List Chg} {e : Ending} (h : JudgePost B L 0 m [(r, R, C)] v w e w') (hF : Fit L m) (hv : m < v) (hs : soundT (r, R, C) = true) : ∃ A c j M m', e = .returned (.tuple #[.slice A 1 c, .int .i64 0]) ∧ JudgeOne v 0 L m (r, R, C) j M m' ∧ Fit M m' ∧ m' ≤ v ∧ M.length ≤ L.length + 48 ∧ w'.ownsRow w.heap.size 3 1 (.slice A 1 c) 1 (ints [j]) ∧ MK w' B M 0 m' ∧ w.grownBy w' (some B) := by
  rcases h with ⟨h1, _⟩ | ⟨_, h2, _⟩ | ⟨_, _, h3, A, n, c, V, M, m', he, h5, h6, h7, h8, h9⟩
  · exact absurd h1 (by have := hF.2.1; omega)
  · exact absurd ⟨by simp, by simp [hs]⟩ h2
  · have hf := fit_all h5 hF (by omega) (fun t ht => (soundT_iff.1 (List.all_eq_true.1 h3 t ht)).2.2.1)
    obtain ⟨j, rfl, hj⟩ := judgeAll_one h5
    obtain rfl : 1 = n := h6
    exact ⟨A, c, j, M, m', he, hj, hf.1, hf.2.1, hf.2.2.2, h7, h8, h9⟩
set_option maxRecDepth 100000 in
set_option maxHeartbeats 32000000 in
theorem marksSplit_walk {w : World} (A : Option Addr) (n c : Nat) (T : List Tx) (hT : TxRow w A n T) (hcm : n ≤ 1048576) (r : Int) (R : List Spn) (C : List Chg) (A1 A2 : Option Addr) (n1 c1 n2 c2 : Nat) (h1 : R.length = n1) (h2 : C.length = n2) (h3 : n1 ≤ 1048576) (h4 : n2 ≤ 1048576) (hR : Rd w 2 A1 n1 (srow R)) (hC : Rd w 3 A2 n2 (crow C)) (at_ : ByteArray) (hat : at_.size ≤ 9223372036854775807) :
    Calls Try.prog 4 #[.slice A n c, .agg #[.int .i64 r, .slice A1 n1 c1, .slice A2 n2 c2], .string at_] w fun e w' => e = .returned (.bool true) ∧ Below w.heap.size w w' := by
  obtain ⟨Q, hQ⟩ := chg_at hT
  have HTL := hide_ hT.1
  have HQ := hide_ hQ; have HR := hide_ hR; have HC := hide_ hC; have H1 := hide_ h1; have H2 := hide_ h2
  have hn2 : (n : Int) ≤ 1048576 := by omega
  have hx := heap_alloc_new w (.cells #[.int .i64 r, .slice A1 n1 c1, .slice A2 n2 c2] 32)
  have hb0 := later_alloc w (.cells #[.int .i64 r, .slice A1 n1 c1, .slice A2 n2 c2] 32)
  obtain ⟨W0, hW0⟩ : ∃ W0, W0 = w.alloc (.cells #[.int .i64 r, .slice A1 n1 c1, .slice A2 n2 c2] 32) := ⟨_, rfl⟩
  have HW := hide_ hW0.symm
  rw [← hW0] at hx hb0
  have HX := hide_ hx; have HB0 := hide_ hb0
  have hwW : w.heap.size < W0.heap.size := heap_lt0 hx
  clear hT hQ hR hC h1 h2 hx hb0 hW0
  go_enter Try.func4, Try.ntmps4
  go_wp2_with (rw [HW.out])
  refine (new_any _ _).mono ?_; rintro e w1 ⟨rfl, hm, hb1⟩
  have HMa := hide_ (mk_new hm); have HB1 := hide_ (HB0.out.trans hb1); have HX1 := hide_ (later_row hb1 HX.out)
  have haw := heap_lt0 hm
  have hww1 : W0.heap.size ≤ w1.heap.size := hb1.size
  clear hm hb1
  go_wp2_with fail
  refine (new_any _ _).mono ?_; rintro e w2 ⟨rfl, hm, hb2⟩
  have HMa2 := hide_ (HMa.out.below hb2); have HMb2 := hide_ (mk_new hm); have HB2 := hide_ (HB1.out.trans hb2); have HX2 := hide_ (later_row hb2 HX1.out)
  have hbw := heap_lt0 hm
  clear hm hb2
  go_wp2_with fail
  refine (awake_yes _).mono ?_; rintro e w3 ⟨rfl, hb3⟩
  have HMa3 := hide_ (HMa2.out.below hb3); have HMb3 := hide_ (HMb2.out.below hb3); have HB3 := hide_ (HB2.out.trans hb3); have HX3 := hide_ (later_row hb3 HX2.out)
  have hsz3 : w2.heap.size ≤ w3.heap.size := hb3.size
  have t0 := cell_of_row _ _ 0 _ _ (0, 0) HX3.out
  have t1 := cell_of_row _ _ 1 _ _ (0, 0) HX3.out
  have t2 := cell_of_row _ _ 2 _ _ (0, 0) HX3.out
  have htx := hide_ (rtxn_any (c := c1) (c' := c2) (r := r) (HR.out.below HB3.out) H1.out (HC.out.below HB3.out) H2.out h3 h4)
  clear hb3
  go_wp2_with fail
  refine htx.out.mono ?_; rintro e w4 ⟨rfl, hb4⟩
  have HMa4 := hide_ (HMa3.out.below hb4); have HMb4 := hide_ (HMb3.out.below hb4); have HB4 := hide_ (HB3.out.trans hb4); have HX4 := hide_ (later_row hb4 HX3.out)
  have hsz4 : w3.heap.size ≤ w4.heap.size := hb4.size
  clear htx hb4 t0 t1 t2
  by_cases hs : soundT (r, R, C) = true
  · rw [hs]
    have HS := hide_ hs
    clear hs
    by_cases ha : at_.size ≤ 16
    · have q1 : ¬ (16 : Int) < (at_.size : Int) := by omega
      have q2 : decide ((16 : Int) < (at_.size : Int)) = false := decide_eq_false q1
      have q3 : decide (16 < at_.size) = false := decide_eq_false (by omega)
      have HO4 := hide_ (own_new w4 #[] 32 3 0 w4.heap.size rfl (Nat.zero_le _) (Nat.le_refl _))
      have HL4 := hide_ (later_alloc w4 (.cells #[] 32))
      go_wp2_with fail
      clear q1 q2 q3
      go_loopw [9, 10] (fun s9 s10 wr => ∃ (k : Nat), k ≤ n ∧ k ≤ 4 ∧ s10 = .int .i64 k ∧ Hid (wr.ownsRow w4.heap.size 32 3 s9 k (brow (Q.take k))) ∧ Hid (Later w4 wr)) (fun _ i _ => 4 - (intOf i).toNat)
      case atStart => exact ⟨0, by omega, by omega, rfl, HO4, HL4⟩
      case round =>
        obtain ⟨k, hk, hk4, rfl, HO, HL⟩ := hrel
        obtain ⟨A9, c9, rfl⟩ := own_form HO.out
        have r2 : (k : Int) ≤ 1048576 := by omega
        have r3 : (0 : Int) ≤ (k : Int) := by omega
        by_cases hlt : k < n ∧ k < 4
        · have r1 : (k : Int) < (n : Int) := by omega
          have r4 : (k : Int) < 4 := by omega
          have hkn := hlt.1; have hk44 := hlt.2
          obtain ⟨t, ht⟩ : ∃ t, T[k]? = some t := ⟨_, List.getElem?_eq_getElem (by rw [HTL.out]; exact hkn)⟩
          obtain ⟨b, o, q, rfl, hq, hcq, h5, h6, h7⟩ := HQ.out.2 k t ht
          have HBR := hide_ (HB4.out.trans HL.out)
          have l2 := later_cell hcq _ HBR.out
          have HTK := hide_ (brow_snoc hq)
          have hgw : w4.heap.size ≤ wr.heap.size := HL.out.size
          clear hlt ht hq hcq h5 h6 h7
          go_wp2_with (at_builtin; go_loud (refine wpList_append_rd _ rfl (.tmp 59) (.tmp 66) 40 rfl w4.heap.size 32 3 56 txnT _ k (brow (Q.take k)) rfl (HO.out.alloc _) _ 1 1 (encB q) rfl (Rd.newAt _ #[.int .i64 0, .slice none 0 0, .slice q.1 q.2.1 q.2.2] 32 1 3 _ (0, 0) rfl rfl) (encB_one _) (by omega) (by unfold maxLen; omega) (by simp; omega) (fun h => nomatch h) ?_; intro v8 w8 hown8 hg8 hat8; have HO8 := hide_ (show w8.ownsRow w4.heap.size 32 3 v8 (k + 1) (brow (Q.take (k + 1))) by rw [HTK.out]; exact hown8); have HB8 := hide_ (show Later w4 w8 from own_grown (Below.alloc HL.out (Below.size HL.out) _) (HO.out.alloc _) hg8 (by simp; omega)); clear hown8 hg8 hat8))
          go_roundw
          case rel => exact ⟨k + 1, by omega, by omega, by go_num, HO8, HB8⟩
          case measure => simp [intOf]; omega
        · have HKE := hide_ (show k = n ∨ k = 4 by omega)
          have HBR := hide_ (HB4.out.trans HL.out)
          have hgw : w4.heap.size ≤ wr.heap.size := HL.out.size
          have hrow := blind_row HQ.out HBR.out HO.out (by rw [HTL.out]; exact hk)
          obtain ⟨TB, hTB⟩ : ∃ TB : List Tx, TB = (T.take k).map fun t => (0, [], t.2.2) := ⟨_, rfl⟩
          rw [← hTB] at hrow
          have HBL := hide_ (show ∀ t, t ∈ TB → t.2.1 = [] from fun t ht => by rw [hTB] at ht; obtain ⟨u, _, rfl⟩ := List.mem_map.1 ht; rfl)
          have HROW := hide_ hrow
          have HMa5 := hide_ (HMa4.out.below HL.out); have HMb5 := hide_ (HMb4.out.below HL.out); have HX5 := hide_ (later_row HL.out HX4.out)
          obtain ⟨Am, nm, cm, hma, _, _⟩ := HMa5.out
          have hsa := hide_ (hrow.stayM hma)
          clear hrow hTB hma
          have hd : decide ((k : Int) < (n : Int)) = false ∨ (decide ((k : Int) < 4) = false ∧ decide ((k : Int) < (n : Int)) = true) := by
            by_cases h : k < n
            · exact .inr ⟨decide_eq_false (by omega), decide_eq_true (by omega)⟩
            · exact .inl (decide_eq_false (by omega))
          have hlt' : ¬ (k : Int) < (n : Int) ∨ ((k : Int) < (n : Int) ∧ ¬ (k : Int) < 4) := by omega
          clear hlt hd
          rcases hlt' with q1 | ⟨q1, q2⟩
          all_goals
            go_wp2_with fail
            refine (judges_any (ct := c9) 5 HMa5.out (by simp) ⟨trivial, by omega, fun k hk => (by cases hk)⟩ (by omega) hsa.out (by omega)).mono ?_; rintro e w5 hj
            rcases blind_post hj with ⟨hns, rfl, hb5⟩ | ⟨hl4, hso, Aj, nj, cj, V, L, m, rfl, hJ, hF, hm5, hLl, hMK, hG⟩
            · have HMb6 := hide_ (HMb5.out.below hb5)
              have HROW6 := hide_ (HROW.out.below hb5)
              obtain ⟨Am, nm, cm, hma, _, _⟩ := HMb6.out
              have hsb := hide_ (HROW6.out.stayM hma)
              have HNS := hide_ hns; have HB6 := hide_ (HBR.out.trans hb5)
              clear hj hns hb5 hma
              go_wp2_with fail
              refine (judges_any (ct := c9) 5 HMb6.out (by simp) ⟨trivial, by omega, fun k hk => (by cases hk)⟩ (by omega) hsb.out (by omega)).mono ?_; rintro e w7 hj
              rcases blind_post hj with ⟨_, rfl, hb7⟩ | ⟨h8, h9, _⟩
              · have HB7 := hide_ (HB6.out.trans hb7)
                clear hj hb7
                go_wp2_with fail
                go_ret
                exact ⟨rfl, HB7.out⟩
              · exact absurd ⟨h8, h9⟩ HNS.out
            · have HMb6 := hide_ (mk_apart HMb5.out HMa5.out (by omega) hG)
              have HMa6 := hide_ hMK
              have HROW6 := hide_ (hsa.out.row hG)
              obtain ⟨Am, nm, cm, hma, _, _⟩ := HMb6.out
              have hsb := hide_ (HROW6.out.stayM hma)
              have HX6 := hide_ ((hG.block _ (heap_lt0 HX5.out) (fun e => by have := Option.some.inj e; omega)).trans HX5.out)
              have HB6 := hide_ (later_of_grown HBR.out hG (by omega))
              have HJ := hide_ hJ; have HF := hide_ hF; have HSO := hide_ (And.intro hl4 hso)
              clear hj hma hMK hG hJ hF hl4 hso
              go_wp2_with fail
              refine (judges_any (ct := c9) 5 HMb6.out (by simp) ⟨trivial, by omega, fun k hk => (by cases hk)⟩ (by omega) hsb.out (by omega)).mono ?_; rintro e w7 hj
              rcases blind_post hj with ⟨hns, _⟩ | ⟨_, _, Aj', nj', cj', V', L', m', rfl, hJ', hF', hm5', hLl', hMK', hG'⟩
              · exact absurd HSO.out hns
              have HMa7 := hide_ (mk_apart HMa6.out HMb6.out (by omega) hG')
              have HMb7 := hide_ hMK'
              have HX7 := hide_ ((hG'.block _ (heap_lt0 HX6.out) (fun e => by have := Option.some.inj e; omega)).trans HX6.out)
              have HB7 := hide_ (later_of_grown HB6.out hG' (by omega))
              have HJ' := hide_ hJ'; have HF' := hide_ hF'
              clear hj hMK' hG' hJ' hF' hsb
              go_wp2_with fail
              apply wp_cut2 (F := fun b d W => Below w7.heap.size w7 W ∧ w7.heap.size ≤ b ∧ w7.heap.size ≤ d ∧ b < w7.heap.size + 2 ∧ d < w7.heap.size + 2 ∧ b ≠ d ∧ W.heap[b]? = some (.cells #[.int .i64 r, .slice A1 n1 c1, .slice A2 n2 c2] 32 (0, 0)) ∧ W.heap[d]? = some (.cells #[.int .i64 r, .slice A1 n1 c1, .slice A2 n2 c2] 32 (0, 0)) ∧ w7.heap.size + 2 ≤ W.heap.size)
              case h1 =>
                have hrd0 : ∀ Wx, Below w7.heap.size w7.drew Wx → Wx.cell? ⟨w.heap.size, 0, none⟩ = some (.int .i64 r) := later_drew_cell (cell_of_row _ _ 0 _ _ (0, 0) HX7.out)
                have hrd1 : ∀ Wx, Below w7.heap.size w7.drew Wx → Wx.cell? ⟨w.heap.size, 1, none⟩ = some (.slice A1 n1 c1) := later_drew_cell (cell_of_row _ _ 1 _ _ (0, 0) HX7.out)
                have hrd2 : ∀ Wx, Below w7.heap.size w7.drew Wx → Wx.cell? ⟨w.heap.size, 2, none⟩ = some (.slice A2 n2 c2) := later_drew_cell (cell_of_row _ _ 2 _ _ (0, 0) HX7.out)
                refine wp_region_r (R := Below w7.heap.size) (by kernel_rfl) ?_
                refine wpAnyR_take (Below.steady _) 0 (v := ?_) rfl (by kernel_rfl) (by kernel_rfl) (by kernel_rfl) (fun _ _ _ h => h) (by rfl) (by intro Wx hSw; have e0 := hrd0 Wx hSw; have e1 := hrd1 Wx hSw; have e2 := hrd2 Wx hSw; go_simp; with_reducible rfl) ?_; try simp only [Act.put, List.setIfInBounds_toArray, List.set_cons_zero, List.set_cons_succ]
                refine wpAnyR_take (Below.steady _) 1 (v := ?_) rfl (by kernel_rfl) (by kernel_rfl) (by kernel_rfl) (fun _ _ _ h => h) (by rfl) (by intro Wx hSw; have e0 := hrd0 Wx hSw; have e1 := hrd1 Wx hSw; have e2 := hrd2 Wx hSw; go_simp; with_reducible rfl) ?_; try simp only [Act.put, List.setIfInBounds_toArray, List.set_cons_zero, List.set_cons_succ]
                refine wpAnyR_two 2 3 (by kernel_rfl) rfl rfl (fun K hK => ?_) (fun K hK => ?_)
                · go_simp
                  refine hK.out _ _ ((Below.refl _ _).alloc (by show w7.heap.size ≤ w7.drew.heap.size; exact Nat.le_refl _) _) ?_
                  clear hK K; try simp only [Act.put, List.setIfInBounds_toArray, List.set_cons_zero, List.set_cons_succ]
                  refine wpAnyR_one 3 (by kernel_rfl) rfl (fun K hK => ?_)
                  go_simp
                  refine hK.out _ _ ((Below.refl _ _).alloc (by simp) _) ?_
                  clear hK K; try simp only [Act.put, List.setIfInBounds_toArray, List.set_cons_zero, List.set_cons_succ]
                  have ha2 := alloc2_at w7 (.cells #[.int .i64 0, .slice none 0 0, .slice none 0 0] 32) (.cells #[.int .i64 0, .slice none 0 0, .slice none 0 0] 32)
                  refine wpAnyR_name (fun V2 hV2 => ?_)
                  have y0 : V2.heap[w7.heap.size]? = some (.cells #[.int .i64 0, .slice none 0 0, .slice none 0 0] 32 (0, 0)) := by rw [hV2]; exact ha2.1
                  have y1 : V2.heap[w7.heap.size + 1]? = some (.cells #[.int .i64 0, .slice none 0 0, .slice none 0 0] 32 (0, 0)) := by rw [hV2]; exact ha2.2.1
                  have HYL := hide_ (show Below w7.heap.size w7 V2 by rw [hV2]; exact Below.drew ha2.2.2)
                  clear hV2 ha2
                  have x0 := cell_of_row _ _ 0 _ _ (0, 0) y0
                  have x1 := cell_of_row _ _ 1 _ _ (0, 0) y0
                  have x2 := cell_of_row _ _ 2 _ _ (0, 0) y0
                  have fz := fun k => frozen_of_row _ _ k _ _ y0
                  refine wpAnyR_one 4 (by kernel_rfl) rfl (fun K hK => ?_)
                  go_simp
                  have hs3 := set_three (S0 := w7.heap.size) y0 y1 (by omega) (by omega) (.int .i64 r) (.slice A1 n1 c1) (.slice A2 n2 c2)
                  refine hK.out _ _ hs3.1 ?_
                  clear hK K; try simp only [Act.put, List.setIfInBounds_toArray, List.set_cons_zero, List.set_cons_succ]
                  refine wpAnyR_name (fun V3 hV3 => ?_)
                  rw [← hV3] at hs3
                  obtain ⟨zl, z0, z1⟩ := hs3
                  have HZL := hide_ (HYL.out.trans zl)
                  clear zl x0 x1 x2 fz y0 y1 hV3 HYL
                  have x0 := cell_of_row _ _ 0 _ _ (0, 0) z1
                  have x1 := cell_of_row _ _ 1 _ _ (0, 0) z1
                  have x2 := cell_of_row _ _ 2 _ _ (0, 0) z1
                  have fz := fun k => frozen_of_row _ _ k _ _ z1
                  refine wpAnyR_one 5 (by kernel_rfl) rfl (fun K hK => ?_)
                  go_simp
                  have hs4 := set_three (S0 := w7.heap.size) z1 z0 (by omega) (by omega) (.int .i64 r) (.slice A1 n1 c1) (.slice A2 n2 c2)
                  refine hK.out _ _ hs4.1 ?_
                  clear hK K; try simp only [Act.put, List.setIfInBounds_toArray, List.set_cons_zero, List.set_cons_succ]
                  refine wpAnyR_name (fun V4 hV4 => ?_)
                  rw [← hV4] at hs4
                  obtain ⟨vl, v1, v0⟩ := hs4
                  have HVL := hide_ (HZL.out.trans vl)
                  clear vl x0 x1 x2 fz z0 z1 hV4 HZL hrd0 hrd1 hrd2
                  refine wpAnyR_done (by kernel_rfl) ?_ _
                  have hlt4 := heap_lt0 v0
                  have hlt5 := heap_lt0 v1
                  generalize hdk : w7.heap.size + 1 = dk at *
                  generalize hbk : w7.heap.size = bk at *
                  exact cut_leaf2 bk dk rfl ⟨HVL.out, by omega, by omega, by omega, by omega, by omega, v0, v1, by omega⟩
                · go_simp
                  refine hK.out _ _ ((Below.refl _ _).alloc (by show w7.heap.size ≤ w7.drew.heap.size; exact Nat.le_refl _) _) ?_
                  clear hK K; try simp only [Act.put, List.setIfInBounds_toArray, List.set_cons_zero, List.set_cons_succ]
                  refine wpAnyR_one 2 (by kernel_rfl) rfl (fun K hK => ?_)
                  go_simp
                  refine hK.out _ _ ((Below.refl _ _).alloc (by simp) _) ?_
                  clear hK K; try simp only [Act.put, List.setIfInBounds_toArray, List.set_cons_zero, List.set_cons_succ]
                  have ha2 := alloc2_at w7 (.cells #[.int .i64 0, .slice none 0 0, .slice none 0 0] 32) (.cells #[.int .i64 0, .slice none 0 0, .slice none 0 0] 32)
                  refine wpAnyR_name (fun V2 hV2 => ?_)
                  have y0 : V2.heap[w7.heap.size]? = some (.cells #[.int .i64 0, .slice none 0 0, .slice none 0 0] 32 (0, 0)) := by rw [hV2]; exact ha2.1
                  have y1 : V2.heap[w7.heap.size + 1]? = some (.cells #[.int .i64 0, .slice none 0 0, .slice none 0 0] 32 (0, 0)) := by rw [hV2]; exact ha2.2.1
                  have HYL := hide_ (show Below w7.heap.size w7 V2 by rw [hV2]; exact Below.drew ha2.2.2)
                  clear hV2 ha2
                  have x0 := cell_of_row _ _ 0 _ _ (0, 0) y1
                  have x1 := cell_of_row _ _ 1 _ _ (0, 0) y1
                  have x2 := cell_of_row _ _ 2 _ _ (0, 0) y1
                  have fz := fun k => frozen_of_row _ _ k _ _ y1
                  refine wpAnyR_one 4 (by kernel_rfl) rfl (fun K hK => ?_)
                  go_simp
                  have hs3 := set_three (S0 := w7.heap.size) y1 y0 (by omega) (by omega) (.int .i64 r) (.slice A1 n1 c1) (.slice A2 n2 c2)
                  refine hK.out _ _ hs3.1 ?_
                  clear hK K; try simp only [Act.put, List.setIfInBounds_toArray, List.set_cons_zero, List.set_cons_succ]
                  refine wpAnyR_name (fun V3 hV3 => ?_)
                  rw [← hV3] at hs3
                  obtain ⟨zl, z0, z1⟩ := hs3
                  have HZL := hide_ (HYL.out.trans zl)
                  clear zl x0 x1 x2 fz y0 y1 hV3 HYL
                  have x0 := cell_of_row _ _ 0 _ _ (0, 0) z1
                  have x1 := cell_of_row _ _ 1 _ _ (0, 0) z1
                  have x2 := cell_of_row _ _ 2 _ _ (0, 0) z1
                  have fz := fun k => frozen_of_row _ _ k _ _ z1
                  refine wpAnyR_one 5 (by kernel_rfl) rfl (fun K hK => ?_)
                  go_simp
                  have hs4 := set_three (S0 := w7.heap.size) z1 z0 (by omega) (by omega) (.int .i64 r) (.slice A1 n1 c1) (.slice A2 n2 c2)
                  refine hK.out _ _ hs4.1 ?_
                  clear hK K; try simp only [Act.put, List.setIfInBounds_toArray, List.set_cons_zero, List.set_cons_succ]
                  refine wpAnyR_name (fun V4 hV4 => ?_)
                  rw [← hV4] at hs4
                  obtain ⟨vl, v1, v0⟩ := hs4
                  have HVL := hide_ (HZL.out.trans vl)
                  clear vl x0 x1 x2 fz z0 z1 hV4 HZL hrd0 hrd1 hrd2
                  refine wpAnyR_done (by kernel_rfl) ?_ _
                  have hlt4 := heap_lt0 v0
                  have hlt5 := heap_lt0 v1
                  generalize hdk : w7.heap.size + 1 = dk at *
                  generalize hbk : w7.heap.size = bk at *
                  exact cut_leaf2 dk bk rfl ⟨HVL.out, by omega, by omega, by omega, by omega, by omega, v0, v1, by omega⟩
              case h2 =>
                rintro b15 b16 W8 ⟨hl8, g1, g2, g3, g4, g5, hr15, hr16, g6⟩
                have x15 := cell_of_row _ _ 1 _ _ (0, 0) hr15; have f15 := fun k => frozen_of_row _ _ k _ _ hr15
                have x16 := cell_of_row _ _ 1 _ _ (0, 0) hr16; have f16 := fun k => frozen_of_row _ _ k _ _ hr16
                have hs9 := hide_ (show Below w7.heap.size w7 ((W8.setCell ⟨b15, 1, none⟩ (.slice none 0 0)).setCell ⟨b16, 1, none⟩ (.slice none 0 0)) ∧ SpL ((W8.setCell ⟨b15, 1, none⟩ (.slice none 0 0)).setCell ⟨b16, 1, none⟩ (.slice none 0 0)) (w7.heap.size + 2) b15 b16 r A2 n2 c2 (.slice none 0 0) (.slice none 0 0) 0 0 (lowL at_ (R.take 0)) (highL at_ (R.take 0)) from by
                  have q15 := heap_setCell_same W8 b15 1 _ _ (.slice none 0 0) hr15
                  have q16 : (W8.setCell ⟨b15, 1, none⟩ (.slice none 0 0)).heap[b16]? = _ := (Below.heap_setCell _ _ _ _ (fun e => g5 (by have e : b16 = b15 := e; exact e.symm))).trans hr16
                  have z16 := heap_setCell_same _ b16 1 _ _ (.slice none 0 0) q16
                  have z15 := (Below.heap_setCell (W8.setCell ⟨b15, 1, none⟩ (.slice none 0 0)) ⟨b16, 1, none⟩ (.slice none 0 0) b15 (fun e => g5 e)).trans q15
                  exact ⟨(hl8.setCell g1 _).setCell g2 _, by simpa using z15, by simpa using z16, World.ownsRow_nil _ _ _ _, World.ownsRow_nil _ _ _ _, fun g h => by simp [Value.ownBlock] at h, g3, g4, g5, by simp [World.setCell]; omega⟩)
                go_wp2_with fail
                obtain ⟨W9, hW9⟩ : ∃ W9, W9 = (W8.setCell ⟨b15, 1, none⟩ (.slice none 0 0)).setCell ⟨b16, 1, none⟩ (.slice none 0 0) := ⟨_, rfl⟩
                rw [← hW9] at hs9 ⊢
                have HL9 := hide_ (show Later w7 W9 from hs9.out.1); have HSP9 := hide_ hs9.out.2
                have hn1 : (n1 : Int) ≤ 1048576 := by omega
                clear x15 x16 f15 f16 hr15 hr16 hs9 hW9 hl8
                go_loopw [17] (fun s17 wr => ∃ (i : Nat) (Al : Option Addr) (nl cl : Nat) (Ah : Option Addr) (nh ch : Nat), i ≤ n1 ∧ s17 = .int .i64 i ∧ nl ≤ i ∧ nh ≤ i ∧ Hid (SpL wr (w7.heap.size + 2) b15 b16 r A2 n2 c2 (.slice Al nl cl) (.slice Ah nh ch) nl nh (lowL at_ (R.take i)) (highL at_ (R.take i))) ∧ Hid (Later w7 wr)) (fun i _ => n1 - (intOf i).toNat)
                case atStart => exact ⟨0, none, 0, 0, none, 0, 0, by omega, rfl, by omega, by omega, HSP9, HL9⟩
                case round =>
                  obtain ⟨i, Al, nl, cl, Ah, nh, ch, hi, rfl, hnl, hnh, HSP, HLr⟩ := hrel
                  have r5 : (i : Int) ≤ 1048576 := by omega
                  have r6 : (0 : Int) ≤ (i : Int) := by omega
                  have hxr := later_row HLr.out HX7.out
                  have HXr := hide_ hxr
                  have u1 := cell_of_row _ _ 1 _ _ (0, 0) hxr
                  obtain ⟨hr15, hr16, _, _, _, hb15, hb16, _, hsz⟩ := HSP.out
                  have hwr := heap_lt0 HX7.out
                  by_cases hin : i < n1
                  · have r7 : (i : Int) < (n1 : Int) := by omega
                    obtain ⟨sp, hsp⟩ : ∃ sp, R[i]? = some sp := ⟨_, List.getElem?_eq_getElem (by rw [H1.out]; exact hin)⟩
                    have hlw := HB7.out.trans HLr.out
                    obtain ⟨b5, o5, rfl, y0, y1⟩ := (HR.out.below hlw).span hsp
                    have HLS := hide_ (lowL_snoc (a := at_) hsp); have HHS := hide_ (highL_snoc (a := at_) hsp)
                    have hal := later_alloc wr (.cells #[.string sp.1, .string sp.2] 24)
                    obtain ⟨X0, hX0⟩ : ∃ X0, X0 = wr.alloc (.cells #[.string sp.1, .string sp.2] 24) := ⟨_, rfl⟩
                    have HX0 := hide_ hX0.symm
                    have hs0 : X0.heap[wr.heap.size]? = some (.cells #[.string sp.1, .string sp.2] 24 (0, 0)) := by rw [hX0]; exact heap_alloc_new wr _
                    rw [← hX0] at hal
                    have hszX : X0.heap.size = wr.heap.size + 1 := by rw [hX0]; simp
                    have HSX := hide_ (HSP.out.later hal); have HLX := hide_ (HLr.out.trans hal); have HS0 := hide_ hs0
                    have a0 := cell_of_row _ _ 0 _ _ (0, 0) hs0; have a1 := cell_of_row _ _ 1 _ _ (0, 0) hs0
                    have c15 := cell_of_row _ _ 1 _ _ (0, 0) HSX.out.1; have c16 := cell_of_row _ _ 1 _ _ (0, 0) HSX.out.2.1
                    clear hsp hs0 hX0 hal hxr hr15 hr16
                    by_cases q1 : sp.2 ≤ at_
                    · have k1 := (ble sp.2 at_).trans (decide_eq_true q1)
                      have HQ1 := hide_ q1
                      clear q1
                      go_wp2_with (first | (rw [HX0.out]) | (at_builtin; go_loud (refine wpList_append_rd _ rfl (.tmp 129) (.tmp 131) 29 rfl (w7.heap.size + 2) 24 2 32 spanT _ nl (srow (lowL at_ (R.take i))) rfl (HSX.out.2.2.1.alloc _) _ 1 1 (encS (sp.1, sp.2)) rfl (Rd.newAt _ #[.string sp.1, .string sp.2] 24 1 2 _ (0, 0) rfl hszX.symm) (encS_one _) (by omega) (by unfold maxLen; omega) (by simp; omega) (fun h => nomatch h) ?_; intro v8 w8 hown8 hg8 hat8; have hgr := SpL.grow (s := (sp.1, sp.2)) (HSX.out.later (later_alloc _ _)) hg8 hown8 hat8; have HGR := hide_ hgr.2.2; have e1 := cell_of_row _ _ 1 _ _ (0, 0) hgr.1; have e2 := frozen_of_row _ _ 1 _ _ hgr.1; have HL8 := hide_ (show Later w7 (w8.setCell ⟨b15, 1, none⟩ v8) from Below.setCell (show Later w7 w8 from own_grown (Below.alloc HLX.out (Below.size HLX.out) _) (own_base (HSX.out.2.2.1.alloc _) (by omega)) hg8 (by simp; omega)) (by omega) _); obtain ⟨A89, c89, rfl⟩ := own_form hown8; clear hown8 hg8 hat8 hgr)))
                      go_roundw
                      case rel => exact ⟨i + 1, A89, nl + 1, c89, Ah, nh, ch, by omega, by go_num, by omega, by omega, hide_ (by rw [HLS.out, HHS.out, show lowS at_ sp = [sp] from if_pos HQ1.out, show highS at_ sp = [] from if_pos HQ1.out, List.append_nil]; exact HGR.out), HL8⟩
                      case measure => simp [intOf]; omega
                    · have k1 := (ble sp.2 at_).trans (decide_eq_false q1)
                      have HQ1 := hide_ q1
                      clear q1
                      by_cases q2 : at_ ≤ sp.1
                      · have k2 := (bl sp.1 at_).trans (decide_eq_false (by grind : ¬ sp.1 < at_))
                        have HQ2 := hide_ q2
                        clear q2
                        go_wp2_with (first | (rw [HX0.out]) | (at_builtin; go_loud (refine wpList_append_rd _ rfl (.tmp 140) (.tmp 142) 29 rfl (w7.heap.size + 2) 24 2 32 spanT _ nh (srow (highL at_ (R.take i))) rfl (HSX.out.2.2.2.1.alloc _) _ 1 1 (encS (sp.1, sp.2)) rfl (Rd.newAt _ #[.string sp.1, .string sp.2] 24 1 2 _ (0, 0) rfl hszX.symm) (encS_one _) (by omega) (by unfold maxLen; omega) (by simp; omega) (fun h => nomatch h) ?_; intro v8 w8 hown8 hg8 hat8; have hgr := SpL.grow (s := (sp.1, sp.2)) (HSX.out.comm.later (later_alloc _ _)) hg8 hown8 hat8; have HGR := hide_ hgr.2.2; have e1 := cell_of_row _ _ 1 _ _ (0, 0) hgr.1; have e2 := frozen_of_row _ _ 1 _ _ hgr.1; have HL8 := hide_ (show Later w7 (w8.setCell ⟨b16, 1, none⟩ v8) from Below.setCell (show Later w7 w8 from own_grown (Below.alloc HLX.out (Below.size HLX.out) _) (own_base (HSX.out.2.2.2.1.alloc _) (by omega)) hg8 (by simp; omega)) (by omega) _); obtain ⟨A89, c89, rfl⟩ := own_form hown8; clear hown8 hg8 hat8 hgr)))
                        go_roundw
                        case rel => exact ⟨i + 1, Al, nl, cl, A89, nh + 1, c89, by omega, by go_num, by omega, by omega, hide_ (by rw [HLS.out, HHS.out, show lowS at_ sp = [] from (if_neg HQ1.out).trans (if_pos HQ2.out), show highS at_ sp = [sp] from (if_neg HQ1.out).trans (if_pos HQ2.out), List.append_nil]; exact HGR.out.comm), HL8⟩
                        case measure => simp [intOf]; omega
                      · have k2 := (bl sp.1 at_).trans (decide_eq_true (by grind : sp.1 < at_))
                        have HQ2 := hide_ q2
                        clear q2
                        go_wp2_with (first | (rw [HX0.out]) | (rw [HX12.out]) | (at_builtin; go_loud (refine wpList_append_rd _ rfl (.tmp 106) (.tmp 111) 29 rfl (w7.heap.size + 2) 24 2 32 spanT _ nl (srow (lowL at_ (R.take i))) rfl (HSX.out.2.2.1.alloc _) _ 1 1 (encS (sp.1, at_)) rfl (Rd.newAt _ #[.string sp.1, .string at_] 24 1 2 _ (0, 0) rfl hszX.symm) (encS_one _) (by omega) (by unfold maxLen; omega) (by simp; omega) (fun h => nomatch h) ?_; intro v8 w8 hown8 hg8 hat8; have hgr := SpL.grow (s := (sp.1, at_)) (HSX.out.later (later_alloc _ _)) hg8 hown8 hat8; have HGR := hide_ hgr.2.2; have e1 := cell_of_row _ _ 1 _ _ (0, 0) hgr.1; have e2 := frozen_of_row _ _ 1 _ _ hgr.1; have HL8 := hide_ (show Later w7 (w8.setCell ⟨b15, 1, none⟩ v8) from Below.setCell (show Later w7 w8 from own_grown (Below.alloc HLX.out (Below.size HLX.out) _) (own_base (HSX.out.2.2.1.alloc _) (by omega)) hg8 (by simp; omega)) (by omega) _); have hnz : (Value.slice Al nl cl).ownBlock ≠ some wr.heap.size := (fun e => by have := (HSP.out.2.2.1.lt _ e).2; omega); have hsk := hgr.2.1 wr.heap.size _ (.inr trivial) (row_al HS0.out _) hnz; have e4 : (w8.setCell ⟨b15, 1, none⟩ v8).cell? ⟨wr.heap.size, 1, none⟩ = some (.string sp.2) := (by have hq := (Below.heap_setCell w8 ⟨b15, 1, none⟩ v8 wr.heap.size (fun e => by have e : wr.heap.size = b15 := e; omega)).trans hsk; exact cell_of_row _ _ 1 _ _ (0, 0) hq); clear hnz hsk; obtain ⟨A89, c89, rfl⟩ := own_form hown8; clear hown8 hg8 hat8 hgr; obtain ⟨W12, hW12⟩ : ∃ W12, W12 = w8.setCell ⟨b15, 1, none⟩ (.slice A89 (nl + 1) c89) := ⟨_, rfl⟩; rw [← hW12] at HGR HL8 e4; have HX12 := hide_ hW12.symm; have HGR12 := hide_ HGR.out; have HL12 := hide_ HL8.out; have e3 := cell_of_row _ _ 1 _ _ (0, 0) HGR12.out.2.1; have hb12 : w7.heap.size + 2 ≤ W12.heap.size := HGR12.out.2.2.2.2.2.2.2.2; clear hW12 HGR HL8)) | (at_builtin; go_loud (refine wpList_append_rd _ rfl (.tmp 115) (.tmp 120) 29 rfl (w7.heap.size + 2) 24 2 32 spanT _ nh (srow (highL at_ (R.take i))) rfl (HGR12.out.2.2.2.1.alloc _) _ 1 1 (encS (at_, sp.2)) rfl (Rd.newAt _ #[.string at_, .string sp.2] 24 1 2 _ (0, 0) rfl rfl) (encS_one _) (by omega) (by unfold maxLen; omega) (by simp; omega) (fun h => nomatch h) ?_; intro v8 w8 hown8 hg8 hat8; have hgr := SpL.grow (s := (at_, sp.2)) (HGR12.out.comm.later (later_alloc _ _)) hg8 hown8 hat8; have HGR := hide_ hgr.2.2; have e1 := cell_of_row _ _ 1 _ _ (0, 0) hgr.1; have e2 := frozen_of_row _ _ 1 _ _ hgr.1; have HL8 := hide_ (show Later w7 (w8.setCell ⟨b16, 1, none⟩ v8) from Below.setCell (show Later w7 w8 from own_grown (Below.alloc HL12.out (Below.size HL12.out) _) (own_base (HGR12.out.2.2.2.1.alloc _) (by omega)) hg8 (by simp; omega)) (by omega) _); obtain ⟨A89, c89, rfl⟩ := own_form hown8; clear hown8 hg8 hat8 hgr)))
                        go_roundw
                        case rel => exact ⟨i + 1, _, nl + 1, _, _, nh + 1, _, by omega, by go_num, by omega, by omega, hide_ (by rw [HLS.out, HHS.out, show lowS at_ sp = [(sp.1, at_)] from (if_neg HQ1.out).trans (if_neg HQ2.out), show highS at_ sp = [(at_, sp.2)] from (if_neg HQ1.out).trans (if_neg HQ2.out)]; exact HGR.out.comm), HL8⟩
                        case measure => simp [intOf]; omega
                  · obtain rfl : i = n1 := by omega
                    have r7 : ¬ (i : Int) < (i : Int) := by omega
                    have hRt : R.take i = R := by rw [← H1.out, List.take_length]
                    rw [hRt] at HSP
                    have HSP := hide_ HSP.out
                    have HBr := hide_ (HB7.out.trans HLr.out)
                    have HMar := hide_ (HMa7.out.below HLr.out); have HMbr := hide_ (HMb7.out.below HLr.out)
                    have u0 := cell_of_row _ _ 0 _ _ (0, 0) hxr; have u2 := cell_of_row _ _ 2 _ _ (0, 0) hxr
                    have hLn : (lowL at_ R).length = nl := by have := (Rd.of_own HSP.out.2.2.1).1; rw [srow_len] at this; omega
                    have hHn : (highL at_ R).length = nh := by have := (Rd.of_own HSP.out.2.2.2.1).1; rw [srow_len] at this; omega
                    have HLn := hide_ hLn; have HHn := hide_ hHn
                    have hbaw : W0.heap.size < w7.heap.size := HMa7.out.lt
                    have hbbw : w1.heap.size < w7.heap.size := HMb7.out.lt
                    clear hin hRt hLn hHn hxr
                    go_wp2_with fail
                    have hal := later_alloc wr (.cells #[.int .i64 r, .slice A1 i c1, .slice A2 n2 c2] 32)
                    have hl := HBr.out.trans hal
                    have hrow := txRow_one (heap_alloc_new wr (.cells #[.int .i64 r, .slice A1 i c1, .slice A2 n2 c2] 32)) H1.out H2.out h3 h4 (HR.out.below hl) (HC.out.below hl)
                    have hmk := HMar.out.below hal
                    obtain ⟨Am, nm, cm, hma, _, _⟩ := hmk
                    have hst := hrow.stayM hma
                    refine (judges_any (ct := 1) 9 (HMar.out.below hal) (by omega) HF.out (by omega) hst (by omega)).mono ?_; rintro e w10 hj
                    obtain ⟨Ax, cx, j, M, m10, rfl, hjo, _, _, _, hox, hMK, hG⟩ := judge_one hj HF.out (by omega) HS.out
                    have HG10 := hide_ (grown_trans (grown_later hal (some W0.heap.size)) hG (.inl rfl))
                    have HJ10 := hide_ hjo.1
                    have HBx := hide_ (later_of_grown HBr.out HG10.out (by omega))
                    have HMb10 := hide_ (mk_apart HMbr.out HMar.out (by omega) HG10.out)
                    obtain ⟨hq15, hq16, ho15, ho16, _, _, _, hne, _⟩ := HSP.out
                    have hr15' := (HG10.out.block b15 (heap_lt0 hq15) (fun e => by have := Option.some.inj e; omega)).trans hq15
                    have hr16' := (HG10.out.block b16 (heap_lt0 hq16) (fun e => by have := Option.some.inj e; omega)).trans hq16
                    have HO15 := hide_ (own_keep ho15 HG10.out (by omega)); have HO16 := hide_ (own_keep ho16 HG10.out (by omega))
                    have HOX := hide_ (own_base hox (show w7.heap.size + 2 ≤ (wr.alloc _).heap.size by simp; omega))
                    have HR16 := hide_ hr16'
                    have y0 := cell_of_row _ _ 0 _ _ (0, 0) hr15'; have y1 := cell_of_row _ _ 1 _ _ (0, 0) hr15'; have y2 := cell_of_row _ _ 2 _ _ (0, 0) hr15'; have yf := fun k => frozen_of_row _ _ k _ _ hr15'
                    have hsz10 : w7.heap.size + 2 ≤ w10.heap.size := Nat.le_trans hsz HG10.out.size
                    have hz15 : b15 < w10.heap.size := by omega
                    clear hal hl hrow hma hst hj hjo hox hMK hG hq15 hq16 ho15 ho16 hr16' u0 u1 u2
                    go_wp2_with fail
                    have HX11 := hide_ (show (w10.setCell ⟨b15, 2, none⟩ (.slice none 0 0)).heap[b15]? = some (.cells #[.int .i64 r, .slice Al nl cl, .slice none 0 0] 32 (0, 0)) by have := heap_setCell_same w10 b15 2 _ _ (.slice none 0 0) hr15'; simpa using this)
                    have hmb11 : MK (w10.setCell ⟨b15, 2, none⟩ (.slice none 0 0)) w1.heap.size L' 0 m' := by
                      obtain ⟨A0, n0, c0, q1, q2, q3⟩ := HMb10.out
                      exact mk_cell HMb10.out hr15' (by decide) (by decide) _
                    obtain ⟨W11, hW11⟩ : ∃ W11, W11 = w10.setCell ⟨b15, 2, none⟩ (.slice none 0 0) := ⟨_, rfl⟩
                    have HMb11 := hide_ hmb11
                    have HO15b := hide_ (own_put (B := b15) (j := 2) (u := .slice none 0 0) HO15.out g3); have HO16b := hide_ (own_put (B := b15) (j := 2) (u := .slice none 0 0) HO16.out g3); have HOXb := hide_ (own_put (B := b15) (j := 2) (u := .slice none 0 0) HOX.out g3)
                    have HR16b := hide_ ((Below.heap_setCell w10 ⟨b15, 2, none⟩ (.slice none 0 0) b16 (fun e => hne (by have e : b16 = b15 := e; exact e.symm))).trans HR16.out)
                    have HBx2 := hide_ (show Later w (w10.setCell ⟨b15, 2, none⟩ (.slice none 0 0)) from Below.setCell HBx.out (show w.heap.size ≤ b15 by omega) _)
                    have hsz11 : (w10.setCell ⟨b15, 2, none⟩ (.slice none 0 0)).heap.size = w10.heap.size := by simp [World.setCell]
                    rw [← hW11] at HX11 HMb11 HO15b HO16b HOXb HR16b HBx2 hsz11 ⊢
                    clear hmb11 hr15' y0 y1 y2 yf hW11
                    have hal := later_alloc W11 (.cells #[.int .i64 r, .slice Al nl cl, .slice none 0 0] 32)
                    have hrow := txRow_one (C := []) (heap_alloc_new W11 (.cells #[.int .i64 r, .slice Al nl cl, .slice none 0 0] 32)) HLn.out rfl (by omega) (by omega) ((Rd.of_own HO15b.out).alloc _) (Rd.nil _ _ _)
                    rw [hsz11] at hrow
                    have hmk := HMb11.out.below hal
                    obtain ⟨Am, nm, cm, hma, _, _⟩ := hmk
                    have hst := hrow.stayM hma
                    refine (judges_any (ct := 1) 9 (HMb11.out.below hal) (by omega) HF'.out (by omega) hst (by omega)).mono ?_; rintro e w12 hj
                    obtain ⟨Ay, cy, j2, M2, m12, rfl, hjo, hF2, hm2, hML2, hoy, hMK2, hG⟩ := judge_one hj HF'.out (by omega) (low_sound ha HS.out)
                    have HG12 := hide_ (grown_trans (grown_later hal (some w1.heap.size)) hG (.inl rfl))
                    have HJ12 := hide_ (one_blind hjo)
                    have HBy := hide_ (later_of_grown HBx2.out HG12.out (by omega))
                    have HF2 := hide_ hF2; have HMb12 := hide_ hMK2
                    have hr16' := (HG12.out.block b16 (heap_lt0 HR16b.out) (fun e => by have := Option.some.inj e; omega)).trans HR16b.out
                    have HO16c := hide_ (own_keep HO16b.out HG12.out (by omega)); have HOXc := hide_ (own_keep HOXb.out HG12.out (by omega))
                    have HOY := hide_ (own_base hoy (show w7.heap.size + 2 ≤ (W11.alloc _).heap.size by simp; omega))
                    have y0 := cell_of_row _ _ 0 _ _ (0, 0) hr16'; have y1 := cell_of_row _ _ 1 _ _ (0, 0) hr16'; have y2 := cell_of_row _ _ 2 _ _ (0, 0) hr16'; have yf := fun k => frozen_of_row _ _ k _ _ hr16'
                    have hsz12 : w7.heap.size + 2 ≤ w12.heap.size := Nat.le_trans (by omega) HG12.out.size
                    clear hal hrow hma hst hj hjo hF2 hoy hMK2 hG
                    go_wp2_with fail
                    have HX13 := hide_ (show (w12.setCell ⟨b16, 2, none⟩ (.slice none 0 0)).heap[b16]? = some (.cells #[.int .i64 r, .slice Ah nh ch, .slice none 0 0] 32 (0, 0)) by have := heap_setCell_same w12 b16 2 _ _ (.slice none 0 0) hr16'; simpa using this)
                    have HMb13 := hide_ (mk_cell (j := 2) HMb12.out hr16' (by decide) (by decide) (.slice none 0 0))
                    have HO16d := hide_ (own_put (B := b16) (j := 2) (u := .slice none 0 0) HO16c.out g4); have HOXd := hide_ (own_put (B := b16) (j := 2) (u := .slice none 0 0) HOXc.out g4); have HOYd := hide_ (own_put (B := b16) (j := 2) (u := .slice none 0 0) HOY.out g4)
                    have HBy2 := hide_ (show Later w (w12.setCell ⟨b16, 2, none⟩ (.slice none 0 0)) from Below.setCell HBy.out (show w.heap.size ≤ b16 by omega) _)
                    have hsz13 : (w12.setCell ⟨b16, 2, none⟩ (.slice none 0 0)).heap.size = w12.heap.size := by simp [World.setCell]
                    obtain ⟨W13, hW13⟩ : ∃ W13, W13 = w12.setCell ⟨b16, 2, none⟩ (.slice none 0 0) := ⟨_, rfl⟩
                    rw [← hW13] at HX13 HMb13 HO16d HOXd HOYd HBy2 hsz13 ⊢
                    clear hr16' y0 y1 y2 yf hW13
                    have hal := later_alloc W13 (.cells #[.int .i64 r, .slice Ah nh ch, .slice none 0 0] 32)
                    have hrow := txRow_one (C := []) (heap_alloc_new W13 (.cells #[.int .i64 r, .slice Ah nh ch, .slice none 0 0] 32)) HHn.out rfl (by omega) (by omega) ((Rd.of_own HO16d.out).alloc _) (Rd.nil _ _ _)
                    rw [hsz13] at hrow
                    have hmk := HMb13.out.below hal
                    obtain ⟨Am, nm, cm, hma, _, _⟩ := hmk
                    have hst := hrow.stayM hma
                    refine (judges_any (ct := 1) 10 (HMb13.out.below hal) (by omega) HF2.out (by omega) hst (by omega)).mono ?_; rintro e w14 hj
                    obtain ⟨Az, cz, j3, M3, m14, rfl, hjo, _, _, _, hoz, hMK3, hG⟩ := judge_one hj HF2.out (by omega) (high_sound ha HS.out)
                    have HG14 := hide_ (grown_trans (grown_later hal (some w1.heap.size)) hG (.inl rfl))
                    have HBz := hide_ (later_of_grown HBy2.out HG14.out (by omega))
                    have HJ14 := hide_ hjo.1
                    obtain ⟨bx, ox, rfl, hcx⟩ := ints_cells (own_keep HOXd.out HG14.out (by omega)) rfl (by omega)
                    obtain ⟨bz, oy, rfl, hcy⟩ := ints_cells (own_keep HOYd.out HG14.out (by omega)) rfl (by omega)
                    obtain ⟨bw, oz, rfl, hcz⟩ := ints_cells hoz rfl (by omega)
                    have p0 := later_drew_cell (show w14.cell? ⟨bx, ox, none⟩ = some (.int .i64 j) from hcx 0 j rfl)
                    have p1 := later_drew_cell (show w14.cell? ⟨bz, oy, none⟩ = some (.int .i64 j2) from hcy 0 j2 rfl)
                    have p2 := later_drew_cell (show w14.cell? ⟨bw, oz, none⟩ = some (.int .i64 j3) from hcz 0 j3 rfl)
                    have hr0 : 0 ≤ r := (soundT_iff.1 HS.out).1
                    have hlaw := split_law (L2 := M2) (l := m) (l' := m') at_ (R := R) HJ.out HJ'.out HBL.out HF.out.1 HF'.out.1 HF2.out.1 HJ12.out.2 hr0
                    have e1 : j = judgeV L 0 r R := HJ10.out
                    have e2 : j2 = judgeV L' 0 r (lowL at_ R) := HJ12.out.1
                    have e3 : j3 = judgeV M2 0 r (highL at_ R) := HJ14.out
                    rw [← e1, ← e2, ← e3] at hlaw
                    have o1 : j = 1 ∨ j = 2 := by rw [e1]; exact judgeV_or hr0
                    have o2 : j2 = 1 ∨ j2 = 2 := by rw [e2]; exact judgeV_or hr0
                    have o3 : j3 = 1 ∨ j3 = 2 := by rw [e3]; exact judgeV_or hr0
                    clear hal hrow hma hst hj hjo hoz hMK3 hG hcx hcy hcz e1 e2 e3 hr0 HJ10 HJ12 HJ14
                    rcases o2 with rfl | rfl
                    · rcases o3 with rfl | rfl
                      · obtain rfl : j = 1 := by exact hlaw.2 ⟨rfl, rfl⟩
                        clear hlaw o1
                        go_wp2_with fail
                        refine wp_region_k (by kernel_rfl) ?_
                        refine wpAnyK_take 0 (v := ?_) rfl (by kernel_rfl) (by kernel_rfl) (by kernel_rfl) (fun _ _ _ h => h) (by rfl) (by intro W hSw; go_simp; with_reducible rfl) ?_; try simp only [Act.put, List.setIfInBounds_toArray, List.set_cons_zero, List.set_cons_succ]
                        refine wpAnyK_take 1 (v := ?_) rfl (by kernel_rfl) (by kernel_rfl) (by kernel_rfl) (fun _ _ _ h => h) (by rfl) (by intro W hSw; go_simp; with_reducible rfl) ?_; try simp only [Act.put, List.setIfInBounds_toArray, List.set_cons_zero, List.set_cons_succ]
                        refine wpAnyK_take 2 (v := ?_) rfl (by kernel_rfl) (by kernel_rfl) (by kernel_rfl) (fun _ _ _ h => h) (by rfl) (by intro W hSw; go_simp; with_reducible rfl) ?_; try simp only [Act.put, List.setIfInBounds_toArray, List.set_cons_zero, List.set_cons_succ]
                        refine wpAnyK_take 3 (v := ?_) rfl (by kernel_rfl) (by kernel_rfl) (by kernel_rfl) (fun _ _ _ h => h) (by rfl) (by intro W hSw; go_simp; with_reducible rfl) ?_; try simp only [Act.put, List.setIfInBounds_toArray, List.set_cons_zero, List.set_cons_succ]
                        refine wpAnyK_take 4 (v := ?_) rfl (by kernel_rfl) (by kernel_rfl) (by kernel_rfl) (fun _ _ _ h => h) (by rfl) (by intro W hSw; go_simp; with_reducible rfl) ?_; try simp only [Act.put, List.setIfInBounds_toArray, List.set_cons_zero, List.set_cons_succ]
                        refine wpAnyK_take 5 (v := ?_) rfl (by kernel_rfl) (by kernel_rfl) (by kernel_rfl) (fun _ _ _ h => h) (by rfl) (by intro W hSw; go_simp; with_reducible rfl) ?_; try simp only [Act.put, List.setIfInBounds_toArray, List.set_cons_zero, List.set_cons_succ]
                        refine wpAnyK_take 6 (v := ?_) rfl (by kernel_rfl) (by kernel_rfl) (by kernel_rfl) (fun _ _ _ h => h) (by rfl) (by intro W hSw; go_simp; with_reducible rfl) ?_; try simp only [Act.put, List.setIfInBounds_toArray, List.set_cons_zero, List.set_cons_succ]
                        refine wpAnyK_take 7 (v := ?_) rfl (by kernel_rfl) (by kernel_rfl) (by kernel_rfl) (fun _ _ _ h => h) (by rfl) (by intro W hSw; go_simp; with_reducible rfl) ?_; try simp only [Act.put, List.setIfInBounds_toArray, List.set_cons_zero, List.set_cons_succ]
                        refine wpAnyK_take 8 (v := ?_) rfl (by kernel_rfl) (by kernel_rfl) (by kernel_rfl) (fun _ _ _ h => h) (by rfl) (by intro W hSw; go_simp; with_reducible rfl) ?_; try simp only [Act.put, List.setIfInBounds_toArray, List.set_cons_zero, List.set_cons_succ]
                        refine wpAnyK_take 9 (v := ?_) rfl (by kernel_rfl) (by kernel_rfl) (by kernel_rfl) (fun _ _ _ h => h) (by rfl) (by intro W hSw; go_simp; with_reducible rfl) ?_; try simp only [Act.put, List.setIfInBounds_toArray, List.set_cons_zero, List.set_cons_succ]
                        refine wpAnyK_take 10 (v := ?_) rfl (by kernel_rfl) (by kernel_rfl) (by kernel_rfl) (fun _ _ _ h => h) (by rfl) (by intro W hSw; go_simp; with_reducible rfl) ?_; try simp only [Act.put, List.setIfInBounds_toArray, List.set_cons_zero, List.set_cons_succ]
                        refine wpAnyK_take 11 (v := ?_) rfl (by kernel_rfl) (by kernel_rfl) (by kernel_rfl) (fun _ _ _ h => h) (by rfl) (by intro W hSw; go_simp; with_reducible rfl) ?_; try simp only [Act.put, List.setIfInBounds_toArray, List.set_cons_zero, List.set_cons_succ]
                        refine wpAnyK_take 12 (v := ?_) rfl (by kernel_rfl) (by kernel_rfl) (by kernel_rfl) (fun _ _ _ h => h) (by rfl) (by intro W hSw; go_simp; with_reducible rfl) ?_; try simp only [Act.put, List.setIfInBounds_toArray, List.set_cons_zero, List.set_cons_succ]
                        refine wpAnyK_take 13 (v := ?_) rfl (by kernel_rfl) (by kernel_rfl) (by kernel_rfl) (fun _ _ _ h => h) (by rfl) (by intro W hSw; go_simp; with_reducible rfl) ?_; try simp only [Act.put, List.setIfInBounds_toArray, List.set_cons_zero, List.set_cons_succ]
                        refine wpAnyK_take 14 (v := ?_) rfl (by kernel_rfl) (by kernel_rfl) (by kernel_rfl) (fun _ _ _ h => h) (by rfl) (by intro W hSw; go_simp; with_reducible rfl) ?_; try simp only [Act.put, List.setIfInBounds_toArray, List.set_cons_zero, List.set_cons_succ]
                        refine wpAnyK_take 15 (v := ?_) rfl (by kernel_rfl) (by kernel_rfl) (by kernel_rfl) (fun _ _ _ h => h) (by rfl) (by intro W hSw; go_simp; with_reducible rfl) ?_; try simp only [Act.put, List.setIfInBounds_toArray, List.set_cons_zero, List.set_cons_succ]
                        refine wpAnyK_take 16 (v := ?_) rfl (by kernel_rfl) (by kernel_rfl) (by kernel_rfl) (fun _ _ _ h => h) (by rfl) (by intro W hSw; go_simp; with_reducible rfl) ?_; try simp only [Act.put, List.setIfInBounds_toArray, List.set_cons_zero, List.set_cons_succ]
                        refine wpAnyK_take 17 (v := ?_) rfl (by kernel_rfl) (by kernel_rfl) (by kernel_rfl) (fun _ _ _ h => h) (by rfl) (by intro W hSw; go_simp; with_reducible rfl) ?_; try simp only [Act.put, List.setIfInBounds_toArray, List.set_cons_zero, List.set_cons_succ]
                        refine wpAnyK_take 18 (v := ?_) rfl (by kernel_rfl) (by kernel_rfl) (by kernel_rfl) (fun _ _ _ h => h) (by rfl) (by intro W hSw; go_simp; with_reducible rfl) ?_; try simp only [Act.put, List.setIfInBounds_toArray, List.set_cons_zero, List.set_cons_succ]
                        refine wpAnyK_take 19 (v := ?_) rfl (by kernel_rfl) (by kernel_rfl) (by kernel_rfl) (fun _ _ _ h => h) (by rfl) (by intro W hSw; go_simp; with_reducible rfl) ?_; try simp only [Act.put, List.setIfInBounds_toArray, List.set_cons_zero, List.set_cons_succ]
                        refine wpAnyK_take 20 (v := ?_) rfl (by kernel_rfl) (by kernel_rfl) (by kernel_rfl) (fun _ _ _ h => h) (by rfl) (by intro W hSw; go_simp; with_reducible rfl) ?_; try simp only [Act.put, List.setIfInBounds_toArray, List.set_cons_zero, List.set_cons_succ]
                        refine wpAnyK_take 21 (v := ?_) rfl (by kernel_rfl) (by kernel_rfl) (by kernel_rfl) (fun _ _ _ h => h) (by rfl) (by intro W hSw; go_simp; with_reducible rfl) ?_; try simp only [Act.put, List.setIfInBounds_toArray, List.set_cons_zero, List.set_cons_succ]
                        refine wpAnyK_take 22 (v := ?_) rfl (by kernel_rfl) (by kernel_rfl) (by kernel_rfl) (fun _ _ _ h => h) (by rfl) (by intro W hSw; go_simp; with_reducible rfl) ?_; try simp only [Act.put, List.setIfInBounds_toArray, List.set_cons_zero, List.set_cons_succ]
                        refine wpAnyK_take 23 (v := ?_) rfl (by kernel_rfl) (by kernel_rfl) (by kernel_rfl) (fun _ _ _ h => h) (by rfl) (by intro W hSw; go_simp; with_reducible rfl) ?_; try simp only [Act.put, List.setIfInBounds_toArray, List.set_cons_zero, List.set_cons_succ]
                        refine wpAnyK_take 24 (v := ?_) rfl (by kernel_rfl) (by kernel_rfl) (by kernel_rfl) (fun _ _ _ h => h) (by rfl) (by intro W hSw; go_simp; with_reducible rfl) ?_; try simp only [Act.put, List.setIfInBounds_toArray, List.set_cons_zero, List.set_cons_succ]
                        refine wpAnyK_take 25 (v := ?_) rfl (by kernel_rfl) (by kernel_rfl) (by kernel_rfl) (fun _ _ _ h => h) (by rfl) (by intro W hSw; go_simp; with_reducible rfl) ?_; try simp only [Act.put, List.setIfInBounds_toArray, List.set_cons_zero, List.set_cons_succ]
                        refine wpAnyK_take 26 (v := ?_) rfl (by kernel_rfl) (by kernel_rfl) (by kernel_rfl) (fun _ _ _ h => h) (by rfl) (by intro W hSw; go_simp; with_reducible rfl) ?_; try simp only [Act.put, List.setIfInBounds_toArray, List.set_cons_zero, List.set_cons_succ]
                        refine wpAnyK_take 27 (v := ?_) rfl (by kernel_rfl) (by kernel_rfl) (by kernel_rfl) (fun _ _ _ h => h) (by rfl) (by intro W hSw; go_simp; with_reducible rfl) ?_; try simp only [Act.put, List.setIfInBounds_toArray, List.set_cons_zero, List.set_cons_succ]
                        refine wpAnyK_take 28 (v := ?_) rfl (by kernel_rfl) (by kernel_rfl) (by kernel_rfl) (fun _ _ _ h => h) (by rfl) (by intro W hSw; go_simp; with_reducible rfl) ?_; try simp only [Act.put, List.setIfInBounds_toArray, List.set_cons_zero, List.set_cons_succ]
                        refine wpAnyK_take 29 (v := ?_) rfl (by kernel_rfl) (by kernel_rfl) (by kernel_rfl) (fun _ _ _ h => h) (by rfl) (by intro W hSw; go_simp; with_reducible rfl) ?_; try simp only [Act.put, List.setIfInBounds_toArray, List.set_cons_zero, List.set_cons_succ]
                        refine wpAnyK_take 30 (v := ?_) rfl (by kernel_rfl) (by kernel_rfl) (by kernel_rfl) (fun _ _ _ h => h) (by rfl) (by intro W hSw; go_simp; with_reducible rfl) ?_; try simp only [Act.put, List.setIfInBounds_toArray, List.set_cons_zero, List.set_cons_succ]
                        refine wpAnyK_take 31 (v := ?_) rfl (by kernel_rfl) (by kernel_rfl) (by kernel_rfl) (fun _ _ _ h => h) (by rfl) (by intro W hSw; go_simp; with_reducible rfl) ?_; try simp only [Act.put, List.setIfInBounds_toArray, List.set_cons_zero, List.set_cons_succ]
                        refine wpAnyK_take 32 (v := ?_) rfl (by kernel_rfl) (by kernel_rfl) (by kernel_rfl) (fun _ _ _ h => h) (by rfl) (by intro W hSw; go_simp; with_reducible rfl) ?_; try simp only [Act.put, List.setIfInBounds_toArray, List.set_cons_zero, List.set_cons_succ]
                        refine wpAnyK_take 33 (v := ?_) rfl (by kernel_rfl) (by kernel_rfl) (by kernel_rfl) (fun _ _ _ h => h) (by rfl) (by intro W hSw; go_simp; with_reducible rfl) ?_; try simp only [Act.put, List.setIfInBounds_toArray, List.set_cons_zero, List.set_cons_succ]
                        refine wpAnyK_take 34 (v := ?_) rfl (by kernel_rfl) (by kernel_rfl) (by kernel_rfl) (fun _ _ _ h => h) (by rfl) (by intro W hSw; go_simp; with_reducible rfl) ?_; try simp only [Act.put, List.setIfInBounds_toArray, List.set_cons_zero, List.set_cons_succ]
                        refine wpAnyK_take 35 (v := ?_) rfl (by kernel_rfl) (by kernel_rfl) (by kernel_rfl) (fun _ _ _ h => h) (by rfl) (by intro W hSw; go_simp; with_reducible rfl) ?_; try simp only [Act.put, List.setIfInBounds_toArray, List.set_cons_zero, List.set_cons_succ]
                        refine wpAnyK_take 36 (v := ?_) rfl (by kernel_rfl) (by kernel_rfl) (by kernel_rfl) (fun _ _ _ h => h) (by rfl) (by intro W hSw; go_simp; with_reducible rfl) ?_; try simp only [Act.put, List.setIfInBounds_toArray, List.set_cons_zero, List.set_cons_succ]
                        refine wpAnyK_take 37 (v := ?_) rfl (by kernel_rfl) (by kernel_rfl) (by kernel_rfl) (fun _ _ _ h => h) (by rfl) (by intro W hSw; go_simp; with_reducible rfl) ?_; try simp only [Act.put, List.setIfInBounds_toArray, List.set_cons_zero, List.set_cons_succ]
                        refine wpAnyK_take 38 (v := ?_) rfl (by kernel_rfl) (by kernel_rfl) (by kernel_rfl) (fun _ _ _ h => h) (by rfl) (by intro W hSw; go_simp; with_reducible rfl) ?_; try simp only [Act.put, List.setIfInBounds_toArray, List.set_cons_zero, List.set_cons_succ]
                        refine wpAnyK_take 39 (v := ?_) rfl (by kernel_rfl) (by kernel_rfl) (by kernel_rfl) (fun _ _ _ h => h) (by rfl) (by intro W hSw; go_simp; with_reducible rfl) ?_; try simp only [Act.put, List.setIfInBounds_toArray, List.set_cons_zero, List.set_cons_succ]
                        refine wpAnyK_take 40 (v := ?_) rfl (by kernel_rfl) (by kernel_rfl) (by kernel_rfl) (fun _ _ _ h => h) (by rfl) (by intro W hSw; go_simp; with_reducible rfl) ?_; try simp only [Act.put, List.setIfInBounds_toArray, List.set_cons_zero, List.set_cons_succ]
                        refine wpAnyK_take 41 (v := ?_) rfl (by kernel_rfl) (by kernel_rfl) (by kernel_rfl) (fun _ _ _ h => h) (by rfl) (by intro W hSw; go_simp; with_reducible rfl) ?_; try simp only [Act.put, List.setIfInBounds_toArray, List.set_cons_zero, List.set_cons_succ]
                        refine wpAnyK_take 42 (v := ?_) rfl (by kernel_rfl) (by kernel_rfl) (by kernel_rfl) (fun _ _ _ h => h) (by rfl) (by intro W hSw; go_simp; with_reducible rfl) ?_; try simp only [Act.put, List.setIfInBounds_toArray, List.set_cons_zero, List.set_cons_succ]
                        refine wpAnyK_done (by kernel_rfl) ?_ _
                        go_wp2_with fail
                        go_ret
                        exact ⟨rfl, HBz.out.trans (below_drewN (Later.refl _) 1)⟩
                      · obtain rfl : j = 2 := o1.resolve_left fun h => absurd (hlaw.1 h) (by decide)
                        clear hlaw o1
                        go_wp2_with fail
                        refine wp_region_k (by kernel_rfl) ?_
                        refine wpAnyK_take 0 (v := ?_) rfl (by kernel_rfl) (by kernel_rfl) (by kernel_rfl) (fun _ _ _ h => h) (by rfl) (by intro W hSw; go_simp; with_reducible rfl) ?_; try simp only [Act.put, List.setIfInBounds_toArray, List.set_cons_zero, List.set_cons_succ]
                        refine wpAnyK_take 1 (v := ?_) rfl (by kernel_rfl) (by kernel_rfl) (by kernel_rfl) (fun _ _ _ h => h) (by rfl) (by intro W hSw; go_simp; with_reducible rfl) ?_; try simp only [Act.put, List.setIfInBounds_toArray, List.set_cons_zero, List.set_cons_succ]
                        refine wpAnyK_take 2 (v := ?_) rfl (by kernel_rfl) (by kernel_rfl) (by kernel_rfl) (fun _ _ _ h => h) (by rfl) (by intro W hSw; go_simp; with_reducible rfl) ?_; try simp only [Act.put, List.setIfInBounds_toArray, List.set_cons_zero, List.set_cons_succ]
                        refine wpAnyK_take 3 (v := ?_) rfl (by kernel_rfl) (by kernel_rfl) (by kernel_rfl) (fun _ _ _ h => h) (by rfl) (by intro W hSw; go_simp; with_reducible rfl) ?_; try simp only [Act.put, List.setIfInBounds_toArray, List.set_cons_zero, List.set_cons_succ]
                        refine wpAnyK_take 4 (v := ?_) rfl (by kernel_rfl) (by kernel_rfl) (by kernel_rfl) (fun _ _ _ h => h) (by rfl) (by intro W hSw; go_simp; with_reducible rfl) ?_; try simp only [Act.put, List.setIfInBounds_toArray, List.set_cons_zero, List.set_cons_succ]
                        refine wpAnyK_take 5 (v := ?_) rfl (by kernel_rfl) (by kernel_rfl) (by kernel_rfl) (fun _ _ _ h => h) (by rfl) (by intro W hSw; go_simp; with_reducible rfl) ?_; try simp only [Act.put, List.setIfInBounds_toArray, List.set_cons_zero, List.set_cons_succ]
                        refine wpAnyK_take 6 (v := ?_) rfl (by kernel_rfl) (by kernel_rfl) (by kernel_rfl) (fun _ _ _ h => h) (by rfl) (by intro W hSw; go_simp; with_reducible rfl) ?_; try simp only [Act.put, List.setIfInBounds_toArray, List.set_cons_zero, List.set_cons_succ]
                        refine wpAnyK_take 7 (v := ?_) rfl (by kernel_rfl) (by kernel_rfl) (by kernel_rfl) (fun _ _ _ h => h) (by rfl) (by intro W hSw; go_simp; with_reducible rfl) ?_; try simp only [Act.put, List.setIfInBounds_toArray, List.set_cons_zero, List.set_cons_succ]
                        refine wpAnyK_take 8 (v := ?_) rfl (by kernel_rfl) (by kernel_rfl) (by kernel_rfl) (fun _ _ _ h => h) (by rfl) (by intro W hSw; go_simp; with_reducible rfl) ?_; try simp only [Act.put, List.setIfInBounds_toArray, List.set_cons_zero, List.set_cons_succ]
                        refine wpAnyK_take 9 (v := ?_) rfl (by kernel_rfl) (by kernel_rfl) (by kernel_rfl) (fun _ _ _ h => h) (by rfl) (by intro W hSw; go_simp; with_reducible rfl) ?_; try simp only [Act.put, List.setIfInBounds_toArray, List.set_cons_zero, List.set_cons_succ]
                        refine wpAnyK_take 10 (v := ?_) rfl (by kernel_rfl) (by kernel_rfl) (by kernel_rfl) (fun _ _ _ h => h) (by rfl) (by intro W hSw; go_simp; with_reducible rfl) ?_; try simp only [Act.put, List.setIfInBounds_toArray, List.set_cons_zero, List.set_cons_succ]
                        refine wpAnyK_take 11 (v := ?_) rfl (by kernel_rfl) (by kernel_rfl) (by kernel_rfl) (fun _ _ _ h => h) (by rfl) (by intro W hSw; go_simp; with_reducible rfl) ?_; try simp only [Act.put, List.setIfInBounds_toArray, List.set_cons_zero, List.set_cons_succ]
                        refine wpAnyK_take 12 (v := ?_) rfl (by kernel_rfl) (by kernel_rfl) (by kernel_rfl) (fun _ _ _ h => h) (by rfl) (by intro W hSw; go_simp; with_reducible rfl) ?_; try simp only [Act.put, List.setIfInBounds_toArray, List.set_cons_zero, List.set_cons_succ]
                        refine wpAnyK_take 13 (v := ?_) rfl (by kernel_rfl) (by kernel_rfl) (by kernel_rfl) (fun _ _ _ h => h) (by rfl) (by intro W hSw; go_simp; with_reducible rfl) ?_; try simp only [Act.put, List.setIfInBounds_toArray, List.set_cons_zero, List.set_cons_succ]
                        refine wpAnyK_take 14 (v := ?_) rfl (by kernel_rfl) (by kernel_rfl) (by kernel_rfl) (fun _ _ _ h => h) (by rfl) (by intro W hSw; go_simp; with_reducible rfl) ?_; try simp only [Act.put, List.setIfInBounds_toArray, List.set_cons_zero, List.set_cons_succ]
                        refine wpAnyK_take 15 (v := ?_) rfl (by kernel_rfl) (by kernel_rfl) (by kernel_rfl) (fun _ _ _ h => h) (by rfl) (by intro W hSw; go_simp; with_reducible rfl) ?_; try simp only [Act.put, List.setIfInBounds_toArray, List.set_cons_zero, List.set_cons_succ]
                        refine wpAnyK_take 16 (v := ?_) rfl (by kernel_rfl) (by kernel_rfl) (by kernel_rfl) (fun _ _ _ h => h) (by rfl) (by intro W hSw; go_simp; with_reducible rfl) ?_; try simp only [Act.put, List.setIfInBounds_toArray, List.set_cons_zero, List.set_cons_succ]
                        refine wpAnyK_take 17 (v := ?_) rfl (by kernel_rfl) (by kernel_rfl) (by kernel_rfl) (fun _ _ _ h => h) (by rfl) (by intro W hSw; go_simp; with_reducible rfl) ?_; try simp only [Act.put, List.setIfInBounds_toArray, List.set_cons_zero, List.set_cons_succ]
                        refine wpAnyK_take 18 (v := ?_) rfl (by kernel_rfl) (by kernel_rfl) (by kernel_rfl) (fun _ _ _ h => h) (by rfl) (by intro W hSw; go_simp; with_reducible rfl) ?_; try simp only [Act.put, List.setIfInBounds_toArray, List.set_cons_zero, List.set_cons_succ]
                        refine wpAnyK_take 19 (v := ?_) rfl (by kernel_rfl) (by kernel_rfl) (by kernel_rfl) (fun _ _ _ h => h) (by rfl) (by intro W hSw; go_simp; with_reducible rfl) ?_; try simp only [Act.put, List.setIfInBounds_toArray, List.set_cons_zero, List.set_cons_succ]
                        refine wpAnyK_take 20 (v := ?_) rfl (by kernel_rfl) (by kernel_rfl) (by kernel_rfl) (fun _ _ _ h => h) (by rfl) (by intro W hSw; go_simp; with_reducible rfl) ?_; try simp only [Act.put, List.setIfInBounds_toArray, List.set_cons_zero, List.set_cons_succ]
                        refine wpAnyK_take 21 (v := ?_) rfl (by kernel_rfl) (by kernel_rfl) (by kernel_rfl) (fun _ _ _ h => h) (by rfl) (by intro W hSw; go_simp; with_reducible rfl) ?_; try simp only [Act.put, List.setIfInBounds_toArray, List.set_cons_zero, List.set_cons_succ]
                        refine wpAnyK_take 22 (v := ?_) rfl (by kernel_rfl) (by kernel_rfl) (by kernel_rfl) (fun _ _ _ h => h) (by rfl) (by intro W hSw; go_simp; with_reducible rfl) ?_; try simp only [Act.put, List.setIfInBounds_toArray, List.set_cons_zero, List.set_cons_succ]
                        refine wpAnyK_take 23 (v := ?_) rfl (by kernel_rfl) (by kernel_rfl) (by kernel_rfl) (fun _ _ _ h => h) (by rfl) (by intro W hSw; go_simp; with_reducible rfl) ?_; try simp only [Act.put, List.setIfInBounds_toArray, List.set_cons_zero, List.set_cons_succ]
                        refine wpAnyK_take 24 (v := ?_) rfl (by kernel_rfl) (by kernel_rfl) (by kernel_rfl) (fun _ _ _ h => h) (by rfl) (by intro W hSw; go_simp; with_reducible rfl) ?_; try simp only [Act.put, List.setIfInBounds_toArray, List.set_cons_zero, List.set_cons_succ]
                        refine wpAnyK_take 25 (v := ?_) rfl (by kernel_rfl) (by kernel_rfl) (by kernel_rfl) (fun _ _ _ h => h) (by rfl) (by intro W hSw; go_simp; with_reducible rfl) ?_; try simp only [Act.put, List.setIfInBounds_toArray, List.set_cons_zero, List.set_cons_succ]
                        refine wpAnyK_take 26 (v := ?_) rfl (by kernel_rfl) (by kernel_rfl) (by kernel_rfl) (fun _ _ _ h => h) (by rfl) (by intro W hSw; go_simp; with_reducible rfl) ?_; try simp only [Act.put, List.setIfInBounds_toArray, List.set_cons_zero, List.set_cons_succ]
                        refine wpAnyK_take 27 (v := ?_) rfl (by kernel_rfl) (by kernel_rfl) (by kernel_rfl) (fun _ _ _ h => h) (by rfl) (by intro W hSw; go_simp; with_reducible rfl) ?_; try simp only [Act.put, List.setIfInBounds_toArray, List.set_cons_zero, List.set_cons_succ]
                        refine wpAnyK_take 28 (v := ?_) rfl (by kernel_rfl) (by kernel_rfl) (by kernel_rfl) (fun _ _ _ h => h) (by rfl) (by intro W hSw; go_simp; with_reducible rfl) ?_; try simp only [Act.put, List.setIfInBounds_toArray, List.set_cons_zero, List.set_cons_succ]
                        refine wpAnyK_take 29 (v := ?_) rfl (by kernel_rfl) (by kernel_rfl) (by kernel_rfl) (fun _ _ _ h => h) (by rfl) (by intro W hSw; go_simp; with_reducible rfl) ?_; try simp only [Act.put, List.setIfInBounds_toArray, List.set_cons_zero, List.set_cons_succ]
                        refine wpAnyK_take 30 (v := ?_) rfl (by kernel_rfl) (by kernel_rfl) (by kernel_rfl) (fun _ _ _ h => h) (by rfl) (by intro W hSw; go_simp; with_reducible rfl) ?_; try simp only [Act.put, List.setIfInBounds_toArray, List.set_cons_zero, List.set_cons_succ]
                        refine wpAnyK_take 31 (v := ?_) rfl (by kernel_rfl) (by kernel_rfl) (by kernel_rfl) (fun _ _ _ h => h) (by rfl) (by intro W hSw; go_simp; with_reducible rfl) ?_; try simp only [Act.put, List.setIfInBounds_toArray, List.set_cons_zero, List.set_cons_succ]
                        refine wpAnyK_take 32 (v := ?_) rfl (by kernel_rfl) (by kernel_rfl) (by kernel_rfl) (fun _ _ _ h => h) (by rfl) (by intro W hSw; go_simp; with_reducible rfl) ?_; try simp only [Act.put, List.setIfInBounds_toArray, List.set_cons_zero, List.set_cons_succ]
                        refine wpAnyK_take 33 (v := ?_) rfl (by kernel_rfl) (by kernel_rfl) (by kernel_rfl) (fun _ _ _ h => h) (by rfl) (by intro W hSw; go_simp; with_reducible rfl) ?_; try simp only [Act.put, List.setIfInBounds_toArray, List.set_cons_zero, List.set_cons_succ]
                        refine wpAnyK_take 34 (v := ?_) rfl (by kernel_rfl) (by kernel_rfl) (by kernel_rfl) (fun _ _ _ h => h) (by rfl) (by intro W hSw; go_simp; with_reducible rfl) ?_; try simp only [Act.put, List.setIfInBounds_toArray, List.set_cons_zero, List.set_cons_succ]
                        refine wpAnyK_take 35 (v := ?_) rfl (by kernel_rfl) (by kernel_rfl) (by kernel_rfl) (fun _ _ _ h => h) (by rfl) (by intro W hSw; go_simp; with_reducible rfl) ?_; try simp only [Act.put, List.setIfInBounds_toArray, List.set_cons_zero, List.set_cons_succ]
                        refine wpAnyK_take 36 (v := ?_) rfl (by kernel_rfl) (by kernel_rfl) (by kernel_rfl) (fun _ _ _ h => h) (by rfl) (by intro W hSw; go_simp; with_reducible rfl) ?_; try simp only [Act.put, List.setIfInBounds_toArray, List.set_cons_zero, List.set_cons_succ]
                        refine wpAnyK_take 37 (v := ?_) rfl (by kernel_rfl) (by kernel_rfl) (by kernel_rfl) (fun _ _ _ h => h) (by rfl) (by intro W hSw; go_simp; with_reducible rfl) ?_; try simp only [Act.put, List.setIfInBounds_toArray, List.set_cons_zero, List.set_cons_succ]
                        refine wpAnyK_take 38 (v := ?_) rfl (by kernel_rfl) (by kernel_rfl) (by kernel_rfl) (fun _ _ _ h => h) (by rfl) (by intro W hSw; go_simp; with_reducible rfl) ?_; try simp only [Act.put, List.setIfInBounds_toArray, List.set_cons_zero, List.set_cons_succ]
                        refine wpAnyK_take 39 (v := ?_) rfl (by kernel_rfl) (by kernel_rfl) (by kernel_rfl) (fun _ _ _ h => h) (by rfl) (by intro W hSw; go_simp; with_reducible rfl) ?_; try simp only [Act.put, List.setIfInBounds_toArray, List.set_cons_zero, List.set_cons_succ]
                        refine wpAnyK_take 40 (v := ?_) rfl (by kernel_rfl) (by kernel_rfl) (by kernel_rfl) (fun _ _ _ h => h) (by rfl) (by intro W hSw; go_simp; with_reducible rfl) ?_; try simp only [Act.put, List.setIfInBounds_toArray, List.set_cons_zero, List.set_cons_succ]
                        refine wpAnyK_take 41 (v := ?_) rfl (by kernel_rfl) (by kernel_rfl) (by kernel_rfl) (fun _ _ _ h => h) (by rfl) (by intro W hSw; go_simp; with_reducible rfl) ?_; try simp only [Act.put, List.setIfInBounds_toArray, List.set_cons_zero, List.set_cons_succ]
                        refine wpAnyK_take 42 (v := ?_) rfl (by kernel_rfl) (by kernel_rfl) (by kernel_rfl) (fun _ _ _ h => h) (by rfl) (by intro W hSw; go_simp; with_reducible rfl) ?_; try simp only [Act.put, List.setIfInBounds_toArray, List.set_cons_zero, List.set_cons_succ]
                        refine wpAnyK_done (by kernel_rfl) ?_ _
                        go_wp2_with fail
                        go_ret
                        exact ⟨rfl, HBz.out.trans (below_drewN (Later.refl _) 1)⟩
                    · rcases o3 with rfl | rfl
                      · obtain rfl : j = 2 := o1.resolve_left fun h => absurd (hlaw.1 h) (by decide)
                        clear hlaw o1
                        go_wp2_with fail
                        refine wp_region_k (by kernel_rfl) ?_
                        refine wpAnyK_take 0 (v := ?_) rfl (by kernel_rfl) (by kernel_rfl) (by kernel_rfl) (fun _ _ _ h => h) (by rfl) (by intro W hSw; go_simp; with_reducible rfl) ?_; try simp only [Act.put, List.setIfInBounds_toArray, List.set_cons_zero, List.set_cons_succ]
                        refine wpAnyK_take 1 (v := ?_) rfl (by kernel_rfl) (by kernel_rfl) (by kernel_rfl) (fun _ _ _ h => h) (by rfl) (by intro W hSw; go_simp; with_reducible rfl) ?_; try simp only [Act.put, List.setIfInBounds_toArray, List.set_cons_zero, List.set_cons_succ]
                        refine wpAnyK_take 2 (v := ?_) rfl (by kernel_rfl) (by kernel_rfl) (by kernel_rfl) (fun _ _ _ h => h) (by rfl) (by intro W hSw; go_simp; with_reducible rfl) ?_; try simp only [Act.put, List.setIfInBounds_toArray, List.set_cons_zero, List.set_cons_succ]
                        refine wpAnyK_take 3 (v := ?_) rfl (by kernel_rfl) (by kernel_rfl) (by kernel_rfl) (fun _ _ _ h => h) (by rfl) (by intro W hSw; go_simp; with_reducible rfl) ?_; try simp only [Act.put, List.setIfInBounds_toArray, List.set_cons_zero, List.set_cons_succ]
                        refine wpAnyK_take 4 (v := ?_) rfl (by kernel_rfl) (by kernel_rfl) (by kernel_rfl) (fun _ _ _ h => h) (by rfl) (by intro W hSw; go_simp; with_reducible rfl) ?_; try simp only [Act.put, List.setIfInBounds_toArray, List.set_cons_zero, List.set_cons_succ]
                        refine wpAnyK_take 5 (v := ?_) rfl (by kernel_rfl) (by kernel_rfl) (by kernel_rfl) (fun _ _ _ h => h) (by rfl) (by intro W hSw; go_simp; with_reducible rfl) ?_; try simp only [Act.put, List.setIfInBounds_toArray, List.set_cons_zero, List.set_cons_succ]
                        refine wpAnyK_take 6 (v := ?_) rfl (by kernel_rfl) (by kernel_rfl) (by kernel_rfl) (fun _ _ _ h => h) (by rfl) (by intro W hSw; go_simp; with_reducible rfl) ?_; try simp only [Act.put, List.setIfInBounds_toArray, List.set_cons_zero, List.set_cons_succ]
                        refine wpAnyK_take 7 (v := ?_) rfl (by kernel_rfl) (by kernel_rfl) (by kernel_rfl) (fun _ _ _ h => h) (by rfl) (by intro W hSw; go_simp; with_reducible rfl) ?_; try simp only [Act.put, List.setIfInBounds_toArray, List.set_cons_zero, List.set_cons_succ]
                        refine wpAnyK_take 8 (v := ?_) rfl (by kernel_rfl) (by kernel_rfl) (by kernel_rfl) (fun _ _ _ h => h) (by rfl) (by intro W hSw; go_simp; with_reducible rfl) ?_; try simp only [Act.put, List.setIfInBounds_toArray, List.set_cons_zero, List.set_cons_succ]
                        refine wpAnyK_take 9 (v := ?_) rfl (by kernel_rfl) (by kernel_rfl) (by kernel_rfl) (fun _ _ _ h => h) (by rfl) (by intro W hSw; go_simp; with_reducible rfl) ?_; try simp only [Act.put, List.setIfInBounds_toArray, List.set_cons_zero, List.set_cons_succ]
                        refine wpAnyK_take 10 (v := ?_) rfl (by kernel_rfl) (by kernel_rfl) (by kernel_rfl) (fun _ _ _ h => h) (by rfl) (by intro W hSw; go_simp; with_reducible rfl) ?_; try simp only [Act.put, List.setIfInBounds_toArray, List.set_cons_zero, List.set_cons_succ]
                        refine wpAnyK_take 11 (v := ?_) rfl (by kernel_rfl) (by kernel_rfl) (by kernel_rfl) (fun _ _ _ h => h) (by rfl) (by intro W hSw; go_simp; with_reducible rfl) ?_; try simp only [Act.put, List.setIfInBounds_toArray, List.set_cons_zero, List.set_cons_succ]
                        refine wpAnyK_take 12 (v := ?_) rfl (by kernel_rfl) (by kernel_rfl) (by kernel_rfl) (fun _ _ _ h => h) (by rfl) (by intro W hSw; go_simp; with_reducible rfl) ?_; try simp only [Act.put, List.setIfInBounds_toArray, List.set_cons_zero, List.set_cons_succ]
                        refine wpAnyK_take 13 (v := ?_) rfl (by kernel_rfl) (by kernel_rfl) (by kernel_rfl) (fun _ _ _ h => h) (by rfl) (by intro W hSw; go_simp; with_reducible rfl) ?_; try simp only [Act.put, List.setIfInBounds_toArray, List.set_cons_zero, List.set_cons_succ]
                        refine wpAnyK_take 14 (v := ?_) rfl (by kernel_rfl) (by kernel_rfl) (by kernel_rfl) (fun _ _ _ h => h) (by rfl) (by intro W hSw; go_simp; with_reducible rfl) ?_; try simp only [Act.put, List.setIfInBounds_toArray, List.set_cons_zero, List.set_cons_succ]
                        refine wpAnyK_take 15 (v := ?_) rfl (by kernel_rfl) (by kernel_rfl) (by kernel_rfl) (fun _ _ _ h => h) (by rfl) (by intro W hSw; go_simp; with_reducible rfl) ?_; try simp only [Act.put, List.setIfInBounds_toArray, List.set_cons_zero, List.set_cons_succ]
                        refine wpAnyK_take 16 (v := ?_) rfl (by kernel_rfl) (by kernel_rfl) (by kernel_rfl) (fun _ _ _ h => h) (by rfl) (by intro W hSw; go_simp; with_reducible rfl) ?_; try simp only [Act.put, List.setIfInBounds_toArray, List.set_cons_zero, List.set_cons_succ]
                        refine wpAnyK_take 17 (v := ?_) rfl (by kernel_rfl) (by kernel_rfl) (by kernel_rfl) (fun _ _ _ h => h) (by rfl) (by intro W hSw; go_simp; with_reducible rfl) ?_; try simp only [Act.put, List.setIfInBounds_toArray, List.set_cons_zero, List.set_cons_succ]
                        refine wpAnyK_take 18 (v := ?_) rfl (by kernel_rfl) (by kernel_rfl) (by kernel_rfl) (fun _ _ _ h => h) (by rfl) (by intro W hSw; go_simp; with_reducible rfl) ?_; try simp only [Act.put, List.setIfInBounds_toArray, List.set_cons_zero, List.set_cons_succ]
                        refine wpAnyK_take 19 (v := ?_) rfl (by kernel_rfl) (by kernel_rfl) (by kernel_rfl) (fun _ _ _ h => h) (by rfl) (by intro W hSw; go_simp; with_reducible rfl) ?_; try simp only [Act.put, List.setIfInBounds_toArray, List.set_cons_zero, List.set_cons_succ]
                        refine wpAnyK_take 20 (v := ?_) rfl (by kernel_rfl) (by kernel_rfl) (by kernel_rfl) (fun _ _ _ h => h) (by rfl) (by intro W hSw; go_simp; with_reducible rfl) ?_; try simp only [Act.put, List.setIfInBounds_toArray, List.set_cons_zero, List.set_cons_succ]
                        refine wpAnyK_take 21 (v := ?_) rfl (by kernel_rfl) (by kernel_rfl) (by kernel_rfl) (fun _ _ _ h => h) (by rfl) (by intro W hSw; go_simp; with_reducible rfl) ?_; try simp only [Act.put, List.setIfInBounds_toArray, List.set_cons_zero, List.set_cons_succ]
                        refine wpAnyK_take 22 (v := ?_) rfl (by kernel_rfl) (by kernel_rfl) (by kernel_rfl) (fun _ _ _ h => h) (by rfl) (by intro W hSw; go_simp; with_reducible rfl) ?_; try simp only [Act.put, List.setIfInBounds_toArray, List.set_cons_zero, List.set_cons_succ]
                        refine wpAnyK_take 23 (v := ?_) rfl (by kernel_rfl) (by kernel_rfl) (by kernel_rfl) (fun _ _ _ h => h) (by rfl) (by intro W hSw; go_simp; with_reducible rfl) ?_; try simp only [Act.put, List.setIfInBounds_toArray, List.set_cons_zero, List.set_cons_succ]
                        refine wpAnyK_take 24 (v := ?_) rfl (by kernel_rfl) (by kernel_rfl) (by kernel_rfl) (fun _ _ _ h => h) (by rfl) (by intro W hSw; go_simp; with_reducible rfl) ?_; try simp only [Act.put, List.setIfInBounds_toArray, List.set_cons_zero, List.set_cons_succ]
                        refine wpAnyK_take 25 (v := ?_) rfl (by kernel_rfl) (by kernel_rfl) (by kernel_rfl) (fun _ _ _ h => h) (by rfl) (by intro W hSw; go_simp; with_reducible rfl) ?_; try simp only [Act.put, List.setIfInBounds_toArray, List.set_cons_zero, List.set_cons_succ]
                        refine wpAnyK_take 26 (v := ?_) rfl (by kernel_rfl) (by kernel_rfl) (by kernel_rfl) (fun _ _ _ h => h) (by rfl) (by intro W hSw; go_simp; with_reducible rfl) ?_; try simp only [Act.put, List.setIfInBounds_toArray, List.set_cons_zero, List.set_cons_succ]
                        refine wpAnyK_take 27 (v := ?_) rfl (by kernel_rfl) (by kernel_rfl) (by kernel_rfl) (fun _ _ _ h => h) (by rfl) (by intro W hSw; go_simp; with_reducible rfl) ?_; try simp only [Act.put, List.setIfInBounds_toArray, List.set_cons_zero, List.set_cons_succ]
                        refine wpAnyK_take 28 (v := ?_) rfl (by kernel_rfl) (by kernel_rfl) (by kernel_rfl) (fun _ _ _ h => h) (by rfl) (by intro W hSw; go_simp; with_reducible rfl) ?_; try simp only [Act.put, List.setIfInBounds_toArray, List.set_cons_zero, List.set_cons_succ]
                        refine wpAnyK_take 29 (v := ?_) rfl (by kernel_rfl) (by kernel_rfl) (by kernel_rfl) (fun _ _ _ h => h) (by rfl) (by intro W hSw; go_simp; with_reducible rfl) ?_; try simp only [Act.put, List.setIfInBounds_toArray, List.set_cons_zero, List.set_cons_succ]
                        refine wpAnyK_take 30 (v := ?_) rfl (by kernel_rfl) (by kernel_rfl) (by kernel_rfl) (fun _ _ _ h => h) (by rfl) (by intro W hSw; go_simp; with_reducible rfl) ?_; try simp only [Act.put, List.setIfInBounds_toArray, List.set_cons_zero, List.set_cons_succ]
                        refine wpAnyK_take 31 (v := ?_) rfl (by kernel_rfl) (by kernel_rfl) (by kernel_rfl) (fun _ _ _ h => h) (by rfl) (by intro W hSw; go_simp; with_reducible rfl) ?_; try simp only [Act.put, List.setIfInBounds_toArray, List.set_cons_zero, List.set_cons_succ]
                        refine wpAnyK_take 32 (v := ?_) rfl (by kernel_rfl) (by kernel_rfl) (by kernel_rfl) (fun _ _ _ h => h) (by rfl) (by intro W hSw; go_simp; with_reducible rfl) ?_; try simp only [Act.put, List.setIfInBounds_toArray, List.set_cons_zero, List.set_cons_succ]
                        refine wpAnyK_take 33 (v := ?_) rfl (by kernel_rfl) (by kernel_rfl) (by kernel_rfl) (fun _ _ _ h => h) (by rfl) (by intro W hSw; go_simp; with_reducible rfl) ?_; try simp only [Act.put, List.setIfInBounds_toArray, List.set_cons_zero, List.set_cons_succ]
                        refine wpAnyK_take 34 (v := ?_) rfl (by kernel_rfl) (by kernel_rfl) (by kernel_rfl) (fun _ _ _ h => h) (by rfl) (by intro W hSw; go_simp; with_reducible rfl) ?_; try simp only [Act.put, List.setIfInBounds_toArray, List.set_cons_zero, List.set_cons_succ]
                        refine wpAnyK_skip 35 rfl (by kernel_rfl) (by kernel_rfl) (by kernel_rfl) (fun _ _ _ h => h) (by rfl) ?_; try simp only [Act.put, List.setIfInBounds_toArray, List.set_cons_zero, List.set_cons_succ]
                        refine wpAnyK_skip 36 rfl (by kernel_rfl) (by kernel_rfl) (by kernel_rfl) (fun _ _ _ h => h) (by rfl) ?_; try simp only [Act.put, List.setIfInBounds_toArray, List.set_cons_zero, List.set_cons_succ]
                        refine wpAnyK_skip 37 rfl (by kernel_rfl) (by kernel_rfl) (by kernel_rfl) (fun _ _ _ h => h) (by rfl) ?_; try simp only [Act.put, List.setIfInBounds_toArray, List.set_cons_zero, List.set_cons_succ]
                        refine wpAnyK_skip 38 rfl (by kernel_rfl) (by kernel_rfl) (by kernel_rfl) (fun _ _ _ h => h) (by rfl) ?_; try simp only [Act.put, List.setIfInBounds_toArray, List.set_cons_zero, List.set_cons_succ]
                        refine wpAnyK_take 39 (v := ?_) rfl (by kernel_rfl) (by kernel_rfl) (by kernel_rfl) (fun _ _ _ h => h) (by rfl) (by intro W hSw; go_simp; with_reducible rfl) ?_; try simp only [Act.put, List.setIfInBounds_toArray, List.set_cons_zero, List.set_cons_succ]
                        refine wpAnyK_take 40 (v := ?_) rfl (by kernel_rfl) (by kernel_rfl) (by kernel_rfl) (fun _ _ _ h => h) (by rfl) (by intro W hSw; go_simp; with_reducible rfl) ?_; try simp only [Act.put, List.setIfInBounds_toArray, List.set_cons_zero, List.set_cons_succ]
                        refine wpAnyK_take 41 (v := ?_) rfl (by kernel_rfl) (by kernel_rfl) (by kernel_rfl) (fun _ _ _ h => h) (by rfl) (by intro W hSw; go_simp; with_reducible rfl) ?_; try simp only [Act.put, List.setIfInBounds_toArray, List.set_cons_zero, List.set_cons_succ]
                        refine wpAnyK_take 42 (v := ?_) rfl (by kernel_rfl) (by kernel_rfl) (by kernel_rfl) (fun _ _ _ h => h) (by rfl) (by intro W hSw; go_simp; with_reducible rfl) ?_; try simp only [Act.put, List.setIfInBounds_toArray, List.set_cons_zero, List.set_cons_succ]
                        refine wpAnyK_done (by kernel_rfl) ?_ _
                        go_wp2_with fail
                        go_ret
                        exact ⟨rfl, HBz.out.trans (below_drewN (Later.refl _) 1)⟩
                      · obtain rfl : j = 2 := o1.resolve_left fun h => absurd (hlaw.1 h) (by decide)
                        clear hlaw o1
                        go_wp2_with fail
                        refine wp_region_k (by kernel_rfl) ?_
                        refine wpAnyK_take 0 (v := ?_) rfl (by kernel_rfl) (by kernel_rfl) (by kernel_rfl) (fun _ _ _ h => h) (by rfl) (by intro W hSw; go_simp; with_reducible rfl) ?_; try simp only [Act.put, List.setIfInBounds_toArray, List.set_cons_zero, List.set_cons_succ]
                        refine wpAnyK_take 1 (v := ?_) rfl (by kernel_rfl) (by kernel_rfl) (by kernel_rfl) (fun _ _ _ h => h) (by rfl) (by intro W hSw; go_simp; with_reducible rfl) ?_; try simp only [Act.put, List.setIfInBounds_toArray, List.set_cons_zero, List.set_cons_succ]
                        refine wpAnyK_take 2 (v := ?_) rfl (by kernel_rfl) (by kernel_rfl) (by kernel_rfl) (fun _ _ _ h => h) (by rfl) (by intro W hSw; go_simp; with_reducible rfl) ?_; try simp only [Act.put, List.setIfInBounds_toArray, List.set_cons_zero, List.set_cons_succ]
                        refine wpAnyK_take 3 (v := ?_) rfl (by kernel_rfl) (by kernel_rfl) (by kernel_rfl) (fun _ _ _ h => h) (by rfl) (by intro W hSw; go_simp; with_reducible rfl) ?_; try simp only [Act.put, List.setIfInBounds_toArray, List.set_cons_zero, List.set_cons_succ]
                        refine wpAnyK_take 4 (v := ?_) rfl (by kernel_rfl) (by kernel_rfl) (by kernel_rfl) (fun _ _ _ h => h) (by rfl) (by intro W hSw; go_simp; with_reducible rfl) ?_; try simp only [Act.put, List.setIfInBounds_toArray, List.set_cons_zero, List.set_cons_succ]
                        refine wpAnyK_take 5 (v := ?_) rfl (by kernel_rfl) (by kernel_rfl) (by kernel_rfl) (fun _ _ _ h => h) (by rfl) (by intro W hSw; go_simp; with_reducible rfl) ?_; try simp only [Act.put, List.setIfInBounds_toArray, List.set_cons_zero, List.set_cons_succ]
                        refine wpAnyK_take 6 (v := ?_) rfl (by kernel_rfl) (by kernel_rfl) (by kernel_rfl) (fun _ _ _ h => h) (by rfl) (by intro W hSw; go_simp; with_reducible rfl) ?_; try simp only [Act.put, List.setIfInBounds_toArray, List.set_cons_zero, List.set_cons_succ]
                        refine wpAnyK_take 7 (v := ?_) rfl (by kernel_rfl) (by kernel_rfl) (by kernel_rfl) (fun _ _ _ h => h) (by rfl) (by intro W hSw; go_simp; with_reducible rfl) ?_; try simp only [Act.put, List.setIfInBounds_toArray, List.set_cons_zero, List.set_cons_succ]
                        refine wpAnyK_take 8 (v := ?_) rfl (by kernel_rfl) (by kernel_rfl) (by kernel_rfl) (fun _ _ _ h => h) (by rfl) (by intro W hSw; go_simp; with_reducible rfl) ?_; try simp only [Act.put, List.setIfInBounds_toArray, List.set_cons_zero, List.set_cons_succ]
                        refine wpAnyK_take 9 (v := ?_) rfl (by kernel_rfl) (by kernel_rfl) (by kernel_rfl) (fun _ _ _ h => h) (by rfl) (by intro W hSw; go_simp; with_reducible rfl) ?_; try simp only [Act.put, List.setIfInBounds_toArray, List.set_cons_zero, List.set_cons_succ]
                        refine wpAnyK_take 10 (v := ?_) rfl (by kernel_rfl) (by kernel_rfl) (by kernel_rfl) (fun _ _ _ h => h) (by rfl) (by intro W hSw; go_simp; with_reducible rfl) ?_; try simp only [Act.put, List.setIfInBounds_toArray, List.set_cons_zero, List.set_cons_succ]
                        refine wpAnyK_take 11 (v := ?_) rfl (by kernel_rfl) (by kernel_rfl) (by kernel_rfl) (fun _ _ _ h => h) (by rfl) (by intro W hSw; go_simp; with_reducible rfl) ?_; try simp only [Act.put, List.setIfInBounds_toArray, List.set_cons_zero, List.set_cons_succ]
                        refine wpAnyK_take 12 (v := ?_) rfl (by kernel_rfl) (by kernel_rfl) (by kernel_rfl) (fun _ _ _ h => h) (by rfl) (by intro W hSw; go_simp; with_reducible rfl) ?_; try simp only [Act.put, List.setIfInBounds_toArray, List.set_cons_zero, List.set_cons_succ]
                        refine wpAnyK_take 13 (v := ?_) rfl (by kernel_rfl) (by kernel_rfl) (by kernel_rfl) (fun _ _ _ h => h) (by rfl) (by intro W hSw; go_simp; with_reducible rfl) ?_; try simp only [Act.put, List.setIfInBounds_toArray, List.set_cons_zero, List.set_cons_succ]
                        refine wpAnyK_take 14 (v := ?_) rfl (by kernel_rfl) (by kernel_rfl) (by kernel_rfl) (fun _ _ _ h => h) (by rfl) (by intro W hSw; go_simp; with_reducible rfl) ?_; try simp only [Act.put, List.setIfInBounds_toArray, List.set_cons_zero, List.set_cons_succ]
                        refine wpAnyK_take 15 (v := ?_) rfl (by kernel_rfl) (by kernel_rfl) (by kernel_rfl) (fun _ _ _ h => h) (by rfl) (by intro W hSw; go_simp; with_reducible rfl) ?_; try simp only [Act.put, List.setIfInBounds_toArray, List.set_cons_zero, List.set_cons_succ]
                        refine wpAnyK_take 16 (v := ?_) rfl (by kernel_rfl) (by kernel_rfl) (by kernel_rfl) (fun _ _ _ h => h) (by rfl) (by intro W hSw; go_simp; with_reducible rfl) ?_; try simp only [Act.put, List.setIfInBounds_toArray, List.set_cons_zero, List.set_cons_succ]
                        refine wpAnyK_take 17 (v := ?_) rfl (by kernel_rfl) (by kernel_rfl) (by kernel_rfl) (fun _ _ _ h => h) (by rfl) (by intro W hSw; go_simp; with_reducible rfl) ?_; try simp only [Act.put, List.setIfInBounds_toArray, List.set_cons_zero, List.set_cons_succ]
                        refine wpAnyK_take 18 (v := ?_) rfl (by kernel_rfl) (by kernel_rfl) (by kernel_rfl) (fun _ _ _ h => h) (by rfl) (by intro W hSw; go_simp; with_reducible rfl) ?_; try simp only [Act.put, List.setIfInBounds_toArray, List.set_cons_zero, List.set_cons_succ]
                        refine wpAnyK_take 19 (v := ?_) rfl (by kernel_rfl) (by kernel_rfl) (by kernel_rfl) (fun _ _ _ h => h) (by rfl) (by intro W hSw; go_simp; with_reducible rfl) ?_; try simp only [Act.put, List.setIfInBounds_toArray, List.set_cons_zero, List.set_cons_succ]
                        refine wpAnyK_take 20 (v := ?_) rfl (by kernel_rfl) (by kernel_rfl) (by kernel_rfl) (fun _ _ _ h => h) (by rfl) (by intro W hSw; go_simp; with_reducible rfl) ?_; try simp only [Act.put, List.setIfInBounds_toArray, List.set_cons_zero, List.set_cons_succ]
                        refine wpAnyK_take 21 (v := ?_) rfl (by kernel_rfl) (by kernel_rfl) (by kernel_rfl) (fun _ _ _ h => h) (by rfl) (by intro W hSw; go_simp; with_reducible rfl) ?_; try simp only [Act.put, List.setIfInBounds_toArray, List.set_cons_zero, List.set_cons_succ]
                        refine wpAnyK_take 22 (v := ?_) rfl (by kernel_rfl) (by kernel_rfl) (by kernel_rfl) (fun _ _ _ h => h) (by rfl) (by intro W hSw; go_simp; with_reducible rfl) ?_; try simp only [Act.put, List.setIfInBounds_toArray, List.set_cons_zero, List.set_cons_succ]
                        refine wpAnyK_take 23 (v := ?_) rfl (by kernel_rfl) (by kernel_rfl) (by kernel_rfl) (fun _ _ _ h => h) (by rfl) (by intro W hSw; go_simp; with_reducible rfl) ?_; try simp only [Act.put, List.setIfInBounds_toArray, List.set_cons_zero, List.set_cons_succ]
                        refine wpAnyK_take 24 (v := ?_) rfl (by kernel_rfl) (by kernel_rfl) (by kernel_rfl) (fun _ _ _ h => h) (by rfl) (by intro W hSw; go_simp; with_reducible rfl) ?_; try simp only [Act.put, List.setIfInBounds_toArray, List.set_cons_zero, List.set_cons_succ]
                        refine wpAnyK_take 25 (v := ?_) rfl (by kernel_rfl) (by kernel_rfl) (by kernel_rfl) (fun _ _ _ h => h) (by rfl) (by intro W hSw; go_simp; with_reducible rfl) ?_; try simp only [Act.put, List.setIfInBounds_toArray, List.set_cons_zero, List.set_cons_succ]
                        refine wpAnyK_take 26 (v := ?_) rfl (by kernel_rfl) (by kernel_rfl) (by kernel_rfl) (fun _ _ _ h => h) (by rfl) (by intro W hSw; go_simp; with_reducible rfl) ?_; try simp only [Act.put, List.setIfInBounds_toArray, List.set_cons_zero, List.set_cons_succ]
                        refine wpAnyK_take 27 (v := ?_) rfl (by kernel_rfl) (by kernel_rfl) (by kernel_rfl) (fun _ _ _ h => h) (by rfl) (by intro W hSw; go_simp; with_reducible rfl) ?_; try simp only [Act.put, List.setIfInBounds_toArray, List.set_cons_zero, List.set_cons_succ]
                        refine wpAnyK_take 28 (v := ?_) rfl (by kernel_rfl) (by kernel_rfl) (by kernel_rfl) (fun _ _ _ h => h) (by rfl) (by intro W hSw; go_simp; with_reducible rfl) ?_; try simp only [Act.put, List.setIfInBounds_toArray, List.set_cons_zero, List.set_cons_succ]
                        refine wpAnyK_take 29 (v := ?_) rfl (by kernel_rfl) (by kernel_rfl) (by kernel_rfl) (fun _ _ _ h => h) (by rfl) (by intro W hSw; go_simp; with_reducible rfl) ?_; try simp only [Act.put, List.setIfInBounds_toArray, List.set_cons_zero, List.set_cons_succ]
                        refine wpAnyK_take 30 (v := ?_) rfl (by kernel_rfl) (by kernel_rfl) (by kernel_rfl) (fun _ _ _ h => h) (by rfl) (by intro W hSw; go_simp; with_reducible rfl) ?_; try simp only [Act.put, List.setIfInBounds_toArray, List.set_cons_zero, List.set_cons_succ]
                        refine wpAnyK_take 31 (v := ?_) rfl (by kernel_rfl) (by kernel_rfl) (by kernel_rfl) (fun _ _ _ h => h) (by rfl) (by intro W hSw; go_simp; with_reducible rfl) ?_; try simp only [Act.put, List.setIfInBounds_toArray, List.set_cons_zero, List.set_cons_succ]
                        refine wpAnyK_take 32 (v := ?_) rfl (by kernel_rfl) (by kernel_rfl) (by kernel_rfl) (fun _ _ _ h => h) (by rfl) (by intro W hSw; go_simp; with_reducible rfl) ?_; try simp only [Act.put, List.setIfInBounds_toArray, List.set_cons_zero, List.set_cons_succ]
                        refine wpAnyK_take 33 (v := ?_) rfl (by kernel_rfl) (by kernel_rfl) (by kernel_rfl) (fun _ _ _ h => h) (by rfl) (by intro W hSw; go_simp; with_reducible rfl) ?_; try simp only [Act.put, List.setIfInBounds_toArray, List.set_cons_zero, List.set_cons_succ]
                        refine wpAnyK_take 34 (v := ?_) rfl (by kernel_rfl) (by kernel_rfl) (by kernel_rfl) (fun _ _ _ h => h) (by rfl) (by intro W hSw; go_simp; with_reducible rfl) ?_; try simp only [Act.put, List.setIfInBounds_toArray, List.set_cons_zero, List.set_cons_succ]
                        refine wpAnyK_skip 35 rfl (by kernel_rfl) (by kernel_rfl) (by kernel_rfl) (fun _ _ _ h => h) (by rfl) ?_; try simp only [Act.put, List.setIfInBounds_toArray, List.set_cons_zero, List.set_cons_succ]
                        refine wpAnyK_skip 36 rfl (by kernel_rfl) (by kernel_rfl) (by kernel_rfl) (fun _ _ _ h => h) (by rfl) ?_; try simp only [Act.put, List.setIfInBounds_toArray, List.set_cons_zero, List.set_cons_succ]
                        refine wpAnyK_skip 37 rfl (by kernel_rfl) (by kernel_rfl) (by kernel_rfl) (fun _ _ _ h => h) (by rfl) ?_; try simp only [Act.put, List.setIfInBounds_toArray, List.set_cons_zero, List.set_cons_succ]
                        refine wpAnyK_skip 38 rfl (by kernel_rfl) (by kernel_rfl) (by kernel_rfl) (fun _ _ _ h => h) (by rfl) ?_; try simp only [Act.put, List.setIfInBounds_toArray, List.set_cons_zero, List.set_cons_succ]
                        refine wpAnyK_take 39 (v := ?_) rfl (by kernel_rfl) (by kernel_rfl) (by kernel_rfl) (fun _ _ _ h => h) (by rfl) (by intro W hSw; go_simp; with_reducible rfl) ?_; try simp only [Act.put, List.setIfInBounds_toArray, List.set_cons_zero, List.set_cons_succ]
                        refine wpAnyK_take 40 (v := ?_) rfl (by kernel_rfl) (by kernel_rfl) (by kernel_rfl) (fun _ _ _ h => h) (by rfl) (by intro W hSw; go_simp; with_reducible rfl) ?_; try simp only [Act.put, List.setIfInBounds_toArray, List.set_cons_zero, List.set_cons_succ]
                        refine wpAnyK_take 41 (v := ?_) rfl (by kernel_rfl) (by kernel_rfl) (by kernel_rfl) (fun _ _ _ h => h) (by rfl) (by intro W hSw; go_simp; with_reducible rfl) ?_; try simp only [Act.put, List.setIfInBounds_toArray, List.set_cons_zero, List.set_cons_succ]
                        refine wpAnyK_take 42 (v := ?_) rfl (by kernel_rfl) (by kernel_rfl) (by kernel_rfl) (fun _ _ _ h => h) (by rfl) (by intro W hSw; go_simp; with_reducible rfl) ?_; try simp only [Act.put, List.setIfInBounds_toArray, List.set_cons_zero, List.set_cons_succ]
                        refine wpAnyK_done (by kernel_rfl) ?_ _
                        go_wp2_with fail
                        go_ret
                        exact ⟨rfl, HBz.out.trans (below_drewN (Later.refl _) 1)⟩
    · have q1 : (16 : Int) < (at_.size : Int) := by omega
      have q2 : decide ((16 : Int) < (at_.size : Int)) = true := decide_eq_true q1
      have q3 : decide (16 < at_.size) = true := decide_eq_true (by omega)
      go_wp2_with fail
      refine (awake_yes _).mono ?_; rintro e w5 ⟨rfl, hb5⟩
      have HB5 := hide_ (HB4.out.trans hb5)
      clear hb5
      go_wp2_with fail
      go_ret
      exact ⟨rfl, HB5.out⟩
  · have hs' : soundT (r, R, C) = false := by simpa using hs
    rw [hs']
    clear hs hs'
    go_wp2_with fail
    refine (awake_yes _).mono ?_; rintro e w5 ⟨rfl, hb5⟩
    have HB5 := hide_ (HB4.out.trans hb5)
    clear hb5
    go_wp2_with fail
    go_ret
    exact ⟨rfl, HB5.out⟩
set_option maxRecDepth 20000 in
theorem marksSplit_contract (H : Type) (enc : TypeId × Value → H) (W : World) (base : Nat) (args : Array Value) (ds : List (DataW H)) (before : List MemPlace)
    (hval : ∀ (j : Nat) t v, Try.f4.params[j]? = some t → args[j]? = some v → Value.okWide Try.prog W .any base t v)
    (hA : DataW.TrodAll enc Try.prog W 0 (fun _ => true) true Try.f4.params.toList args.toList ds before)
    (_hsz : (DataW.weightsEach Try.prog (Try.f4.params.toList ++ Rows.marksSplitSpec.plain.varTypes Try.prog) (ds ++ [])).all (· ≤ reachBytes) = true)
    (hk : Rows.uptoSmall H (ds ++ []) = true) :
    Calls Try.prog 4 args W fun e W' => e = .returned (.bool true) ∧ Below W.heap.size W W' := by
  rw [Try.params4] at hA hval
  obtain ⟨v0, vs0, d0, ds0, p0, q0, hargs, rfl, rfl, h0, r0⟩ := trodAll_cons hA
  obtain ⟨v1, vs1, d1, ds1, p1, q1, rfl, rfl, rfl, h1, r1⟩ := trodAll_cons r0
  obtain ⟨v2, vs2, d2, ds2, p2, q2, rfl, rfl, rfl, h2, r2⟩ := trodAll_cons r1
  obtain ⟨rfl, rfl, rfl⟩ := trodAll_nil r2
  obtain rfl : args = #[v0, v1, v2] := by cases args; simp_all
  have hbb := bulk_bound hk
  have hb0 := bulk_mem (d := d0) (l := [d0, d1, d2]) (by simp)
  have hb1 := bulk_mem (d := d1) (l := [d0, d1, d2]) (by simp)
  have hb2 := bulk_mem (d := d2) (l := [d0, d1, d2]) (by simp)
  obtain ⟨A, c, T, rfl, hc, hcm, _, hT⟩ := mopen_txns (hval 0 40 v0 rfl rfl) h0 (by omega)
  obtain ⟨t, A1, A2, c1, c2, rfl, h3, h4, hR, hC⟩ := mopen_txn (hval 1 32 v1 rfl rfl) h1 (by omega)
  obtain ⟨s, rfl, rfl, rfl, hs⟩ := open_string Try.underlying9 (hval 2 9 v2 rfl rfl) h2
  exact marksSplit_walk A _ c T hT hcm t.1 t.2.1 t.2.2 A1 A2 _ c1 _ c2 rfl rfl h3 h4 hR hC s (by unfold maxLen at hs; omega)

set_option maxRecDepth 100000 in
theorem marksSplit_lifted (os : Os) (started : os.Started) (H : Type) (enc : TypeId × Value → H) (F : Stop.Interp) :
    ReturnsInHanded {} Try.checked os 4 .any ((Rows.OpenSpec.upto Rows.marksSplitSpec).pre6 enc Try.prog Try.f4 Rows.marksSplitUptoRow.domain false) (((Rows.OpenSpec.upto Rows.marksSplitSpec).at F).post enc Try.prog Try.f4 false true false false) := by
  refine returnsInHanded_of_cond_sized (C := Try.checked) (s := Rows.OpenSpec.upto Rows.marksSplitSpec) (k := Rows.uptoSmall) rfl own started (by kernel_rfl) Try.func4
    (OpenSpec.witness (enc := enc) (C := Try.checked) (s := Rows.OpenSpec.upto Rows.marksSplitSpec) (k := Rows.uptoSmall) rfl false ⟨#[], #[.slice none 0 0, .agg #[.int .i64 0, .slice none 0 0, .slice none 0 0], .string ByteArray.empty], []⟩ 8 (by kernel_rfl) (by kernel_rfl) (by kernel_rfl)
      (x := ([.nil, .agg [.lit (.int .i64 0), .nil, .nil], .lit (.string [])], [], [])) (by kernel_rfl) rfl (by kernel_rfl)) ?_
  intro W base args ds gs before hval hW _ hk hsz _
  have hW' := hW
  obtain ⟨p, q, hA0, hV, rfl, hfz, hnd⟩ := hW
  obtain ⟨rfl, rfl⟩ := trodVars_none hV
  have hA : DataW.TrodAll enc Try.prog W 0 (fun _ => true) true Try.f4.params.toList args.toList ds p := hA0
  refine (marksSplit_contract H enc W base args ds p hval hA hsz hk).mono fun e W' ⟨he, hb⟩ => ?_
  subst he
  have hds : ds.length = 3 := by
    rw [Try.params4] at hA
    obtain ⟨v0, vs0, d0, ds0, p0, q0, _, rfl, rfl, _, r0⟩ := trodAll_cons hA
    obtain ⟨v1, vs1, d1, ds1, p1, q1, _, rfl, rfl, _, r1⟩ := trodAll_cons r0
    obtain ⟨v2, vs2, d2, ds2, p2, q2, _, rfl, rfl, _, r2⟩ := trodAll_cons r1
    obtain ⟨_, rfl, rfl⟩ := trodAll_nil r2
    rfl
  have hsh : ∃ d0 d1 d2 : DataW H, ds = [d0, d1, d2] := by
    match ds, hds with
    | [d0, d1, d2], _ => exact ⟨d0, d1, d2, rfl⟩
  obtain ⟨d0, d1, d2, rfl⟩ := hsh
  exact ⟨_, rfl, post_law (s := Rows.marksSplitSpec) laidOut (by kernel_rfl) Try.underlying4 rfl (by kernel_rfl) hW' rfl rfl rfl hb⟩
theorem marksSplit_over : Rows.marksSplitUptoRow.holds Try.pinned (Rows.OpenSpec.upto Rows.marksSplitSpec) :=
  OpenClaim.holds_of_cond 4 Try.f4 rfl rfl rfl rfl rfl rfl rfl ⟨rfl, rfl, rfl, rfl, rfl⟩ rfl rfl rfl rfl rfl (by kernel_rfl) Try.func4 (by kernel_rfl)
    (of_decide_eq_true (by kernel_rfl)) (by unfold Func.isWrapper; first | (rw [if_pos (by decide +kernel)]; kernel_rfl) | (rw [if_neg (by decide +kernel)]; exact ⟨rfl, rfl⟩))
    (fun os started H enc _ F => marksSplit_lifted os started H enc F)
/-- The statement. -/
theorem marksSplit_holds : Rows.MarksSplitUptoSaid := marksSplit_over
end Go.Proofs.Ytidlkomgondkiaa
