/-
  Changes in two parts, in either order; what Apply answers, in one form.
-/
import Derived.Test.YtblljpdlmllceaaKChOpen
namespace Go.Proofs.Ytblljpdlmllceaa
open Go.RowKit
set_option linter.unusedVariables false
set_option linter.unusedSimpArgs false
theorem chkAll_cons (c : Chg) (L : List Chg) : chkAll (c :: L) = if chk c.1 c.2.1 c.2.2 = 0 then chkAll L else chk c.1 c.2.1 c.2.2 := rfl
theorem chkAll_append (A B : List Chg) : chkAll (A ++ B) = 0 ↔ chkAll A = 0 ∧ chkAll B = 0 := by
  induction A with
  | nil => simp [chkAll]
  | cons c A ih =>
    rw [List.cons_append, chkAll_cons, chkAll_cons]
    by_cases h : chk c.1 c.2.1 c.2.2 = 0
    · rw [if_pos h, if_pos h, ih]
    · rw [if_neg h, if_neg h]; exact ⟨fun h2 => absurd h2 h, fun h2 => absurd h2.1 h⟩
theorem app_append {A B : List Chg} : ∀ {L M N : List Pr}, AppOf L A M → AppOf M B N → AppOf L (A ++ B) N := by
  induction A with
  | nil => intro L M N h h2; obtain rfl := h; exact h2
  | cons d A ih => intro L M N h h2; obtain ⟨K, h3, h4⟩ := h; exact ⟨K, h3, ih h4 h2⟩
theorem chk_put {kind : Int} {k v : ByteArray} (h : chk kind k v = 0) (h1 : kind = 1) : k.size ≤ 16 ∧ v.size ≤ 64 := by
  subst h1
  unfold chk at h
  rw [if_neg (by decide), if_neg (by decide), if_pos rfl] at h
  by_cases h2 : 16 < k.size
  · rw [if_pos h2] at h; cases h
  · rw [if_neg h2] at h
    by_cases h3 : 64 < v.size
    · rw [if_pos h3] at h; cases h
    · omega
theorem snd_one {L N : List Pr} {c : Chg} (h : Snd L) (hc : chk c.1 c.2.1 c.2.2 = 0) (ho : OneOf L c.1 c.2.1 c.2.2 N) : Snd N := by
  refine ⟨ho.1, fun p hp => ?_⟩
  rcases (ho.2 p).1 hp with ⟨h1, _⟩ | ⟨h1, rfl⟩
  · exact h.2 p h1
  · exact chk_put hc h1
theorem snd_app {C : List Chg} : ∀ {L M : List Pr}, Snd L → chkAll C = 0 → AppOf L C M → Snd M := by
  induction C with
  | nil => intro L M h _ h2; obtain rfl := h2; exact h
  | cons c C ih =>
    intro L M h hc h2
    obtain ⟨N, h3, h4⟩ := h2
    have h5 := chkAll_mem hc c (List.mem_cons_self ..)
    unfold chkAll at hc
    rw [if_pos h5] at hc
    exact ih (snd_one h h5 h3) hc h4
/-- Two changes that name no key both, in either order. -/
theorem one_comm {L M N M' N' : List Pr} {x y : Chg} (hd : ∀ k, ¬ (Named x.1 x.2.1 x.2.2 k ∧ Named y.1 y.2.1 y.2.2 k)) (h1 : OneOf L x.1 x.2.1 x.2.2 M) (h2 : OneOf M y.1 y.2.1 y.2.2 N) (h3 : OneOf L y.1 y.2.1 y.2.2 M') (h4 : OneOf M' x.1 x.2.1 x.2.2 N') : N = N' := by
  refine ris_uniq h2.1 h4.1 fun p => ?_
  rw [h2.2 p, h1.2 p, h4.2 p, h3.2 p]
  have hx : x.1 = 1 → Named x.1 x.2.1 x.2.2 x.2.1 := fun h => by unfold Named; rw [if_neg (by omega)]
  have hy : y.1 = 1 → Named y.1 y.2.1 y.2.2 y.2.1 := fun h => by unfold Named; rw [if_neg (by omega)]
  constructor
  · rintro (⟨⟨a, b⟩ | ⟨a, rfl⟩, c⟩ | ⟨a, rfl⟩)
    · exact .inl ⟨.inl ⟨a, c⟩, b⟩
    · exact .inr ⟨a, rfl⟩
    · exact .inl ⟨.inr ⟨a, rfl⟩, fun h => hd _ ⟨h, hy a⟩⟩
  · rintro (⟨⟨a, b⟩ | ⟨a, rfl⟩, c⟩ | ⟨a, rfl⟩)
    · exact .inl ⟨.inl ⟨a, c⟩, b⟩
    · exact .inr ⟨a, rfl⟩
    · exact .inl ⟨.inr ⟨a, rfl⟩, fun h => hd _ ⟨hx a, h⟩⟩
theorem app_two {L N : List Pr} {x y : Chg} (h : AppOf L [x, y] N) : ∃ M, OneOf L x.1 x.2.1 x.2.2 M ∧ OneOf M y.1 y.2.1 y.2.2 N := by
  obtain ⟨M, h1, K, h2, h3⟩ := h
  obtain rfl := h3
  exact ⟨M, h1, h2⟩
/-- What Apply answers, in one form. -/
def ApplySum (L : List Pr) (n : Nat) (C : List Chg) (p : Nat) (w : World) (e : Ending) (w' : World) : Prop :=
  (∃ (A1 : Option Addr) (c1 m : Nat) (M : List Pr) (err : Int), e = .returned (.tuple #[.slice A1 m c1, .int .i64 err]) ∧ M.length = m ∧ m ≤ n + p ∧ (A1 = none → m = 0) ∧ m ≤ c1 ∧ Rd w' 2 A1 m (prow M) ∧ (err = 0 ↔ chkAll C = 0 ∧ Snd L) ∧ (err = 0 → AppOf L C M) ∧ (chkAll C ≠ 0 → err = chkAll C) ∧ (err ≠ 0 → m = 0)) ∧ Later w w'
theorem own_cap2 {w : World} {base n size c : Nat} {e : TypeId} {A : Option Addr} {xs : List Value} (h : w.ownsRow base e size (.slice A n c) n xs) : (A = none → n = 0) ∧ n ≤ c := by
  rcases h.2 with ⟨h1, h2, _⟩ | ⟨g, cap, cur, h1, _, _, h2, _⟩
  · injection h1 with h1 h3 h4; subst h1
    exact ⟨fun _ => by omega, by omega⟩
  · injection h1 with h1 h3 h4; subst h1 h4
    exact ⟨fun h => (by cases h), h2⟩
theorem apply_sum {w : World} {A A' : Option Addr} {n c p c' : Nat} {L : List Pr} {C : List Chg} (hr : Rd w 2 A n (prow L)) (hl : L.length = n) (hA : A = none → n = 0) (hr' : Rd w 3 A' p (crow C)) (hl' : C.length = p) (hn : n + p ≤ 2199023255552) :
    Calls Try.prog 12 #[.slice A n c, .slice A' p c'] w (ApplySum L n C p w) := by
  refine (apply_any (c := c) (c' := c') hr hl hA hr' hl' hn).mono fun e w' h => ?_
  rcases h with ⟨⟨h0, rfl⟩ | ⟨h0, hs, rfl⟩ | ⟨h0, hs, u, M, m, rfl, hm, hmn, hap, ho⟩, hb⟩
  · exact ⟨⟨none, 0, 0, [], chkAll C, rfl, rfl, Nat.zero_le _, fun _ => rfl, Nat.le_refl _, Rd.nil _ _ _, ⟨fun h => absurd h h0, fun h => absurd h.1 h0⟩, fun h => absurd h h0, fun _ => rfl, fun _ => rfl⟩, hb⟩
  · exact ⟨⟨none, 0, 0, [], 2, rfl, rfl, Nat.zero_le _, fun _ => rfl, Nat.le_refl _, Rd.nil _ _ _, ⟨fun h => (by cases h), fun h => absurd h.2 hs⟩, fun h => (by cases h), fun h => absurd h0 h, fun _ => rfl⟩, hb⟩
  · obtain ⟨A1, c1, rfl⟩ := own_form ho
    have hc := own_cap2 ho
    exact ⟨⟨A1, c1, m, M, 0, rfl, hm, hmn, hc.1, hc.2, Rd.of_own ho, ⟨fun _ => ⟨h0, hs⟩, fun _ => rfl⟩, fun _ => hap, fun h => absurd h0 h, fun h => absurd rfl h⟩, hb⟩
theorem later_on {w w1 : World} {p : Addr} {u : Value} (l : ∀ W, Later w W → W.cell? p = some u) (h : Later w w1) : ∀ W, Later w1 W → W.cell? p = some u := fun W hW => l W (h.trans hW)
theorem row_al {w : World} {k : Nat} {o : Obj} (h : w.heap[k]? = some o) (ob : Obj) : (w.alloc ob).heap[k]? = some o := by
  rw [← h]; exact Below.heap_alloc w ob k (heap_lt0 h)
theorem later_alloc (w : World) (ob : Obj) : Later w (w.alloc ob) := (Below.refl _ _).alloc (Nat.le_refl _) _
theorem row_al_later {W W' : World} {Z : Obj} (h : Later (W.alloc Z) W') : W'.heap[W.heap.size]? = some Z := (h.block _ (by simp)).trans (heap_alloc_new W _)
theorem set_two {W0 W : World} {bk : Nat} {a b u v : Value} {t : TypeId} (h : Later W0 W) (hb : W0.heap.size ≤ bk) (hr : W.heap[bk]? = some (.cells #[a, b] t (0, 0))) :
    Later W0 ((W.setCell ⟨bk, 0, none⟩ u).setCell ⟨bk, 1, none⟩ v) ∧ ((W.setCell ⟨bk, 0, none⟩ u).setCell ⟨bk, 1, none⟩ v).cell? ⟨bk, 0, none⟩ = some u ∧ ((W.setCell ⟨bk, 0, none⟩ u).setCell ⟨bk, 1, none⟩ v).cell? ⟨bk, 1, none⟩ = some v := by
  have h1 := heap_setCell_same W bk 0 _ _ u hr
  have h2 := heap_setCell_same _ bk 1 _ _ v h1
  exact ⟨Below.setCell (Below.setCell h hb _) hb _, cell_of_row _ _ 0 _ _ (0, 0) h2, cell_of_row _ _ 1 _ _ (0, 0) h2⟩
theorem set_two' {W0 W : World} {bk : Nat} {a b u v : Value} {t : TypeId} (h : Later W0 W) (hb : W0.heap.size ≤ bk) (hr : W.heap[bk]? = some (.cells #[a, b] t (0, 0))) :
    Later W0 ((W.setCell ⟨bk, 0, none⟩ u).setCell ⟨bk, 1, none⟩ v) ∧ W0.heap.size ≤ bk ∧ ((W.setCell ⟨bk, 0, none⟩ u).setCell ⟨bk, 1, none⟩ v).heap[bk]? = some (.cells #[u, v] t (0, 0)) := by
  have h1 := heap_setCell_same W bk 0 _ _ u hr
  have h2 := heap_setCell_same _ bk 1 _ _ v h1
  exact ⟨Below.setCell (Below.setCell h hb _) hb _, hb, by simpa using h2⟩
theorem changeT : ElemT Try.prog 23 32 3 40 := elem_mk (z := .agg #[.int .i64 0, .string ByteArray.empty, .string ByteArray.empty]) Try.underlying23 (by kernel_rfl) rfl (by decide)
end Go.Proofs.Ytblljpdlmllceaa
