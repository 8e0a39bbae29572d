/-
  chest: a list of batches of one change each, each behind the other.
-/
import Derived.Test.YtlgnnmpfipmjeaaGreatZkChAgM
import Derived.Test.YtlgnnmpfipmjeaaGreatZkChK2
namespace Go.Proofs.YtlgnnmpfipmjeaaGreat
open Go.RowKit
set_option linter.unusedVariables false
set_option linter.unusedSimpArgs false
def chE (s : UInt8) : Chg := (1, ⟨#[107]⟩, ⟨#[s]⟩)
def cbp (a : Nat) (s : UInt8) : BP := ⟨a, a + s.toNat + 1, a, [chE s]⟩
def bcc (a : Nat) : List UInt8 → List BP
  | [] => []
  | s :: r => cbp a s :: bcc (a + s.toNat + 1) r
theorem bcc_snoc (s : UInt8) : ∀ (a : Nat) (l : List UInt8), bcc a (l ++ [s]) = bcc a l ++ [cbp (tp a l) s]
  | a, [] => rfl
  | a, x :: l => by
    show cbp a x :: bcc _ (l ++ [s]) = _
    rw [bcc_snoc s _ l]; rfl
theorem bcc_len : ∀ (a : Nat) (l : List UInt8), (bcc a l).length = l.length
  | a, [] => rfl
  | a, x :: l => by show (bcc _ l).length + 1 = _; rw [bcc_len]; rfl
theorem bcc_ver : ∀ {a : Nat} {l : List UInt8} {k : Nat} {x : BP}, (bcc a l)[k]? = some x → x.ver = tp a (l.take (k + 1))
  | a, [], k, x, h => by simp [bcc] at h
  | a, s :: l, 0, x, h => by
    have e : cbp a s = x := Option.some.inj h
    subst e; rfl
  | a, s :: l, k + 1, x, h => by
    have h' : (bcc (a + s.toNat + 1) l)[k]? = some x := h
    rw [bcc_ver h']; rfl
theorem bcc_drop : ∀ (a : Nat) (l : List UInt8) (k : Nat), (bcc a l).drop k = bcc (tp a (l.take k)) (l.drop k)
  | a, l, 0 => rfl
  | a, [], k + 1 => rfl
  | a, s :: l, k + 1 => by
    show (bcc _ l).drop k = _
    rw [bcc_drop]; rfl
theorem bcc_take : ∀ (a : Nat) (l : List UInt8) (k : Nat), (bcc a l).take k = bcc a (l.take k)
  | a, l, 0 => rfl
  | a, [], k + 1 => rfl
  | a, s :: l, k + 1 => by
    show cbp a s :: (bcc _ l).take k = _
    rw [bcc_take]; rfl
theorem bcc_mem : ∀ {a : Nat} {l : List UInt8} {x : BP}, x ∈ bcc a l → a < x.ver ∧ x.ver ≤ tp a l
  | a, [], x, h => by cases h
  | a, s :: l, x, h => by
    rcases List.mem_cons.1 h with rfl | h
    · exact ⟨by show a < a + s.toNat + 1; omega, (tp_le _ l).1⟩
    · obtain ⟨h1, h2⟩ := bcc_mem h
      exact ⟨by omega, h2⟩
theorem bcc_top (e b k g : Nat) (F : List BP) (a : Nat) (l : List UInt8) (hl : l ≠ [] ∨ g = a) : LB.top ⟨e, b, g, k, F, bcc a l⟩ = tp a l := by
  rcases List.eq_nil_or_concat l with rfl | ⟨l', s, rfl⟩
  · rcases hl with h | h
    · exact absurd rfl h
    · exact h
  · rw [List.concat_eq_append, bcc_snoc, tp_snoc]
    unfold LB.top
    simp only [List.getLast?_append, List.getLast?_singleton, Option.some_or]
    rfl
theorem bcc_peek : ∀ (a : Nat) (l : List UInt8) (j m : Nat), peekB (bcc a l) (tp a (l.take j)) m = ((bcc a l).drop j).take m := by
  intro a l j m
  unfold peekB
  congr 1
  have h1 : (List.filter (fun x : BP => decide (tp a (l.take j) < x.ver)) ((bcc a l).take j)) = [] := by
    rw [List.filter_eq_nil_iff]
    intro x hx
    rw [bcc_take] at hx
    have := (bcc_mem hx).2
    simp; omega
  have h2 : (List.filter (fun x : BP => decide (tp a (l.take j) < x.ver)) ((bcc a l).drop j)) = (bcc a l).drop j := by
    rw [List.filter_eq_self]
    intro x hx
    rw [bcc_drop] at hx
    exact decide_eq_true (bcc_mem hx).1
  conv => lhs; rw [← List.take_append_drop j (bcc a l)]
  rw [List.filter_append, h1, h2, List.nil_append]
theorem atF_low : ∀ (L : List Nat) (v g : Nat), (∀ x ∈ L, v < x) → atF L v g = g
  | [], v, g, _ => rfl
  | x :: L, v, g, h => by
    unfold atF
    rw [List.foldl_cons, if_neg (by have := h x (by simp); omega)]
    exact atF_low L v g fun y hy => h y (by simp [hy])
theorem atF_append (L R : List Nat) (v g : Nat) : atF (L ++ R) v g = atF R v (atF L v g) := by unfold atF; rw [List.foldl_append]
theorem bcc_at (a g : Nat) (l : List UInt8) (k : Nat) (hk : 0 < k) (hl : k ≤ l.length) : atF ((bcc a l).map BP.ver) (tp a (l.take k)) g = tp a (l.take k) := by
  rw [← List.take_append_drop k (bcc a l), List.map_append, atF_append, atF_low _ _ _ ?_]
  · obtain ⟨k, rfl⟩ : ∃ j, k = j + 1 := ⟨k - 1, by omega⟩
    obtain ⟨s, hs⟩ : ∃ s, l[k]? = some s := ⟨_, List.getElem?_eq_getElem (by omega)⟩
    have e : l.take (k + 1) = l.take k ++ [s] := by rw [List.take_add_one, hs]; rfl
    rw [bcc_take, e, bcc_snoc, List.map_append, List.map_singleton, atF_snoc, tp_snoc]
    exact if_pos (Nat.le_refl _)
  · intro x hx
    obtain ⟨y, hy, rfl⟩ := List.mem_map.1 hx
    rw [bcc_drop] at hy
    exact (bcc_mem hy).1
theorem chE_ok (s : UInt8) : chk (chE s).1 (chE s).2.1 (chE s).2.2 = 0 := by
  unfold chk chE
  rfl
theorem cbp_ok (a : Nat) (s : UInt8) (h : a ≤ 100000) : BOk (cbp a s) := by
  have hs := s.toNat_lt
  have h1 : (cbp a s).Ok := ⟨by show a < _; omega, by show a + s.toNat + 1 < _; omega, by show a < _; omega, by show 1 ≤ 4096; omega, by show chkAll [chE s] = 0; unfold chkAll; rw [if_pos (chE_ok s)]; rfl⟩
  refine ⟨h1, ?_, by show a < _; omega, by show a + s.toNat + 1 < _; omega⟩
  have := encB_len h1
  have e : (cbp a s).chg.length = 1 := rfl
  omega
def cbv (q a : Nat) (s : UInt8) : BV := ⟨a, a + s.toNat + 1, a, some ⟨q, 0, none⟩, 1, 1, [chE s]⟩
theorem cbv_ok {w : World} {q a : Nat} {s : UInt8} (ha : a ≤ 100000) (h : w.heap[q]? = some (.cells #[.int .i64 1, .string ⟨#[107]⟩, .string ⟨#[s]⟩] 45 (0, 0))) : BvOk w (cbv q a s) := by
  refine ⟨rfl, ⟨rfl, fun _ => ⟨q, 0, rfl, fun j u hu => ?_⟩⟩, fun x hx => ?_, (cbp_ok a s ha).ok⟩
  · rw [cell_of_row _ _ _ _ _ _ h, Nat.zero_add]
    simpa [cbv, crow, chE, encC] using hu
  · injection hx with hx
    subst hx
    exact ⟨_, _, h⟩
/-- The chest stands while what is known to be apart is written. -/
theorem KX.hitX {w0 w w' : World} {X G : Nat → Prop} {c used room lock : Nat} {S : LB} (h : KX w0 X w c used room lock S) (hh : Hits G w w') (hG : ∀ k, G k → X k ∧ w0.heap.size ≤ k) : KX w0 X w' c used room lock S := by
  obtain ⟨F, h1, h2, h3, h4⟩ := h
  exact ⟨F, h1.hits hh fun k hk _ hg => (h2 k hk).2.1 (hG k hg).1, fun k hk => ⟨(h2 k hk).1, (h2 k hk).2.1, Nat.lt_of_lt_of_le (h2 k hk).2.2 hh.size⟩, fun k hk => Nat.lt_of_lt_of_le (h3 k hk) hh.size,
    Below.trans h4 (hh.below (B := w0.heap.size) h4.size fun k hk => (hG k hk).2)⟩

end Go.Proofs.YtlgnnmpfipmjeaaGreat
