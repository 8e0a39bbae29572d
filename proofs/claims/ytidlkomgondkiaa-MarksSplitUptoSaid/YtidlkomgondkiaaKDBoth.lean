/-
  Both Marks side by side: what a call of one leaves of the other; Judge of both in one form.
-/
import Derived.Test.YtidlkomgondkiaaKDJudge
import Derived.Test.YtidlkomgondkiaaKMForget
namespace Go.Proofs.Ytidlkomgondkiaa
open Go.RowKit
set_option linter.unusedVariables false
theorem neWM : (91 : TypeId) ≠ 89 := by decide
theorem dsort_mark : ¬ DSort 91 := by unfold DSort; decide
theorem dsort_marks : ¬ DSort 77 := by unfold DSort; decide
theorem marks_dm : ¬ isMarks 86 := by unfold isMarks; decide
theorem marks_dw : ¬ isMarks 89 := by unfold isMarks; decide
/-- The document's Marks stay, if blocks of other sorts turn. -/
theorem DM.turns {w w' : World} {B B0 : Nat} {S : TypeId → Prop} {W : List Mk} {f l : Int} (h : DM w B W f l) (ht : Turns B0 S w w') (h1 : ¬ S 86) (h2 : ¬ S 89) : DM w' B W f l := by
  obtain ⟨A, n, c, hm, ho, hl⟩ := h
  exact ⟨A, n, c, ht.row hm h1, ht.own ho h2, hl⟩
theorem MK.turns {w w' : World} {B B0 : Nat} {S : TypeId → Prop} {L : List Mk} {f l : Int} (h : MK w B0 L f l) (ht : Turns B S w w') (h1 : ¬ S 77) (h2 : ¬ S 91) : MK w' B0 L f l := by
  obtain ⟨A, n, c, hm, ho, hl⟩ := h
  exact ⟨A, n, c, ht.row hm h1, ht.own ho h2, hl⟩
/-- One block turns: as a change of a sort. -/
theorem turns_of_grown {w w' : World} {B B0 : Nat} {S : TypeId → Prop} {L : List Mk} {f l : Int} (h : MK w B0 L f l) (hg : w.grownBy w' (some B0)) (hB : B ≤ B0) (hS : S 77) : Turns B S w w' := by
  obtain ⟨A, n, c, hm, ho, hl⟩ := h
  exact Turns.grown hg hB (Nat.le_of_lt (Nat.lt_of_le_of_lt hB (heap_lt0 hm))) (OfSort.of hm hS)
/-- How a Judge goes. -/
def JWay (f l v : Int) (L : List Mk) (T : List Tx) (er : Int) (V : List Int) (M : List Mk) (m : Int) : Prop :=
  (v ≤ max f l ∧ er = 9 ∧ V = [] ∧ M = L ∧ m = l) ∨ (max f l < v ∧ ¬ (T.length ≤ 4 ∧ T.all soundT = true) ∧ er = 2 ∧ V = [] ∧ M = L ∧ m = l) ∨
  (max f l < v ∧ T.length ≤ 4 ∧ T.all soundT = true ∧ er = 0 ∧ JudgeAll v f L l T V M m)
theorem jway_fit {f l v er m : Int} {L M : List Mk} {T : List Tx} {V : List Int} (h : JWay f l v L T er V M m) (hF : Fit L l) : Fit M m ∧ M.length ≤ L.length + 192 := by
  rcases h with ⟨_, _, _, rfl, rfl⟩ | ⟨_, _, _, _, rfl, rfl⟩ | ⟨h1, h2, h3, _, h5⟩
  · exact ⟨hF, by omega⟩
  · exact ⟨hF, by omega⟩
  · have h := fit_all h5 hF (by omega) (fun t ht => (soundT_iff.1 (List.all_eq_true.1 h3 t ht)).2.2.1)
    exact ⟨h.1, by have := h.2.2.2; omega⟩
theorem pjudge_any {w : World} {B0 nt ct : Nat} {At : Option Addr} {L : List Mk} {T : List Tx} {f l : Int} (v : Int) (hm : MK w B0 L f l) (hn : L.length ≤ 1048000) (hfit : Fit L l) (hf : 0 ≤ f)
    (hT : TxStay w B0 At nt T) (hnt : nt ≤ 4398046511104) :
    Calls Try.prog 17 #[.pointer (some ⟨B0, 0, none⟩), .int .i64 v, .slice At nt ct] w fun e w' =>
      ∃ (A : Option Addr) (n c : Nat) (er : Int) (V : List Int) (M : List Mk) (m : Int), e = .returned (.tuple #[.slice A n c, .int .i64 er]) ∧ JWay f l v L T er V M m ∧ V.length = n ∧ w'.ownsRow w.heap.size 3 1 (.slice A n c) n (ints V) ∧ MK w' B0 M f m ∧ w.grownBy w' (some B0) := by
  refine (judges_any (ct := ct) v hm hn hfit hf hT hnt).mono fun e w' h => ?_
  rcases h with ⟨h1, rfl, hb⟩ | ⟨h1, h2, rfl, hb⟩ | ⟨h1, h2, h3, A, n, c, V, M, m, rfl, h4, h5, h6, h7, h8⟩
  · exact ⟨none, 0, 0, 9, [], L, l, rfl, .inl ⟨h1, rfl, rfl, rfl, rfl⟩, rfl, World.ownsRow_nil _ _ _ _, hm.below hb, grown_later hb _⟩
  · exact ⟨none, 0, 0, 2, [], L, l, rfl, .inr (.inl ⟨h1, h2, rfl, rfl, rfl, rfl⟩), rfl, World.ownsRow_nil _ _ _ _, hm.below hb, grown_later hb _⟩
  · exact ⟨A, n, c, 0, V, M, m, rfl, .inr (.inr ⟨h1, h2, h3, rfl, h4⟩), h5, h6, h7, h8⟩
theorem djudge_any {w : World} {B nt ct : Nat} {At : Option Addr} {W L M : List Mk} {T : List Tx} {V : List Int} {f l m er : Int} (v : Int) (h : DM w B W f l) (hA : Agree L W f) (hF : Fit L l) (hf : 0 ≤ f) (hT : ∀ Wx, Below B w Wx → TxRow Wx At nt T)
    (hnt : nt ≤ 4398046511104) (hn : W.length ≤ 3900) (hJ : JWay f l v L T er V M m) :
    Calls Try.prog 19 #[.pointer (some ⟨B, 0, none⟩), .int .i64 v, .slice At nt ct] w fun e w' =>
      ∃ (A : Option Addr) (n c : Nat) (W' : List Mk), e = .returned (.tuple #[.slice A n c, .int .i64 er]) ∧ V.length = n ∧ w'.ownsRow w.heap.size 3 1 (.slice A n c) n (ints V) ∧ DM w' B W' f m ∧ Agree M W' f ∧ W'.length ≤ W.length + 96 ∧ Turns B DSort w w' := by
  have hBw := h.lt
  have hTL := (hT w (Below.refl _ _)).1
  rcases hJ with ⟨h1, rfl, rfl, rfl, rfl⟩ | ⟨h1, h2, rfl, rfl, rfl, rfl⟩ | ⟨h1, h2, h3, rfl, h4⟩
  · refine (djudge_order (ct := ct) v h h1).mono fun e w' ⟨he, hb⟩ => ?_
    exact ⟨none, 0, 0, W, he, rfl, World.ownsRow_nil _ _ _ _, h.below hb, hA, by omega, Turns.later hb (Nat.le_of_lt hBw)⟩
  · refine (djudge_form (ct := ct) v h h1 hT hnt h2).mono fun e w' ⟨he, hb⟩ => ?_
    exact ⟨none, 0, 0, W, he, rfl, World.ownsRow_nil _ _ _ _, h.below hb, hA, by omega, Turns.later hb (Nat.le_of_lt hBw)⟩
  · refine (djudge_good (ct := ct) v h hA hF hf h1 hT (by omega) h3 hn h4).mono fun e w' ⟨A, c, W', he, h5, h6, h7, h8, h9, h10⟩ => ?_
    exact ⟨A, nt, c, W', he, h5, h6, h7, h8, by omega, h10⟩
theorem fit_forget {L : List Mk} {l v : Int} (h : Fit L l) : Fit (L.filter (newer v)) l :=
  ⟨marked_filter h.1 _, h.2.1, fun k hk => h.2.2 k (List.mem_filter.1 hk).1⟩
end Go.Proofs.Ytidlkomgondkiaa
