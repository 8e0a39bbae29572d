/-
  The game's judge in one form; how the calls of RefereePlays come in; both sides as one state.
-/
import Derived.Test.YtidlkomgondkiaaKGJudge
import Derived.Test.YtidlkomgondkiaaKMActs
namespace Go.Proofs.Ytidlkomgondkiaa
open Go.ChangeShapes Go.WideShapes Go.ChangeAt Go.RowKit
set_option linter.unusedVariables false
set_option linter.unusedSimpArgs false
set_option maxRecDepth 20000
theorem GS.lt {w : World} {B G : Nat} {E V : Int} {J : Bool} {told : List Int} {W : List Mk} {f l : Int} (h : GS w B G E V J told W f l) : G < w.heap.size ∧ B ≤ w.heap.size := by
  obtain ⟨D, At, n, c, h1, h2, h3, h4⟩ := h
  have := heap_lt0 h1
  exact ⟨this, by omega⟩
/-- The game's judge goes as the referee's. -/
theorem gj_any {w : World} {B G nt ct : Nat} {E V f l er V' f' l' : Int} {J J' : Bool} {told told' R : List Int} {L L' W : List Mk} {T : List Tx} {At : Option Addr} (x p v : Int) (h : GS w B G E V J told W f l) (hE : 1 ≤ E) (hT : ∀ Wx, Below B w Wx → TxRow Wx At nt T) (hnt : nt ≤ 1048576)
    (hA : Agree L W f) (hF : Fit L l) (hf : 0 ≤ f) (hfV : f ≤ V) (hlV : l ≤ V) (hn : W.length ≤ 3900) (hV : V ≤ 9223372036854775807) (hv2 : v ≤ 9223372036854775807) (hw : RWay V J told L f l p v T er R V' J' told' L' f' l') :
    Calls Try.prog 31 #[.pointer (some ⟨G, 0, none⟩), .agg #[.int .i64 x, .int .i64 E, .int .i64 p, .int .i64 v, .slice At nt ct]] w fun en w' =>
      ∃ A n c W', en = .returned (.tuple #[.slice A n c, .int .i64 er]) ∧ R.length = n ∧ w'.ownsRow 0 3 1 (.slice A n c) n (ints R) ∧ GS w' B G E V' J' told' W' f' l' ∧ Agree L' W' f' ∧ W'.length ≤ W.length + 96 ∧ Turns B GSort w w' := by
  have hlt := h.lt
  rcases hw with ⟨hw, rfl, rfl, rfl, rfl, rfl, rfl⟩ | ⟨h1, h2, h3, h4, rfl, rfl, rfl, rfl, M, hJ, rfl, rfl⟩
  · rcases hw with ⟨h1, h2, rfl, rfl⟩ | ⟨h1, rfl, rfl⟩ | ⟨h1, h2, rfl, rfl⟩ | ⟨h1, h2, rfl, rfl⟩ | ⟨h1, h2, h3, rfl, rfl⟩
    · refine (gjudge_again x p v h hE h1 h2).mono fun en w' ⟨A, n, c, he, h5, h6, hb⟩ => ?_
      exact ⟨A, n, c, W, he, h5, h6, h.below hb, hA, by omega, Turns.later hb hlt.2⟩
    · refine (gjudge_old x p v h hE h1).mono fun en w' ⟨he, hb⟩ => ?_
      exact ⟨none, 0, 0, W, he, rfl, World.ownsRow_nil _ _ _ _, h.below hb, hA, by omega, Turns.later hb hlt.2⟩
    · refine (gjudge_same x p v h hE h1 h2).mono fun en w' ⟨he, hb⟩ => ?_
      exact ⟨none, 0, 0, W, he, rfl, World.ownsRow_nil _ _ _ _, h.below hb, hA, by omega, Turns.later hb hlt.2⟩
    · refine (gjudge_order x p v h hE h1 h2).mono fun en w' ⟨he, hb⟩ => ?_
      exact ⟨none, 0, 0, W, he, rfl, World.ownsRow_nil _ _ _ _, h.below hb, hA, by omega, Turns.later hb hlt.2⟩
    · refine (gjudge_go x p v h hE h2 h1 hT hnt hA hF hf hfV hn hV hv2 (.inr (.inl ⟨by omega, h3, rfl, rfl, rfl, rfl⟩))).mono fun en w' ⟨A, n, c, W', he, h5, h6, h7, h8, h9, h10⟩ => ?_
      have h9 := h9 (by decide)
      exact ⟨A, n, c, W', he, h5, h6, h9.1, h9.2, h7, h8⟩
  · refine (gjudge_go x p V' h hE h2 h1 hT hnt hA hF hf hfV hn hV hv2 (.inr (.inr ⟨by omega, h3, h4, rfl, hJ⟩))).mono fun en w' ⟨A, n, c, W', he, h5, h6, h7, h8, h9, h10⟩ => ?_
    have h10 := h10 rfl
    refine ⟨A, n, c, W', he, h5, h6, h10.1, ?_, h7, h8⟩
    have hfa := fit_all hJ hF (by omega) (fun t2 h5 => (soundT_iff.1 (List.all_eq_true.1 h4 t2 h5)).2.2.1)
    split
    · exact h10.2
    · exact agree_forget h10.2 hfa.1.1 hf (by omega)
/-- Both stand: fresh, or in an epoch. -/
def RPS (w : World) (R0 G : Nat) (k : Nat) : Prop :=
  (RefAt w R0 0 0 (.pointer none) false (.slice none 0 0) ∧ GameAt w G 0 0 (.pointer none) false (.slice none 0 0) ∧ R0 ≤ G) ∨
  ∃ E V J told L W f l, RS w R0 E V J told L f l ∧ GS w R0 G E V J told W f l ∧ Agree L W f ∧ V ≤ 9223372036854775807 ∧ told.length ≤ 4 ∧ L.length ≤ 192 * k ∧ W.length ≤ 96 * k
theorem RPS.below {w w' : World} {R0 G k : Nat} (h : RPS w R0 G k) (hb : Later w w') : RPS w' R0 G k := by
  rcases h with ⟨h1, h2, h3⟩ | ⟨E, V, J, told, L, W, f, l, h1, h2, h3⟩
  · exact .inl ⟨later_row hb h1, later_row hb h2, h3⟩
  · exact .inr ⟨E, V, J, told, L, W, f, l, h1.below hb, h2.below hb, h3⟩
theorem RPS.next {w : World} {R0 G k : Nat} (h : RPS w R0 G k) : RPS w R0 G (k + 1) := by
  rcases h with h | ⟨E, V, J, told, L, W, f, l, h1, h2, h3, h4, h5, h6, h7⟩
  · exact .inl h
  · exact .inr ⟨E, V, J, told, L, W, f, l, h1, h2, h3, h4, h5, by omega, by omega⟩
theorem RPS.at_ {w : World} {R0 G k : Nat} (h : RPS w R0 G k) : ∃ E V mv J tv mv' tv', RefAt w R0 E V mv J tv ∧ GameAt w G E V mv' J tv' ∧ 0 ≤ E ∧ R0 ≤ G ∧ (∃ A n c, tv' = .slice A n c) := by
  rcases h with ⟨h1, h2, h3⟩ | ⟨E, V, J, told, L, W, f, l, h1, h2, h3⟩
  · exact ⟨0, 0, _, false, _, _, _, h1, h2, Int.le_refl _, h3, _, _, _, rfl⟩
  · obtain ⟨mv, tv, h4⟩ := h1.at_
    obtain ⟨D, At, n, c, h5, h6, _⟩ := h2
    exact ⟨E, V, _, J, _, _, _, h4, h5, by have := h1.fit; omega, h6, _, _, _, rfl⟩
/-- A call: what, epoch, version ahead, version, transactions. -/
abbrev ActR := Int × Int × Int × Int × List Tx
section
variable {H : Type} {enc : TypeId × Value → H} {W : World} {b base : Nat} {held : Bool} {r : Reach}
def ActRSh : Sh ActR := fun w cs a => ∃ u0 u1 u2 u3 u4, cs = [u0, u1, u2, u3, u4] ∧ IntSh .i64 w [u0] a.1 ∧ IntSh .i64 w [u1] a.2.1 ∧ IntSh .i64 w [u2] a.2.2.1 ∧ IntSh .i64 w [u3] a.2.2.2.1 ∧ SliceSh 3 TxnSh w [u4] a.2.2.2.2
def bulkR (a : ActR) : Nat := 0 + 0 + 0 + 0 + sumM bulkT a.2.2.2.2 + 5
theorem mopens_ractsL : Opens enc Try.prog 57 (SliceSh 5 ActRSh) (sumM bulkR) :=
  opens_slice (size := 5) Try.underlying57 (by kernel_rfl) (by omega) (opens_struct5 Try.underlying64 (by kernel_rfl) ⟨rfl, rfl, rfl, rfl, rfl⟩ ⟨by kernel_rfl, by kernel_rfl, by kernel_rfl, by kernel_rfl, by kernel_rfl⟩ (opens_int Try.underlying3) (opens_int Try.underlying3) (opens_int Try.underlying3) (opens_int Try.underlying3) mopens_txns)
/-- Calls lie here, one behind the other. -/
def ActRRow (w : World) (A : Option Addr) (n : Nat) (X : List ActR) : Prop := X.length = n ∧ ∀ (i : Nat) (a : ActR), X[i]? = some a → ∃ (b o : Nat) (At : Option Addr) (nt ct : Nat), A = some ⟨b, o, none⟩ ∧
  w.cell? ⟨b, o + i * 5, none⟩ = some (.int .i64 a.1) ∧ w.cell? ⟨b, o + i * 5 + 1, none⟩ = some (.int .i64 a.2.1) ∧ w.cell? ⟨b, o + i * 5 + 2, none⟩ = some (.int .i64 a.2.2.1) ∧ w.cell? ⟨b, o + i * 5 + 3, none⟩ = some (.int .i64 a.2.2.2.1) ∧ w.cell? ⟨b, o + i * 5 + 4, none⟩ = some (.slice At nt ct) ∧
  nt ≤ 1048576 ∧ TxRow w At nt a.2.2.2.2 ∧ a.2.2.2.1 ≤ 9223372036854775807
theorem mopen_racts {v : Value} {d : DataW H} {p : List MemPlace} (hv : Value.okWide Try.prog W r base 57 v) (h : DataW.Trod enc Try.prog W b (fun _ => true) held 57 v d p) (hb : Rows.uptoBulk d ≤ 1048576) :
    ∃ (A : Option Addr) (c : Nat) (X : List ActR), v = .slice A X.length c ∧ X.length ≤ 1048576 ∧ ActRRow W A X.length X := by
  obtain ⟨X, hL, hbl⟩ := open_sh mopens_ractsL Try.underlying57 hv h
  have hlen := sumM_length bulkR X
  obtain ⟨A, c, hv', hlc, hcm, hA, hx⟩ := hL
  injection hv' with hv'
  subst hv'
  refine ⟨A, c, X, rfl, by omega, rfl, fun i a hi => ?_⟩
  have hi2 := (List.getElem?_eq_some_iff.1 hi).1
  obtain ⟨b, o, rfl, he⟩ := hx (by omega)
  obtain ⟨us, hul, huc, hr⟩ := he i a hi
  obtain ⟨u0, u1, u2, u3, u4, rfl, ⟨e0, _⟩, ⟨e1, _⟩, ⟨e2, _⟩, ⟨e3, w3⟩, hS⟩ := hr
  injection e0 with e0; injection e1 with e1; injection e2 with e2; injection e3 with e3
  subst e0 e1 e2 e3
  have hm := sumM_mem (m := bulkR) (List.mem_of_getElem? hi)
  have hbt : sumM bulkT a.2.2.2.2 ≤ 1048576 := by have h2 : bulkR a + 1 ≤ sumM bulkR X := hm; have h3 : bulkR a = 0 + 0 + 0 + 0 + sumM bulkT a.2.2.2.2 + 5 := rfl; omega
  obtain ⟨At, ct, rfl, hnt, hT⟩ := txRow_sh hS hbt
  have hw : a.2.2.2.1 ≤ 9223372036854775807 := by
    have h := w3
    simp [Lit.wf, IntKind.min, IntKind.max, IntKind.signed, IntKind.bits] at h
    omega
  exact ⟨b, o, At, _, ct, rfl, huc 0 _ rfl, huc 1 _ rfl, huc 2 _ rfl, huc 3 _ rfl, huc 4 _ rfl, hnt, hT, hw⟩
end
end Go.Proofs.Ytidlkomgondkiaa
