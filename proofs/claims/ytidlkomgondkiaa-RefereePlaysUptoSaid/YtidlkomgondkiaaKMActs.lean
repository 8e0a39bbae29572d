/-
  How the calls of MarksPlays come in as arguments.
-/
import Derived.Test.YtidlkomgondkiaaKMOpen
namespace Go.Proofs.Ytidlkomgondkiaa
open Go.ChangeShapes Go.WideShapes Go.ChangeAt Go.RowKit
set_option linter.unusedVariables false
set_option linter.unusedSimpArgs false
set_option maxRecDepth 20000
section
variable {H : Type} {enc : TypeId × Value → H} {W : World} {b base : Nat} {held : Bool} {r : Reach}
theorem mopens_span : Opens enc Try.prog 24 (fun w cs (a : ByteArray × ByteArray) => ∃ u0 u1, cs = [u0, u1] ∧ StringSh w [u0] a.1 ∧ StringSh w [u1] a.2) (fun a => a.1.size + a.2.size + 2) :=
  opens_struct2 Try.underlying24 (by kernel_rfl) ⟨rfl, rfl⟩ ⟨by kernel_rfl, by kernel_rfl⟩ (opens_string Try.underlying9) (opens_string Try.underlying9)
/-- A struct of four parts, the third of two cells. -/
theorem opens_structS {α β γ δ : Type} {P : Program} {t : TypeId} {f0 f1 f2 f3 : Field} {R0 : Sh α} {R1 : Sh β} {R2 : Sh γ} {R3 : Sh δ} {m0 : α → Nat} {m1 : β → Nat} {m2 : γ → Nat} {m3 : δ → Nat} (ht : P.underlying t = some (.struct #[f0, f1, f2, f3])) (hc : P.cellsOf t = 5)
    (ho : f0.offset = 0 ∧ f1.offset = 1 ∧ f2.offset = 2 ∧ f3.offset = 4) (hs : P.cellsOf f0.type = 1 ∧ P.cellsOf f1.type = 1 ∧ P.cellsOf f2.type = 2 ∧ P.cellsOf f3.type = 1)
    (h0 : Opens enc P f0.type R0 m0) (h1 : Opens enc P f1.type R1 m1) (h2 : Opens enc P f2.type R2 m2) (h3 : Opens enc P f3.type R3 m3) :
    Opens enc P t (fun w cs (a : α × β × γ × δ) => ∃ u0 u1 u2 u3 u4, cs = [u0, u1, u2, u3, u4] ∧ R0 w [u0] a.1 ∧ R1 w [u1] a.2.1 ∧ R2 w [u2, u3] a.2.2.1 ∧ R3 w [u4] a.2.2.2) (fun a => m0 a.1 + m1 a.2.1 + m2 a.2.2.1 + m3 a.2.2.2 + 4) := by
  intro w base held fuel cs x h
  obtain ⟨hl, ys, hyl, hx, n, hf⟩ := opens_parts ht h
  rw [hc] at hl
  match cs, hl, ys, hyl with
  | [u0, u1, u2, u3, u4], _, [y0, y1, y2, y3], _ =>
    have g0 := hf 0 f0 rfl
    have g1 := hf 1 f1 rfl
    have g2 := hf 2 f2 rfl
    have g3 := hf 3 f3 rfl
    simp [ho.1, ho.2.1, ho.2.2.1, ho.2.2.2, hs.1, hs.2.1, hs.2.2.1, hs.2.2.2] at g0 g1 g2 g3
    obtain ⟨a0, r0, b0⟩ := h0 _ _ _ _ _ _ g0
    obtain ⟨a1, r1, b1⟩ := h1 _ _ _ _ _ _ g1
    obtain ⟨a2, r2, b2⟩ := h2 _ _ _ _ _ _ g2
    obtain ⟨a3, r3, b3⟩ := h3 _ _ _ _ _ _ g3
    refine ⟨(a0, a1, a2, a3), ⟨u0, u1, u2, u3, u4, rfl, r0, r1, r2, r3⟩, ?_⟩
    rw [hx]
    simp only [List.map_cons, List.map_nil, Rows.uptoBulk, Rows.uptoBulkAll]
    omega
/-- A call: what, version, span, transactions. -/
abbrev ActM := Int × Int × Spn × List Tx
def ActSh : Sh ActM := fun w cs a => ∃ u0 u1 u2 u3 u4, cs = [u0, u1, u2, u3, u4] ∧ IntSh .i64 w [u0] a.1 ∧ IntSh .i64 w [u1] a.2.1 ∧ (∃ x0 x1, [u2, u3] = [x0, x1] ∧ StringSh w [x0] a.2.2.1.1 ∧ StringSh w [x1] a.2.2.1.2) ∧ SliceSh 3 TxnSh w [u4] a.2.2.2
def bulkA (a : ActM) : Nat := 0 + 0 + (a.2.2.1.1.size + a.2.2.1.2.size + 2) + sumM bulkT a.2.2.2 + 4
theorem mopens_acts : Opens enc Try.prog 43 (SliceSh 5 ActSh) (sumM bulkA) :=
  opens_slice (size := 5) Try.underlying43 (by kernel_rfl) (by omega) (opens_structS Try.underlying47 (by kernel_rfl) ⟨rfl, rfl, rfl, rfl⟩ ⟨by kernel_rfl, by kernel_rfl, by kernel_rfl, by kernel_rfl⟩ (opens_int Try.underlying3) (opens_int Try.underlying3) mopens_span mopens_txns)
theorem txRow_sh {u : Value} {T : List Tx} (hL : SliceSh 3 TxnSh W [u] T) (hb : sumM bulkT T ≤ 1048576) : ∃ (A : Option Addr) (c : Nat), u = .slice A T.length c ∧ T.length ≤ 1048576 ∧ TxRow W A T.length T := by
  have hlen := sumM_length bulkT T
  obtain ⟨A, c, hv', hlc, hcm, hA, hx⟩ := hL
  injection hv' with hv'
  subst hv'
  refine ⟨A, c, rfl, by omega, rfl, fun i t hi => ?_⟩
  have hi2 := (List.getElem?_eq_some_iff.1 hi).1
  obtain ⟨b, o, rfl, he⟩ := hx (by omega)
  obtain ⟨us, hul, huc, hr⟩ := he i t hi
  obtain ⟨A1, A2, c1, c2, rfl, r1, r2⟩ := txnSh_reads hr
  have hm := sumM_mem (m := bulkT) (List.mem_of_getElem? hi)
  have hbt := bulkT_le t
  exact ⟨b, o, A1, A2, _, c1, _, c2, rfl, huc 0 _ rfl, huc 1 _ rfl, huc 2 _ rfl, rfl, rfl, by omega, by omega, r1, r2⟩
/-- Calls lie here, one behind the other. -/
def ActRow (w : World) (A : Option Addr) (n : Nat) (X : List ActM) : Prop := X.length = n ∧ ∀ (i : Nat) (a : ActM), X[i]? = some a → ∃ (b o : Nat) (At : Option Addr) (nt ct : Nat), A = some ⟨b, o, none⟩ ∧
  w.cell? ⟨b, o + i * 5, none⟩ = some (.int .i64 a.1) ∧ w.cell? ⟨b, o + i * 5 + 1, none⟩ = some (.int .i64 a.2.1) ∧ w.cell? ⟨b, o + i * 5 + 2, none⟩ = some (.string a.2.2.1.1) ∧ w.cell? ⟨b, o + i * 5 + 3, none⟩ = some (.string a.2.2.1.2) ∧ w.cell? ⟨b, o + i * 5 + 4, none⟩ = some (.slice At nt ct) ∧
  nt ≤ 1048576 ∧ TxRow w At nt a.2.2.2
theorem mopen_acts {v : Value} {d : DataW H} {p : List MemPlace} (hv : Value.okWide Try.prog W r base 43 v) (h : DataW.Trod enc Try.prog W b (fun _ => true) held 43 v d p) (hb : Rows.uptoBulk d ≤ 1048576) :
    ∃ (A : Option Addr) (c : Nat) (X : List ActM), v = .slice A X.length c ∧ X.length ≤ 1048576 ∧ ActRow W A X.length X := by
  obtain ⟨X, hL, hbl⟩ := open_sh mopens_acts Try.underlying43 hv h
  have hlen := sumM_length bulkA X
  obtain ⟨A, c, hv', hlc, hcm, hA, hx⟩ := hL
  injection hv' with hv'
  subst hv'
  refine ⟨A, c, X, rfl, by omega, rfl, fun i a hi => ?_⟩
  have hi2 := (List.getElem?_eq_some_iff.1 hi).1
  obtain ⟨b, o, rfl, he⟩ := hx (by omega)
  obtain ⟨us, hul, huc, hr⟩ := he i a hi
  obtain ⟨u0, u1, u2, u3, u4, rfl, ⟨e0, _⟩, ⟨e1, _⟩, ⟨x0, x1, e2, ⟨e3, _⟩, ⟨e4, _⟩⟩, hS⟩ := hr
  injection e0 with e0; injection e1 with e1; injection e3 with e3; injection e4 with e4
  injection e2 with e2 e5; injection e5 with e5
  subst e0 e1 e2 e5 e3 e4
  have hm := sumM_mem (m := bulkA) (List.mem_of_getElem? hi)
  have hbt : sumM bulkT a.2.2.2 ≤ 1048576 := by have h2 : bulkA a + 1 ≤ sumM bulkA X := hm; have h3 : bulkA a = 0 + 0 + (a.2.2.1.1.size + a.2.2.1.2.size + 2) + sumM bulkT a.2.2.2 + 4 := rfl; omega
  obtain ⟨At, ct, rfl, hnt, hT⟩ := txRow_sh hS hbt
  exact ⟨b, o, At, _, ct, rfl, huc 0 _ rfl, huc 1 _ rfl, huc 2 _ rfl, huc 3 _ rfl, huc 4 _ rfl, hnt, hT⟩
end
end Go.Proofs.Ytidlkomgondkiaa
