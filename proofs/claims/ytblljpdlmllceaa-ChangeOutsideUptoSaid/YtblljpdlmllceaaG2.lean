/-
  Texts of this seat in one: Shape, SpanOpen, SpanE, RefA, RefB, RefC, Still, Without, RefD, Pair, Only, PDelete, Copy.
-/
import Derived.Deep.Slices
import Derived.Lib.SmallJoins
import Derived.IntWalk
import Derived.Laws.CopyRow
import Derived.Lib.Overlaps
import Derived.Lib.AppendZerosOnto
import Derived.Test.YtblljpdlmllceaaG1
/-
  How incoming data reads: shapes (relations between cells and plain data), each opened from the row's tread; with its bulk.
-/
namespace Go.Proofs.Ytblljpdlmllceaa
open Go.ChangeShapes Go.WideShapes Go.ChangeAt Go.RowKit
set_option linter.unusedVariables false
/-- Cells of a value read as this. -/
abbrev Sh (α : Type) := World → List Value → α → Prop
def IntSh (k : IntKind) : Sh Int := fun _ cs n => cs = [.int k n] ∧ (Lit.int k n).wf = true
def BoolSh : Sh Bool := fun _ cs b => cs = [.bool b]
def StringSh : Sh ByteArray := fun _ cs s => cs = [.string s] ∧ s.size ≤ maxLen
def BytesSh : Sh (List UInt8) := fun w cs l => ∃ A c, cs = [.slice A l.length c] ∧ l.length ≤ c ∧ c ≤ maxLen ∧ (A = none → l.length = 0) ∧ Rd w 1 A l.length (bvs l)
def SliceSh {α : Type} (size : Nat) (R : Sh α) : Sh (List α) := fun w cs xs => ∃ A c, cs = [.slice A xs.length c] ∧ xs.length ≤ c ∧ c ≤ maxLen ∧ (A = none → xs.length = 0) ∧
  (0 < xs.length → ∃ b o, A = some ⟨b, o, none⟩ ∧ ∀ i x, xs[i]? = some x → ∃ us, us.length = size ∧ (∀ j u, us[j]? = some u → w.cell? ⟨b, o + i * size + j, none⟩ = some u) ∧ R w us x)
/-- The bulk of a list. -/
def sumM {α : Type} (m : α → Nat) : List α → Nat
  | [] => 0
  | x :: r => m x + 1 + sumM m r
theorem sumM_length {α : Type} (m : α → Nat) (l : List α) : l.length ≤ sumM m l := by
  induction l with
  | nil => exact Nat.le_refl _
  | cons x r ih => simp only [sumM, List.length_cons]; omega
theorem sumM_mem {α : Type} {m : α → Nat} {x : α} {l : List α} (h : x ∈ l) : m x + 1 ≤ sumM m l := by
  induction l with
  | nil => cases h
  | cons y r ih =>
    simp only [sumM]
    rcases List.mem_cons.1 h with rfl | h
    · omega
    · have := ih h; omega
section
variable {α : Type} {H : Type} {enc : TypeId × Value → H} {P : Program}
/-- Whatever comes in at this type reads so. -/
def Opens (enc : TypeId × Value → H) (P : Program) (t : TypeId) (R : Sh α) (m : α → Nat) : Prop :=
  ∀ (w : World) (base : Nat) (held : Bool) (fuel : Nat) (cs : List Value) (x : DataW H × List MemPlace), DataW.trod enc P w base (fun _ => true) held fuel t cs = some x → ∃ a, R w cs a ∧ m a + 1 ≤ Rows.uptoBulk x.1
theorem opens_int {t : TypeId} {k : IntKind} (ht : P.underlying t = some (.int k)) : Opens enc P t (IntSh k) (fun _ => 0) := by
  intro w base held fuel cs x h
  obtain ⟨n, rfl, rfl, hw⟩ := DataW.trod_int ht h
  exact ⟨n, ⟨rfl, hw⟩, bulk_one _⟩
theorem opens_bool {t : TypeId} (ht : P.underlying t = some .bool) : Opens enc P t BoolSh (fun _ => 0) := by
  intro w base held fuel cs x h
  obtain ⟨n, rfl, rfl⟩ := DataW.trod_bool ht h
  exact ⟨n, rfl, bulk_one _⟩
theorem opens_string {t : TypeId} (ht : P.underlying t = some .string) : Opens enc P t StringSh (fun s => s.size) := by
  intro w base held fuel cs x h
  obtain ⟨s, rfl, rfl, hw⟩ := DataW.trod_string ht h
  exact ⟨s, ⟨rfl, hw⟩, Nat.le_of_eq (by show s.data.size + 1 = s.data.toList.length + 1; rw [Array.length_toList])⟩
theorem bulk_range {D : Nat → DataW H} {f : Nat → α} {m : α → Nat} {k : Nat} (h : ∀ i, i < k → m (f i) + 1 ≤ Rows.uptoBulk (D i)) : sumM m ((List.range k).map f) ≤ Rows.uptoBulkAll ((List.range k).map D) := by
  have gen : ∀ (l : List Nat), (∀ i ∈ l, i < k) → sumM m (l.map f) ≤ Rows.uptoBulkAll (l.map D) := by
    intro l hl
    induction l with
    | nil => exact Nat.le_refl _
    | cons i l ih =>
      have h1 := h i (hl i (List.mem_cons_self ..))
      have h2 := ih fun j hj => hl j (List.mem_cons_of_mem _ hj)
      simp only [List.map_cons, sumM, Rows.uptoBulkAll]
      omega
  exact gen _ fun i hi => List.mem_range.1 hi
theorem opens_slice {t e : TypeId} {size : Nat} {R : Sh α} {m : α → Nat} [Inhabited α] (ht : P.underlying t = some (.slice e)) (hc : P.cellsOf e = size) (hpos : 0 < size) (hE : Opens enc P e R m) :
    Opens enc P t (SliceSh size R) (sumM m) := by
  intro w base held fuel cs x h
  rcases Go.Deep.open_slice ht h with ⟨rfl, rfl⟩ | ⟨a, len, cap, mm, n, D, Pl, rfl, hb, hl, hm, hmm, rfl, hx⟩
  · exact ⟨[], ⟨none, 0, rfl, Nat.le_refl _, Nat.zero_le _, fun _ => rfl, fun h => absurd h (by simp)⟩, by simp [Rows.uptoBulk, sumM]⟩
  · simp only [if_true] at hmm
    have hmm' := hmm.symm
    subst hmm'
    rw [hc] at hx
    have each : ∀ i, i < cap → ∃ y : α, ∃ us : List Value, us.length = size ∧ (∀ j, j < size → w.cell? ((a.add (i * size)).add j) = us[j]?) ∧ R w us y ∧ m y + 1 ≤ Rows.uptoBulk (D i) := by
      intro i hi
      obtain ⟨cs', h1, h2⟩ := hx i hi
      obtain ⟨_, hlen, hcell⟩ := World.cells?_some h1
      obtain ⟨y, hy, hby⟩ := hE _ _ _ _ _ _ h2
      exact ⟨y, cs', hlen, hcell, hy, hby⟩
    obtain ⟨f, hf⟩ := Go.Deep.choose_lt each
    have hlen : ((List.range len).map f).length = len := by simp
    refine ⟨(List.range len).map f, ⟨some a, cap, by rw [hlen], by rw [hlen]; exact hl, hm, by simp, fun h0 => ?_⟩, ?_⟩
    · rw [hlen] at h0
      obtain ⟨us0, hl0, hc0, _⟩ := hf 0 (by omega)
      have h00 := hc0 0 hpos
      rw [List.getElem?_eq_getElem (by omega)] at h00
      have hs := World.cell?_spot h00
      obtain ⟨xb, xo, xs⟩ := a
      have hs' : xs = none := by simpa [Addr.add] using hs
      subst hs'
      refine ⟨xb, xo, rfl, fun i x hx => ?_⟩
      have hi : i < len := by have := (List.getElem?_eq_some_iff.1 hx).1; simpa using this
      obtain ⟨us, hul, huc, hR, _⟩ := hf i (by omega)
      have hxi : x = f i := by simpa [hi] using hx.symm
      subst hxi
      refine ⟨us, hul, fun j u hj => ?_, hR⟩
      have hjs : j < size := by rw [← hul]; exact (List.getElem?_eq_some_iff.1 hj).1
      have := huc j hjs
      rw [add_plain, add_plain] at this
      rw [this, hj]
    · have h1 := bulk_range (D := D) (f := f) (m := m) (k := len) fun i hi => by obtain ⟨_, _, _, _, h⟩ := hf i (by omega); exact h
      simp only [Rows.uptoBulk]
      omega
theorem opens_bytes {t e : TypeId} (ht : P.underlying t = some (.slice e)) (he : P.underlying e = some (.int .u8)) (hc : P.cellsOf e = 1) : Opens enc P t BytesSh (fun l => l.length) := by
  intro w base held fuel cs x hf
  rcases open_ints ht he hc hf with ⟨rfl, rfl⟩ | ⟨a, len, cap, zs, rfl, _, hl, hm, hz, rfl, hcell, hwz⟩
  · exact ⟨[], ⟨none, 0, rfl, Nat.le_refl _, Nat.zero_le _, fun _ => rfl, Rd.nil _ _ _⟩, by simp [Rows.uptoBulk]⟩
  · simp only [if_true] at hz
    have hlen : ((zs.take len).map fun n => UInt8.ofNat n.toNat).length = len := by simp; omega
    refine ⟨(zs.take len).map fun n => UInt8.ofNat n.toNat, ⟨some a, cap, by rw [hlen], by rw [hlen]; exact hl, hm, by simp, ?_⟩, ?_⟩
    · obtain ⟨xb, xo, xs⟩ := a
      refine ⟨by rw [hlen]; simp [bvs]; omega, fun h0 => ?_⟩
      have hz0 : 0 < zs.length := by
        simp [bvs] at h0
        omega
      have hs := World.cell?_spot (hcell 0 hz0)
      have hs' : xs = none := by simpa [Addr.add] using hs
      subst hs'
      refine ⟨xb, xo, rfl, fun j u hu => ?_⟩
      have hj : j < len ∧ j < zs.length := by
        have := (List.getElem?_eq_some_iff.1 hu).1
        simp [bvs] at this
        omega
      have hc := hcell j hj.2
      rw [add_plain] at hc
      rw [hc]
      have hw : (Lit.int .u8 zs[j]).wf = true := hwz _ (List.getElem_mem hj.2)
      have hb : 0 ≤ zs[j] ∧ zs[j] ≤ 255 := by simpa [Lit.wf, IntKind.min, IntKind.max, IntKind.signed, IntKind.bits] using hw
      simp [bvs, hj.1, List.getElem?_eq_getElem hj.2, bv] at hu
      rw [← hu]
      simp [List.getD, List.getElem?_eq_getElem hj.2]
      omega
    · have h1 := bulk_length (H := H) (lits .u8 (zs.take len))
      simp only [Rows.uptoBulk]
      rw [show (lits .u8 (zs.take len) : List (DataW H)).length = len from by simp [lits]; omega] at h1
      rw [hlen]
      omega
/-- A struct's parts. -/
theorem opens_parts {t : TypeId} {fs : Array Field} (ht : P.underlying t = some (.struct fs)) {w : World} {base : Nat} {held : Bool} {fuel : Nat} {cs : List Value} {x : DataW H × List MemPlace}
    (h : DataW.trod enc P w base (fun _ => true) held fuel t cs = some x) :
    cs.length = P.cellsOf t ∧ ∃ ys : List (DataW H × List MemPlace), ys.length = fs.size ∧ x.1 = .agg (ys.map (·.1)) ∧ ∃ n, ∀ (i : Nat) (f : Field), fs[i]? = some f → DataW.trod enc P w base (fun _ => true) held n f.type ((cs.drop f.offset).take (P.cellsOf f.type)) = ys[i]? := by
  obtain ⟨xs, n, _, rfl, hl, hxl, hf⟩ := DataW.trod_struct ht h
  exact ⟨hl, xs, hxl, rfl, n, hf⟩
theorem opens_struct2 {β : Type} {t : TypeId} {f0 f1 : Field} {R0 : Sh α} {R1 : Sh β} {m0 : α → Nat} {m1 : β → Nat} (ht : P.underlying t = some (.struct #[f0, f1])) (hc : P.cellsOf t = 2) (ho : f0.offset = 0 ∧ f1.offset = 1)
    (hs : P.cellsOf f0.type = 1 ∧ P.cellsOf f1.type = 1) (h0 : Opens enc P f0.type R0 m0) (h1 : Opens enc P f1.type R1 m1) :
    Opens enc P t (fun w cs (a : α × β) => ∃ u0 u1, cs = [u0, u1] ∧ R0 w [u0] a.1 ∧ R1 w [u1] a.2) (fun a => m0 a.1 + m1 a.2 + 2) := by
  intro w base held fuel cs x h
  obtain ⟨hl, ys, hyl, hx, n, hf⟩ := opens_parts ht h
  rw [hc] at hl
  match cs, hl, ys, hyl with
  | [u0, u1], _, [y0, y1], _ =>
    have g0 := hf 0 f0 rfl
    have g1 := hf 1 f1 rfl
    simp [ho.1, ho.2, hs.1, hs.2] at g0 g1
    obtain ⟨a0, r0, b0⟩ := h0 _ _ _ _ _ _ g0
    obtain ⟨a1, r1, b1⟩ := h1 _ _ _ _ _ _ g1
    refine ⟨(a0, a1), ⟨u0, u1, rfl, r0, r1⟩, ?_⟩
    rw [hx]
    simp only [List.map_cons, List.map_nil, Rows.uptoBulk, Rows.uptoBulkAll]
    omega
theorem opens_struct3 {β γ : Type} {t : TypeId} {f0 f1 f2 : Field} {R0 : Sh α} {R1 : Sh β} {R2 : Sh γ} {m0 : α → Nat} {m1 : β → Nat} {m2 : γ → Nat} (ht : P.underlying t = some (.struct #[f0, f1, f2])) (hc : P.cellsOf t = 3)
    (ho : f0.offset = 0 ∧ f1.offset = 1 ∧ f2.offset = 2) (hs : P.cellsOf f0.type = 1 ∧ P.cellsOf f1.type = 1 ∧ P.cellsOf f2.type = 1) (h0 : Opens enc P f0.type R0 m0) (h1 : Opens enc P f1.type R1 m1) (h2 : Opens enc P f2.type R2 m2) :
    Opens enc P t (fun w cs (a : α × β × γ) => ∃ u0 u1 u2, cs = [u0, u1, u2] ∧ R0 w [u0] a.1 ∧ R1 w [u1] a.2.1 ∧ R2 w [u2] a.2.2) (fun a => m0 a.1 + m1 a.2.1 + m2 a.2.2 + 3) := by
  intro w base held fuel cs x h
  obtain ⟨hl, ys, hyl, hx, n, hf⟩ := opens_parts ht h
  rw [hc] at hl
  match cs, hl, ys, hyl with
  | [u0, u1, u2], _, [y0, y1, y2], _ =>
    have g0 := hf 0 f0 rfl
    have g1 := hf 1 f1 rfl
    have g2 := hf 2 f2 rfl
    simp [ho.1, ho.2.1, ho.2.2, hs.1, hs.2.1, hs.2.2] at g0 g1 g2
    obtain ⟨a0, r0, b0⟩ := h0 _ _ _ _ _ _ g0
    obtain ⟨a1, r1, b1⟩ := h1 _ _ _ _ _ _ g1
    obtain ⟨a2, r2, b2⟩ := h2 _ _ _ _ _ _ g2
    refine ⟨(a0, a1, a2), ⟨u0, u1, u2, rfl, r0, r1, r2⟩, ?_⟩
    rw [hx]
    simp only [List.map_cons, List.map_nil, Rows.uptoBulk, Rows.uptoBulkAll]
    omega
theorem opens_struct5 {β γ δ ε : Type} {t : TypeId} {f0 f1 f2 f3 f4 : Field} {R0 : Sh α} {R1 : Sh β} {R2 : Sh γ} {R3 : Sh δ} {R4 : Sh ε} {m0 : α → Nat} {m1 : β → Nat} {m2 : γ → Nat} {m3 : δ → Nat} {m4 : ε → Nat} (ht : P.underlying t = some (.struct #[f0, f1, f2, f3, f4])) (hc : P.cellsOf t = 5)
    (ho : f0.offset = 0 ∧ f1.offset = 1 ∧ f2.offset = 2 ∧ f3.offset = 3 ∧ f4.offset = 4) (hs : P.cellsOf f0.type = 1 ∧ P.cellsOf f1.type = 1 ∧ P.cellsOf f2.type = 1 ∧ P.cellsOf f3.type = 1 ∧ P.cellsOf f4.type = 1)
    (h0 : Opens enc P f0.type R0 m0) (h1 : Opens enc P f1.type R1 m1) (h2 : Opens enc P f2.type R2 m2) (h3 : Opens enc P f3.type R3 m3) (h4 : Opens enc P f4.type R4 m4) :
    Opens enc P t (fun w cs (a : α × β × γ × δ × ε) => ∃ u0 u1 u2 u3 u4, cs = [u0, u1, u2, u3, u4] ∧ R0 w [u0] a.1 ∧ R1 w [u1] a.2.1 ∧ R2 w [u2] a.2.2.1 ∧ R3 w [u3] a.2.2.2.1 ∧ R4 w [u4] a.2.2.2.2) (fun a => m0 a.1 + m1 a.2.1 + m2 a.2.2.1 + m3 a.2.2.2.1 + m4 a.2.2.2.2 + 5) := by
  intro w base held fuel cs x h
  obtain ⟨hl, ys, hyl, hx, n, hf⟩ := opens_parts ht h
  rw [hc] at hl
  match cs, hl, ys, hyl with
  | [u0, u1, u2, u3, u4], _, [y0, y1, y2, y3, y4], _ =>
    have g0 := hf 0 f0 rfl
    have g1 := hf 1 f1 rfl
    have g2 := hf 2 f2 rfl
    have g3 := hf 3 f3 rfl
    have g4 := hf 4 f4 rfl
    simp [ho.1, ho.2.1, ho.2.2.1, ho.2.2.2.1, ho.2.2.2.2, hs.1, hs.2.1, hs.2.2.1, hs.2.2.2.1, hs.2.2.2.2] at g0 g1 g2 g3 g4
    obtain ⟨a0, r0, b0⟩ := h0 _ _ _ _ _ _ g0
    obtain ⟨a1, r1, b1⟩ := h1 _ _ _ _ _ _ g1
    obtain ⟨a2, r2, b2⟩ := h2 _ _ _ _ _ _ g2
    obtain ⟨a3, r3, b3⟩ := h3 _ _ _ _ _ _ g3
    obtain ⟨a4, r4, b4⟩ := h4 _ _ _ _ _ _ g4
    refine ⟨(a0, a1, a2, a3, a4), ⟨u0, u1, u2, u3, u4, rfl, r0, r1, r2, r3, r4⟩, ?_⟩
    rw [hx]
    simp only [List.map_cons, List.map_nil, Rows.uptoBulk, Rows.uptoBulkAll]
    omega
/-- An argument that is a slice. -/
theorem open_sh {t e : TypeId} {W : World} {b base : Nat} {held : Bool} {r : Reach} {v : Value} {d : DataW H} {p : List MemPlace} {R : Sh α} {m : α → Nat} (hO : Opens enc P t R m) (ht : P.underlying t = some (.slice e))
    (hv : Value.okWide P W r base t v) (h : DataW.Trod enc P W b (fun _ => true) held t v d p) : ∃ a, R W [v] a ∧ m a + 1 ≤ Rows.uptoBulk d := by
  obtain ⟨a, len, cap, rfl⟩ := okWide_slice ht hv
  obtain ⟨fuel, hf⟩ := h
  exact hO _ _ _ _ _ _ hf
theorem SliceSh.at_ {size : Nat} {R : Sh α} {w : World} {A : Option Addr} {n c : Nat} {xs : List α} (h : SliceSh size R w [.slice A n c] xs) {i : Nat} {x : α} (hx : xs[i]? = some x) :
    n = xs.length ∧ ∃ b o, A = some ⟨b, o, none⟩ ∧ ∃ us, us.length = size ∧ (∀ j u, us[j]? = some u → w.cell? ⟨b, o + i * size + j, none⟩ = some u) ∧ R w us x := by
  obtain ⟨A', c', hv, _, _, _, hx'⟩ := h
  injection hv with hv
  injection hv with h1 h2 h3
  subst h1
  have hi := (List.getElem?_eq_some_iff.1 hx).1
  obtain ⟨b, o, rfl, he⟩ := hx' (by omega)
  exact ⟨h2, b, o, rfl, he i x hx⟩
end
end Go.Proofs.Ytblljpdlmllceaa
/-
  How spans come in as arguments; plain facts on texts.
-/
namespace Go.Proofs.Ytblljpdlmllceaa
open Go.ChangeShapes Go.WideShapes Go.ChangeAt Go.RowKit
set_option linter.unusedVariables false
set_option linter.unusedSimpArgs false
set_option maxRecDepth 20000
theorem slt_snoc0 (l : List UInt8) : l < l ++ [0] := by
  induction l with
  | nil => exact List.nil_lt_cons _ _
  | cons a l ih => rw [List.cons_append, List.cons_lt_cons_iff]; exact .inr ⟨rfl, ih⟩
theorem sno_between : ∀ (l m : List UInt8), l < m → ¬ m < l ++ [0]
  | [], [], h => by simp at h
  | [], b :: m, _ => by
    rw [List.nil_append, List.cons_lt_cons_iff]
    rintro (h | ⟨_, h⟩)
    · have := UInt8.toNat_lt b; simp [UInt8.lt_iff_toNat_lt] at h
    · simp at h
  | a :: l, [], h => by simp at h
  | a :: l, b :: m, h => by
    rw [List.cons_append, List.cons_lt_cons_iff]
    rw [List.cons_lt_cons_iff] at h
    rintro (h2 | ⟨rfl, h2⟩)
    · rcases h with h | ⟨rfl, _⟩
      · rw [UInt8.lt_iff_toNat_lt] at h h2; omega
      · rw [UInt8.lt_iff_toNat_lt] at h2; omega
    · rcases h with h | ⟨_, h⟩
      · rw [UInt8.lt_iff_toNat_lt] at h; omega
      · exact sno_between l m h h2
/-- what begins with l ++ [c] lies below l ++ [c + 1] -/
theorem pre_lt : ∀ (l : List UInt8) (c : UInt8) (m : List UInt8), c ≠ 255 → l ++ c :: m < l ++ [c + 1]
  | [], c, m, h => by
    rw [List.nil_append, List.nil_append, List.cons_lt_cons_iff]
    left
    have hc : c.toNat ≠ 255 := fun h2 => h (UInt8.toNat_inj.1 (by simpa using h2))
    have hl := c.toNat_lt
    rw [UInt8.lt_iff_toNat_lt, UInt8.toNat_add]
    show c.toNat < (c.toNat + 1) % 256
    omega
  | a :: l, c, m, h => by
    rw [List.cons_append, List.cons_append, List.cons_lt_cons_iff]
    exact .inr ⟨rfl, pre_lt l c m h⟩
theorem snext_lt (s : ByteArray) : s < s ++ ⟨#[0]⟩ := by
  show s.data.toList < (s ++ ⟨#[0]⟩ : ByteArray).data.toList
  rw [ByteArray.toList_data_append]; exact slt_snoc0 _
theorem snext_gap (s o : ByteArray) (h : s < o) : s ++ ⟨#[0]⟩ ≤ o := by
  have h1 : ¬ o < s ++ ⟨#[0]⟩ := by
    show ¬ o.data.toList < (s ++ ⟨#[0]⟩ : ByteArray).data.toList
    rw [ByteArray.toList_data_append]; exact sno_between _ _ h
  grind
section
variable {H : Type} {enc : TypeId × Value → H} {W : World} {b base : Nat} {held : Bool} {r : Reach}
theorem open_span {v : Value} {d : DataW H} {p : List MemPlace} (hv : Value.okWide Try.prog W r base 34 v) (h : DataW.Trod enc Try.prog W b (fun _ => true) held 34 v d p) :
    ∃ s : Spn, v = .agg #[.string s.1, .string s.2] ∧ s.1.size ≤ maxLen ∧ s.2.size ≤ maxLen := by
  obtain ⟨c0, c1, y0, y1, m, rfl, rfl, rfl, hy0, hy1⟩ := Joins.open_agg2 Try.underlying34 (by kernel_rfl) (by kernel_rfl) hv h
  obtain ⟨s0, e0, rfl, w0⟩ := DataW.trod_string Try.underlying9 hy0
  obtain ⟨s1, e1, rfl, w1⟩ := DataW.trod_string Try.underlying9 hy1
  simp at e0 e1
  subst e0 e1
  exact ⟨(s0, s1), rfl, w0, w1⟩
theorem opens_spans : Opens enc Try.prog 47 (SliceSh 2 (fun w cs (a : ByteArray × ByteArray) => ∃ u0 u1, cs = [u0, u1] ∧ StringSh w [u0] a.1 ∧ StringSh w [u1] a.2)) (sumM fun a => a.1.size + a.2.size + 2) :=
  opens_slice (size := 2) Try.underlying47 (by kernel_rfl) (by omega) (opens_struct2 Try.underlying34 (by kernel_rfl) ⟨rfl, rfl⟩ ⟨by kernel_rfl, by kernel_rfl⟩ (opens_string Try.underlying9) (opens_string Try.underlying9))
theorem open_spans {v : Value} {d : DataW H} {p : List MemPlace} (hv : Value.okWide Try.prog W r base 47 v) (h : DataW.Trod enc Try.prog W b (fun _ => true) held 47 v d p) :
    ∃ (A : Option Addr) (c : Nat) (L : List Spn), v = .slice A L.length c ∧ L.length ≤ c ∧ c ≤ maxLen ∧ (A = none → L.length = 0) ∧ Rd W 2 A L.length (srow L) := by
  obtain ⟨L, hL, _⟩ := open_sh opens_spans Try.underlying47 hv h
  obtain ⟨A, c, hv', hlc, hcm, hA, hx⟩ := hL
  injection hv' with hv'
  subst hv'
  refine ⟨A, c, L, rfl, hlc, hcm, hA, srow_len L, fun h0 => ?_⟩
  have h0' : 0 < L.length := by rw [srow_len] at h0; omega
  obtain ⟨bb, o, rfl, he⟩ := hx h0'
  refine ⟨bb, o, rfl, fun j u hu => ?_⟩
  have hj : j < L.length * 2 := by rw [← srow_len]; exact (List.getElem?_eq_some_iff.1 hu).1
  obtain ⟨s, hs⟩ : ∃ s, L[j / 2]? = some s := ⟨_, List.getElem?_eq_getElem (by omega)⟩
  obtain ⟨us, hul, huc, u0, u1, rfl, ⟨e0, _⟩, ⟨e1, _⟩⟩ := he (j / 2) s hs
  injection e0 with e0
  injection e1 with e1
  subst e0 e1
  rcases Nat.mod_two_eq_zero_or_one j with hm | hm
  · have e : j = j / 2 * 2 := by omega
    have h1 := srow_fst hs
    rw [← e, hu] at h1
    injection h1 with h1
    subst h1
    have := huc 0 _ rfl
    rw [Nat.add_zero, ← e] at this
    exact this
  · have e : j = j / 2 * 2 + 1 := by omega
    have h1 := srow_snd hs
    rw [← e, hu] at h1
    injection h1 with h1
    subst h1
    have := huc 1 _ rfl
    rw [Nat.add_assoc, ← e] at this
    exact this
end
end Go.Proofs.Ytblljpdlmllceaa
/-
  Has and Empty as a region meets them; the document's Has.
-/
namespace Go.Proofs.Ytblljpdlmllceaa
open Go.RowKit
set_option linter.unusedVariables false
set_option linter.unusedSimpArgs false
theorem later_step {w w1 : World} {p : Addr} {u : Value} (l : ∀ W, Later w W → W.cell? p = some u) (h : Later w w1) : ∀ W, Later w1 W → W.cell? p = some u := fun W hW => l W (h.trans hW)
theorem below_step {w w1 w2 : World} (h : Below w.heap.size w w1) (hb : Later w1 w2) : Below w.heap.size w w2 := h.trans (Below.mono hb h.size)
theorem has_b (s : Spn) (k : ByteArray) (c : Bool) (hc : c = true ↔ InS s k) (w : World) : Calls Try.prog 41 #[.agg #[.string s.1, .string s.2], .string k] w fun e w' => e = .returned (.bool c) ∧ Later w w' := by
  cases c with
  | true => exact (has_yes s.1 s.2 k w (hc.1 rfl)).mono fun e w' ⟨he, hw⟩ => ⟨he, by rw [hw]; exact (Below.refl _ _).alloc (Nat.le_refl _) _⟩
  | false => exact (has_no s.1 s.2 k w (fun h => by have := hc.2 h; cases this)).mono fun e w' ⟨he, hw⟩ => ⟨he, by rw [hw]; exact (Below.refl _ _).alloc (Nat.le_refl _) _⟩
theorem empty_b (s : Spn) (w : World) : Calls Try.prog 40 #[.agg #[.string s.1, .string s.2]] w fun e w' => e = .returned (.bool (decide (s.2 ≤ s.1))) ∧ Later w w' :=
  (empty_any s.1 s.2 w).mono fun e w' ⟨he, hw⟩ => ⟨he, by rw [hw]; exact (Below.refl _ _).alloc (Nat.le_refl _) _⟩
set_option maxHeartbeats 400000 in
theorem rhas_b (s : Spn) (k : ByteArray) (c : Bool) (hc : c = true ↔ InS s k) (w : World) : Calls Try.prog 28 #[.agg #[.string s.1, .string s.2], .string k] w fun e w' => e = .returned (.bool c) ∧ Later w w' := by
  have hin : InS s k ↔ s.1 ≤ k ∧ k < s.2 := Iff.rfl
  rw [hin] at hc
  clear hin
  by_cases h : k < s.1
  · obtain rfl : c = false := by rw [Bool.eq_false_iff]; intro h2; have := (hc.1 h2).1; grind
    have h1 : Op.bytesLess k.toList s.1.toList = true := by rw [bl]; simpa
    clear h hc
    go_enter Try.func28, Try.ntmps28
    go_wp2
    go_ret
    exact ⟨rfl, (Below.refl _ _).alloc (Nat.le_refl _) _⟩
  · have h1 : Op.bytesLess k.toList s.1.toList = false := by rw [bl]; simpa
    by_cases h2 : k < s.2
    · obtain rfl : c = true := hc.2 ⟨by grind, h2⟩
      have h3 : Op.bytesLess k.toList s.2.toList = true := by rw [bl]; simpa
      clear h h2 hc
      go_enter Try.func28, Try.ntmps28
      go_wp2
      go_ret
      exact ⟨rfl, (Below.refl _ _).alloc (Nat.le_refl _) _⟩
    · obtain rfl : c = false := by rw [Bool.eq_false_iff]; intro h3; exact h2 (hc.1 h3).2
      have h3 : Op.bytesLess k.toList s.2.toList = false := by rw [bl]; simpa
      clear h h2 hc
      go_enter Try.func28, Try.ntmps28
      go_wp2
      go_ret
      exact ⟨rfl, (Below.refl _ _).alloc (Nat.le_refl _) _⟩
theorem stoList_inj (a b : ByteArray) : a.toList = b.toList ↔ a = b := by
  rw [Lib.toList_data, Lib.toList_data]
  exact ⟨ba_ext, fun h => by rw [h]⟩
/-- '==' of two spans. -/
theorem eq_span (x y : Spn) (W : World) : (binOp .eql 34 (.agg #[.string x.1, .string x.2]) (.agg #[.string y.1, .string y.2])).run Try.prog W = .ok (.bool (decide (x = y))) W := by
  have hS : Try.prog.underlying 34 = some (.struct (Try.prog.fieldsOf 34)) := by kernel_rfl
  have hp : Try.prog.stoodInHeld 34 = false := by kernel_rfl
  rw [run_eql_struct, show (10000 : Nat) = 9999 + 1 from rfl, run_equalIn_agg W 9999 34 _ _ hS hp]
  simp only [Program.fieldsOf, Try.underlying34]
  go_simp
  simp only [stoList_inj]
  obtain ⟨x1, x2⟩ := x
  obtain ⟨y1, y2⟩ := y
  by_cases h1 : x1 = y1 <;> by_cases h2 : x2 = y2 <;> simp [h1, h2]
theorem neq_span (x y : Spn) (W : World) : (binOp .neq 34 (.agg #[.string x.1, .string x.2]) (.agg #[.string y.1, .string y.2])).run Try.prog W = .ok (.bool (!decide (x = y))) W := by
  have hS : Try.prog.underlying 34 = some (.struct (Try.prog.fieldsOf 34)) := by kernel_rfl
  have hp : Try.prog.stoodInHeld 34 = false := by kernel_rfl
  rw [run_neq_struct, show (10000 : Nat) = 9999 + 1 from rfl, run_equalIn_agg W 9999 34 _ _ hS hp]
  simp only [Program.fieldsOf, Try.underlying34]
  go_simp
  simp only [stoList_inj]
  obtain ⟨x1, x2⟩ := x
  obtain ⟨y1, y2⟩ := y
  by_cases h1 : x1 = y1 <;> by_cases h2 : x2 = y2 <;> simp [h1, h2]
theorem guard_span (op : BinOp) (x y : Operand) (xs ys : Array Value) (W : World) : (eqGuard op 34 x y (.agg xs) (.agg ys)).run Try.prog W = .ok () W := run_eqGuard_agg W op 34 x y xs ys (by kernel_rfl)
theorem inS_dec (s : Spn) (k : ByteArray) : ∃ c : Bool, c = true ↔ InS s k := by
  by_cases h : InS s k
  · exact ⟨true, by simp [h]⟩
  · exact ⟨false, by simp [h]⟩
end Go.Proofs.Ytblljpdlmllceaa
/-
  The document's answer: Same, in, Insert.
-/
namespace Go.Proofs.Ytblljpdlmllceaa
open Go.RowKit
set_option linter.unusedVariables false
set_option linter.unusedSimpArgs false
set_option maxHeartbeats 1000000 in
theorem same_yes {w : World} {A A' : Option Addr} {n c c' : Nat} {L : List Spn} (hr : Rd w 2 A n (srow L)) (hr' : Rd w 2 A' n (srow L)) (hl : L.length = n) (hn : n ≤ 4398046511104) :
    Calls Try.prog 26 #[.slice A n c, .slice A' n c'] w fun e w' => e = .returned (.bool true) ∧ Later w w' := by
  have HR := hide_ hr
  have HR' := hide_ hr'
  have HL := hide_ hl
  have hn2 : (n : Int) ≤ 4398046511104 := by omega
  clear hr hr' hl
  go_enter Try.func26, Try.ntmps26
  go_wp2_with fail
  go_loopw [5] (fun s5 wr => ∃ k : Nat, k ≤ n ∧ s5 = .int .i64 k ∧ Hid (Later w wr)) (fun i _ => n - (intOf i).toNat)
  case atStart => exact ⟨0, Nat.zero_le _, rfl, Later.refl w⟩
  case round =>
    obtain ⟨k, hk, rfl, HB⟩ := hrel
    by_cases hlt : k < n
    · have q1 : (k : Int) < (n : Int) := by omega
      have q2 : (k : Int) ≤ 4398046511104 := by omega
      obtain ⟨s, hs⟩ : ∃ s, L[k]? = some s := ⟨_, List.getElem?_eq_getElem (by rw [HL.out]; exact hlt)⟩
      obtain ⟨b, o, rfl, c1, c2⟩ := (HR.out.below HB.out).span hs
      obtain ⟨b', o', rfl, c3, c4⟩ := (HR'.out.below HB.out).span hs
      have e1 := fun W => neq_span s s W
      simp only [decide_true, Bool.not_true] at e1
      have e2 := guard_span
      clear hs
      go_wp2_with fail
      go_quiet (fail)
      go_wp2_with fail
      go_roundw
      case rel => exact ⟨k + 1, by omega, by go_num, below_drewN HB.out _⟩
      case measure => simp [intOf]; omega
    · go_wp2_with fail
      go_ret
      exact ⟨rfl, HB.out⟩
set_option maxHeartbeats 1000000 in
theorem in_any {w : World} {A : Option Addr} {n c : Nat} {L : List Spn} (x : ByteArray) (hr : Rd w 2 A n (srow L)) (hl : L.length = n) (hn : n ≤ 4398046511104) :
    Calls Try.prog 66 #[.slice A n c, .string x] w fun e w' => (∃ r : Bool, e = .returned (.bool r) ∧ (r = true ↔ InL L x)) ∧ Later w w' := by
  have HR := hide_ hr
  have HL := hide_ hl
  have hn2 : (n : Int) ≤ 4398046511104 := by omega
  clear hr hl
  go_enter Try.func66, Try.ntmps66
  go_wp2_with fail
  go_loopw [5] (fun s5 wr => ∃ k : Nat, k ≤ n ∧ s5 = .int .i64 k ∧ Hid (Later w wr) ∧ Hid (¬ InL (L.take k) x)) (fun i _ => n - (intOf i).toNat)
  case atStart => exact ⟨0, Nat.zero_le _, rfl, Later.refl w, hide_ (by simpa using InL.nil)⟩
  case round =>
    obtain ⟨k, hk, rfl, HB, HI⟩ := hrel
    by_cases hlt : k < n
    · have q1 : (k : Int) < (n : Int) := by omega
      have q2 : (k : Int) ≤ 4398046511104 := by omega
      obtain ⟨s, hs⟩ : ∃ s, L[k]? = some s := ⟨_, List.getElem?_eq_getElem (by rw [HL.out]; exact hlt)⟩
      obtain ⟨b, o, rfl, c1, c2⟩ := (HR.out.below HB.out).span hs
      have HS := hide_ hs
      have HT := hide_ (take_next hs)
      clear hs
      by_cases hin : InS s x
      · have hh := fun W => rhas_b s x true (by simp [hin]) W
        have HIN := hide_ hin
        clear hin
        go_wp2_with (go_at_call 28; refine (hh _).mono ?_; rintro e w1 ⟨rfl, hb1⟩; have HB1 := hide_ (HB.out.trans hb1); clear hb1)
        go_ret
        exact ⟨⟨true, rfl, by simp; exact ⟨s, List.mem_of_getElem? HS.out, HIN.out⟩⟩, HB1.out⟩
      · have hh := fun W => rhas_b s x false (by simp [hin]) W
        have HIN := hide_ hin
        clear hin
        go_wp2_with (go_at_call 28; refine (hh _).mono ?_; rintro e w1 ⟨rfl, hb1⟩; have HB1 := hide_ (Later.trans HB.out hb1); clear hb1)
        go_roundw
        case rel => exact ⟨k + 1, by omega, by go_num, HB1.out, by rw [HT.out, inl_snoc]; intro h; rcases h with h | h; exact HI.out h; exact HIN.out h⟩
        case measure => simp [intOf]; omega
    · have hkn : k = n := by omega
      have HI2 := hide_ (show ¬ InL L x by have := HI.out; rw [hkn, ← HL.out, List.take_length] at this; exact this)
      clear hkn
      go_wp2_with fail
      go_ret
      exact ⟨⟨false, rfl, by simp; exact HI2.out⟩, HB.out⟩
/-- Texts in memory. -/
def strs (L : List ByteArray) : List Value := L.map Value.string
theorem strs_len (L : List ByteArray) : (strs L).length = L.length := List.length_map _
theorem strs_one (L : List ByteArray) : ∀ u ∈ strs L, u.oneCell' = true := by
  intro u hu
  obtain ⟨x, _, rfl⟩ := List.mem_map.1 hu
  rfl
theorem stringT : ElemT Try.prog 86 9 1 16 := elem_mk (z := .string ByteArray.empty) Try.underlying86 (by kernel_rfl) rfl (by decide)
theorem Rd.str {w : World} {A : Option Addr} {n : Nat} {L : List ByteArray} (h : Rd w 1 A n (strs L)) {i : Nat} {s : ByteArray} (hi : L[i]? = some s) : ∃ b o, A = some ⟨b, o, none⟩ ∧ w.cell? ⟨b, o + i, none⟩ = some (.string s) := by
  have h1 : (strs L)[i]? = some (.string s) := by simp [strs, hi]
  obtain ⟨b, o, e, hc⟩ := h.2 (by have := (List.getElem?_eq_some_iff.1 h1).1; omega)
  exact ⟨b, o, e, hc _ _ h1⟩
/-- A text among rising ones. -/
def InsOf (L : List ByteArray) (s : ByteArray) (L' : List ByteArray) : Prop := (Up L → Up L') ∧ ∀ t, t ∈ L' ↔ t ∈ L ∨ t = s
theorem ins_same {L : List ByteArray} {s : ByteArray} {k : Nat} (h : L[k]? = some s) : InsOf L s L :=
  ⟨id, fun t => ⟨.inl, fun h2 => by rcases h2 with h2 | rfl; exact h2; exact List.mem_of_getElem? h⟩⟩
theorem ins_new {L : List ByteArray} {s : ByteArray} {k : Nat} (h1 : ∀ (j : Nat) t, j < k → L[j]? = some t → t < s) (h2 : ∀ t, L[k]? = some t → s < t) : InsOf L s (L.take k ++ [s] ++ L.drop k) := by
  refine ⟨fun hu => ?_, fun t => ?_⟩
  · have hu2 : Up (L.take k ++ L.drop k) := by rw [List.take_append_drop]; exact hu
    refine up_insert hu2 (fun t ht => ?_) fun t ht => ?_
    · obtain ⟨j, hj⟩ := List.getElem?_of_mem ht
      rw [List.getElem?_take] at hj
      split at hj
      · rename_i hjk; exact h1 j t hjk hj
      · cases hj
    · rw [Up.append] at hu2
      cases hd : L.drop k with
      | nil => rw [hd] at ht; cases ht
      | cons a M =>
        rw [hd] at ht hu2
        have ha : L[k]? = some a := by
          have := congrArg (fun l => l[0]?) hd
          simpa using this
        have := h2 a ha
        rcases List.mem_cons.1 ht with rfl | ht
        · exact this
        · have := hu2.2.1.1 t ht; grind
  · conv => rhs; rw [← List.take_append_drop k L]
    simp only [List.mem_append, List.mem_singleton]
    constructor
    · rintro ((h | h) | h)
      · exact .inl (.inl h)
      · exact .inr h
      · exact .inl (.inr h)
    · rintro ((h | h) | h)
      · exact .inl (.inl h)
      · exact .inr h
      · exact .inl (.inr h)
/-- What Insert leaves. -/
def InsPost (B n : Nat) (L : List ByteArray) (s : ByteArray) (w : World) (e : Ending) (w' : World) : Prop :=
  (∃ (v : Value) (L' : List ByteArray) (n' : Nat), e = .returned v ∧ L'.length = n' ∧ n' ≤ n + 1 ∧ InsOf L s L' ∧ w'.ownsRow B 9 1 v n' (strs L')) ∧ Later w w'
set_option maxHeartbeats 2000000 in
theorem insert_any {w : World} {B n c : Nat} {A : Option Addr} {L : List ByteArray} (s : ByteArray) (ho : w.ownsRow B 9 1 (.slice A n c) n (strs L)) (hn : n ≤ 1099511627776) (hBw : B ≤ w.heap.size) :
    Calls Try.prog 78 #[.slice A n c, .string s] w (InsPost B n L s w) := by
  have HO := hide_ ho
  have HR := hide_ (Rd.of_own ho)
  have hl : L.length = n := by have := ho.1; rw [strs_len] at this; omega
  have HL := hide_ hl
  have hcap := own_cap ho
  have hcap2 : (n : Int) ≤ (c : Int) := by omega
  have hn2 : (n : Int) ≤ 1099511627776 := by omega
  have HA := hide_ (own_nil ho)
  clear ho hl
  go_enter Try.func78, Try.ntmps78
  go_wp2_with fail
  go_loop [5] (fun s5 => ∃ k : Nat, k ≤ n ∧ s5 = .int .i64 k ∧ Hid (∀ (j : Nat) t, j < k → L[j]? = some t → t < s)) (fun i => n - (intOf i).toNat)
  case atStart => exact ⟨0, Nat.zero_le _, rfl, fun j t hj => absurd hj (Nat.not_lt_zero _)⟩
  case round =>
    obtain ⟨k, hk, rfl, HI⟩ := hrel
    have q0 : (0 : Int) ≤ (k : Int) := by omega
    have q2 : (k : Int) ≤ 1099511627776 := by omega
    by_cases hlt : k < n
    · have q1 : (k : Int) < (n : Int) := by omega
      obtain ⟨t, ht⟩ : ∃ t, L[k]? = some t := ⟨_, List.getElem?_eq_getElem (by rw [HL.out]; exact hlt)⟩
      obtain ⟨b, o, rfl, c1⟩ := HR.out.str ht
      have HT := hide_ ht
      clear ht
      rcases (show t < s ∨ t = s ∨ s < t by grind) with hc | hc | hc
      · have f1 : Op.bytesLess t.toList s.toList = true := by rw [bl]; simpa
        have HC := hide_ hc
        clear hc
        go_wp2_with fail
        go_round
        case rel =>
          refine ⟨k + 1, by omega, by go_num, fun j u hj hu => ?_⟩
          by_cases hjk : j = k
          · subst hjk
            have h1 := HT.out
            rw [h1] at hu
            injection hu with hu
            subst hu
            exact HC.out
          · exact HI.out j u (by omega) hu
        case measure => simp [intOf]; omega
      · subst hc
        have f1 : Op.bytesLess t.toList t.toList = false := by rw [bl, decide_eq_false (by grind)]
        go_wp2_with fail
        go_ret
        exact ⟨⟨_, L, n, rfl, HL.out, by omega, ins_same HT.out, HO.out⟩, Later.refl w⟩
      · have f1 : Op.bytesLess t.toList s.toList = false := by rw [bl]; simp; grind
        have f2 : (t.toList == s.toList) = false := by rw [beq_ba]; simp; rintro rfl; grind
        have HN := hide_ (ins_new (k := k) HI.out fun u hu => by have h1 := HT.out; rw [h1] at hu; injection hu with hu; subst hu; exact hc)
        have HRT := hide_ (show Rd w 1 (some ⟨b, o, none⟩) k (strs (L.take k)) by have := HR.out.take hk; rw [Nat.mul_one] at this; simpa [strs, List.map_take] using this)
        have HNK := hide_ (show (some ⟨b, o, none⟩ : Option Addr) = none → k = 0 from fun h => nomatch h)
        have i5 : ¬ c = k := by omega
        have i6 : (k : Int) ≤ (c : Int) := by omega
        have i7 : k ≤ c := by omega
        have i8 : (k : Int) ≤ (n : Int) := by omega
        have HRC := hide_ (show Rd w 1 (some ⟨b, o + k, none⟩) (n - k) (strs (L.drop k)) by
          have := Rd.cut HR.out (k := k) (cap := c) hk hcap
          simp only [i5, if_false, Option.map_some, add_plain, Nat.mul_one] at this
          simpa [strs, List.map_drop] using this)
        have HNC := hide_ (show (some ⟨b, o + k, none⟩ : Option Addr) = none → n - k = 0 from fun h => nomatch h)
        clear hc
        go_wp2_with (first | (at_builtin; (refine wpList_append_rd _ rfl (.tmp 34) (.tmp 37) 86 rfl w.heap.size 9 1 16 stringT _ 0 [] rfl (own_new w #[] 9 1 0 w.heap.size rfl (Nat.zero_le _) (Nat.le_refl _)) _ k _ (strs (L.take k)) rfl (HRT.out.alloc _) (strs_one _) (by omega) (by unfold maxLen; omega) (by simp) HNK.out ?_; intro v2 w2 ho2 hg2 hat2; have hb2 := own_grown ((Below.refl w.heap.size w).alloc (Nat.le_refl _) _) (own_new w #[] 9 1 0 w.heap.size rfl (Nat.zero_le _) (Nat.le_refl _)) hg2 (by simp); obtain ⟨A2, c2, rfl⟩ := own_form ho2; simp only [Nat.zero_add, List.nil_append] at ho2; have HO2 := hide_ ho2; have HB2 := hide_ hb2; clear ho2 hb2 hg2 hat2)) | (at_builtin; (refine wpList_append_rd _ rfl (.tmp 39) (.tmp 41) 86 rfl w.heap.size 9 1 16 stringT _ k (strs (L.take k)) rfl (HO2.out.alloc _) _ 1 _ [Value.string s] rfl (Rd.newAt _ #[.string s] 9 1 1 _ (0, 0) rfl rfl) (by intro u hu; simp at hu; subst hu; rfl) (by omega) (by unfold maxLen; omega) (by have := HB2.out.size; simp; omega) (fun h => nomatch h) ?_; intro v3 w3 ho3 hg3 hat3; have hb3 := own_grown (HB2.out.alloc HB2.out.size _) (HO2.out.alloc _) hg3 (by have := HB2.out.size; simp; omega); obtain ⟨A3, c3, rfl⟩ := own_form ho3; have HO3 := hide_ ho3; have HB3 := hide_ hb3; clear ho3 hb3 hg3 hat3)) | (at_builtin; (refine wpList_append_rd _ rfl (.tmp 43) (.tmp 46) 86 rfl w.heap.size 9 1 16 stringT _ (k + 1) (strs (L.take k) ++ [Value.string s]) rfl HO3.out _ (n - k) _ (strs (L.drop k)) rfl (HRC.out.below HB3.out) (strs_one _) (by omega) (by unfold maxLen; omega) HB3.out.size HNC.out ?_; intro v4 w4 ho4 hg4 hat4; have hb4 := own_grown HB3.out HO3.out hg4 HB3.out.size; have HO4 := hide_ ho4; have HB4 := hide_ hb4; clear ho4 hb4 hg4 hat4)))
        go_ret
        have h4 := own_base HO4.out hBw
        exact ⟨⟨_, L.take k ++ [s] ++ L.drop k, k + 1 + (n - k), rfl, by have := HL.out; simp; omega, by omega, HN.out, by simpa [strs] using h4⟩, HB4.out⟩
    · have hkn : k = n := by omega
      have HN := hide_ (ins_new (k := k) HI.out fun u hu => by have := (List.getElem?_eq_some_iff.1 hu).1; have := HL.out; omega)
      have HRT := hide_ (show Rd w 1 A k (strs (L.take k)) by have := HR.out.take hk; rw [Nat.mul_one] at this; simpa [strs, List.map_take] using this)
      have i6 : (k : Int) ≤ (c : Int) := by omega
      have i7 : k ≤ c := by omega
      have i8 : (k : Int) ≤ (n : Int) := by omega
      have HRC1 := hide_ (Rd.cut HR.out (k := k) (cap := c) hk hcap)
      have hd0 : strs (L.drop k) = [] := by rw [List.drop_of_length_le (by rw [HL.out]; omega)]; rfl
      have HD0 := hide_ hd0
      have HKN := hide_ hkn
      clear hd0 hkn
      have hge : ¬ (k : Int) < (n : Int) := by omega
      rcases sown_cases HO.out with ⟨rfl, hn0, hc0, _⟩ | ⟨g, rfl⟩
      · have HNK := hide_ (show (none : Option Addr) = none → k = 0 from fun _ => by omega)
        have HNC := hide_ (show (none : Option Addr) = none → n - k = 0 from fun _ => by omega)
        have HRC := hide_ (show Rd w 1 none (n - k) (strs (L.drop k)) by rw [HD0.out, show n - k = 0 from by omega]; exact Rd.nil _ _ _)
        have i5 : c = k := by omega
        obtain rfl : k = 0 := by omega
        subst hn0 hc0
        go_wp2_with (first | (at_builtin; (refine wpList_append_rd _ rfl (.tmp 34) (.tmp 37) 86 rfl w.heap.size 9 1 16 stringT _ 0 [] rfl (own_new w #[] 9 1 0 w.heap.size rfl (Nat.zero_le _) (Nat.le_refl _)) _ 0 _ (strs (L.take 0)) rfl (HRT.out.alloc _) (strs_one _) (by omega) (by unfold maxLen; omega) (by simp) HNK.out ?_; intro v2 w2 ho2 hg2 hat2; have hb2 := own_grown ((Below.refl w.heap.size w).alloc (Nat.le_refl _) _) (own_new w #[] 9 1 0 w.heap.size rfl (Nat.zero_le _) (Nat.le_refl _)) hg2 (by simp); obtain ⟨A2, c2, rfl⟩ := own_form ho2; simp only [Nat.zero_add, List.nil_append] at ho2; have HO2 := hide_ ho2; have HB2 := hide_ hb2; clear ho2 hb2 hg2 hat2)) | (at_builtin; (refine wpList_append_rd _ rfl (.tmp 39) (.tmp 41) 86 rfl w.heap.size 9 1 16 stringT _ 0 (strs (L.take 0)) rfl (HO2.out.alloc _) _ 1 _ [Value.string s] rfl (Rd.newAt _ #[.string s] 9 1 1 _ (0, 0) rfl rfl) (by intro u hu; simp at hu; subst hu; rfl) (by omega) (by unfold maxLen; omega) (by have := HB2.out.size; simp; omega) (fun h => nomatch h) ?_; intro v3 w3 ho3 hg3 hat3; have hb3 := own_grown (HB2.out.alloc HB2.out.size _) (HO2.out.alloc _) hg3 (by have := HB2.out.size; simp; omega); obtain ⟨A3, c3, rfl⟩ := own_form ho3; have HO3 := hide_ ho3; have HB3 := hide_ hb3; clear ho3 hb3 hg3 hat3)) | (at_builtin; (refine wpList_append_rd _ rfl (.tmp 43) (.tmp 46) 86 rfl w.heap.size 9 1 16 stringT _ (0 + 1) (strs (L.take 0) ++ [Value.string s]) rfl HO3.out _ (0 - 0) _ (strs (L.drop 0)) rfl (HRC.out.below HB3.out) (strs_one _) (by omega) (by unfold maxLen; omega) HB3.out.size HNC.out ?_; intro v4 w4 ho4 hg4 hat4; have hb4 := own_grown HB3.out HO3.out hg4 HB3.out.size; have HO4 := hide_ ho4; have HB4 := hide_ hb4; clear ho4 hb4 hg4 hat4)))
        go_ret
        have h4 := own_base HO4.out hBw
        exact ⟨⟨_, L.take 0 ++ [s] ++ L.drop 0, 0 + 1 + (0 - 0), rfl, by rw [List.eq_nil_of_length_eq_zero HL.out]; rfl, by omega, HN.out, by simpa [strs] using h4⟩, HB4.out⟩
      · have HNK := hide_ (show (some ⟨g, 0, none⟩ : Option Addr) = none → k = 0 from fun h => nomatch h)
        by_cases i5 : c = k
        · have HRC := hide_ (show Rd w 1 (some ⟨g, 0, none⟩) (n - k) (strs (L.drop k)) by have := HRC1.out; rw [if_pos i5] at this; simpa [strs, List.map_drop] using this)
          have HNC := hide_ (show (some ⟨g, 0, none⟩ : Option Addr) = none → n - k = 0 from fun h => nomatch h)
          go_wp2_with (first | (at_builtin; (refine wpList_append_rd _ rfl (.tmp 34) (.tmp 37) 86 rfl w.heap.size 9 1 16 stringT _ 0 [] rfl (own_new w #[] 9 1 0 w.heap.size rfl (Nat.zero_le _) (Nat.le_refl _)) _ k _ (strs (L.take k)) rfl (HRT.out.alloc _) (strs_one _) (by omega) (by unfold maxLen; omega) (by simp) HNK.out ?_; intro v2 w2 ho2 hg2 hat2; have hb2 := own_grown ((Below.refl w.heap.size w).alloc (Nat.le_refl _) _) (own_new w #[] 9 1 0 w.heap.size rfl (Nat.zero_le _) (Nat.le_refl _)) hg2 (by simp); obtain ⟨A2, c2, rfl⟩ := own_form ho2; simp only [Nat.zero_add, List.nil_append] at ho2; have HO2 := hide_ ho2; have HB2 := hide_ hb2; clear ho2 hb2 hg2 hat2)) | (at_builtin; (refine wpList_append_rd _ rfl (.tmp 39) (.tmp 41) 86 rfl w.heap.size 9 1 16 stringT _ k (strs (L.take k)) rfl (HO2.out.alloc _) _ 1 _ [Value.string s] rfl (Rd.newAt _ #[.string s] 9 1 1 _ (0, 0) rfl rfl) (by intro u hu; simp at hu; subst hu; rfl) (by omega) (by unfold maxLen; omega) (by have := HB2.out.size; simp; omega) (fun h => nomatch h) ?_; intro v3 w3 ho3 hg3 hat3; have hb3 := own_grown (HB2.out.alloc HB2.out.size _) (HO2.out.alloc _) hg3 (by have := HB2.out.size; simp; omega); obtain ⟨A3, c3, rfl⟩ := own_form ho3; have HO3 := hide_ ho3; have HB3 := hide_ hb3; clear ho3 hb3 hg3 hat3)) | (at_builtin; (refine wpList_append_rd _ rfl (.tmp 43) (.tmp 46) 86 rfl w.heap.size 9 1 16 stringT _ (k + 1) (strs (L.take k) ++ [Value.string s]) rfl HO3.out _ (n - k) _ (strs (L.drop k)) rfl (HRC.out.below HB3.out) (strs_one _) (by omega) (by unfold maxLen; omega) HB3.out.size HNC.out ?_; intro v4 w4 ho4 hg4 hat4; have hb4 := own_grown HB3.out HO3.out hg4 HB3.out.size; have HO4 := hide_ ho4; have HB4 := hide_ hb4; clear ho4 hb4 hg4 hat4)))
          go_ret
          have h4 := own_base HO4.out hBw
          exact ⟨⟨_, L.take k ++ [s] ++ L.drop k, k + 1 + (n - k), rfl, by have := HL.out; simp; omega, by omega, HN.out, by simpa [strs] using h4⟩, HB4.out⟩
        · have HRC := hide_ (show Rd w 1 (some ⟨g, 0 + k, none⟩) (n - k) (strs (L.drop k)) by
            have := HRC1.out
            simp only [i5, if_false, Option.map_some, add_plain, Nat.mul_one] at this
            simpa [strs, List.map_drop] using this)
          simp only [Nat.zero_add] at HRC
          have HNC := hide_ (show (some ⟨g, k, none⟩ : Option Addr) = none → n - k = 0 from fun h => nomatch h)
          go_wp2_with (first | (at_builtin; (refine wpList_append_rd _ rfl (.tmp 34) (.tmp 37) 86 rfl w.heap.size 9 1 16 stringT _ 0 [] rfl (own_new w #[] 9 1 0 w.heap.size rfl (Nat.zero_le _) (Nat.le_refl _)) _ k _ (strs (L.take k)) rfl (HRT.out.alloc _) (strs_one _) (by omega) (by unfold maxLen; omega) (by simp) HNK.out ?_; intro v2 w2 ho2 hg2 hat2; have hb2 := own_grown ((Below.refl w.heap.size w).alloc (Nat.le_refl _) _) (own_new w #[] 9 1 0 w.heap.size rfl (Nat.zero_le _) (Nat.le_refl _)) hg2 (by simp); obtain ⟨A2, c2, rfl⟩ := own_form ho2; simp only [Nat.zero_add, List.nil_append] at ho2; have HO2 := hide_ ho2; have HB2 := hide_ hb2; clear ho2 hb2 hg2 hat2)) | (at_builtin; (refine wpList_append_rd _ rfl (.tmp 39) (.tmp 41) 86 rfl w.heap.size 9 1 16 stringT _ k (strs (L.take k)) rfl (HO2.out.alloc _) _ 1 _ [Value.string s] rfl (Rd.newAt _ #[.string s] 9 1 1 _ (0, 0) rfl rfl) (by intro u hu; simp at hu; subst hu; rfl) (by omega) (by unfold maxLen; omega) (by have := HB2.out.size; simp; omega) (fun h => nomatch h) ?_; intro v3 w3 ho3 hg3 hat3; have hb3 := own_grown (HB2.out.alloc HB2.out.size _) (HO2.out.alloc _) hg3 (by have := HB2.out.size; simp; omega); obtain ⟨A3, c3, rfl⟩ := own_form ho3; have HO3 := hide_ ho3; have HB3 := hide_ hb3; clear ho3 hb3 hg3 hat3)) | (at_builtin; (refine wpList_append_rd _ rfl (.tmp 43) (.tmp 46) 86 rfl w.heap.size 9 1 16 stringT _ (k + 1) (strs (L.take k) ++ [Value.string s]) rfl HO3.out _ (n - k) _ (strs (L.drop k)) rfl (HRC.out.below HB3.out) (strs_one _) (by omega) (by unfold maxLen; omega) HB3.out.size HNC.out ?_; intro v4 w4 ho4 hg4 hat4; have hb4 := own_grown HB3.out HO3.out hg4 HB3.out.size; have HO4 := hide_ ho4; have HB4 := hide_ hb4; clear ho4 hb4 hg4 hat4)))
          go_ret
          have h4 := own_base HO4.out hBw
          exact ⟨⟨_, L.take k ++ [s] ++ L.drop k, k + 1 + (n - k), rfl, by have := HL.out; simp; omega, by omega, HN.out, by simpa [strs] using h4⟩, HB4.out⟩
end Go.Proofs.Ytblljpdlmllceaa
/-
  The document's answer: ends.
-/
namespace Go.Proofs.Ytblljpdlmllceaa
open Go.RowKit
set_option linter.unusedVariables false
set_option linter.unusedSimpArgs false
/-- All ends, rising, each once. -/
def EndsOf (L : List Spn) (E : List ByteArray) : Prop := Up E ∧ ∀ t, t ∈ E ↔ ∃ s, s ∈ L ∧ (t = s.1 ∨ t = s.2)
theorem ends_step {L : List Spn} {E E2 E3 : List ByteArray} {s : Spn} (h : EndsOf L E) (h2 : InsOf E s.1 E2) (h3 : InsOf E2 s.2 E3) : EndsOf (L ++ [s]) E3 := by
  refine ⟨h3.1 (h2.1 h.1), fun t => ?_⟩
  rw [h3.2, h2.2, h.2]
  constructor
  · rintro ((⟨u, hu, ht⟩ | ht) | ht)
    · exact ⟨u, by simp [hu], ht⟩
    · exact ⟨s, by simp, .inl ht⟩
    · exact ⟨s, by simp, .inr ht⟩
  · rintro ⟨u, hu, ht⟩
    rcases List.mem_append.1 hu with hu | hu
    · exact .inl (.inl ⟨u, hu, ht⟩)
    · have : u = s := by simpa using hu
      subst this
      rcases ht with ht | ht
      · exact .inl (.inr ht)
      · exact .inr ht
/-- What ends leaves. -/
def EndsPost (L : List Spn) (w : World) (e : Ending) (w' : World) : Prop :=
  (∃ (v : Value) (E : List ByteArray) (q : Nat), e = .returned v ∧ E.length = q ∧ q ≤ 2 * L.length ∧ EndsOf L E ∧ w'.ownsRow w.heap.size 9 1 v q (strs E)) ∧ Later w w'
set_option maxHeartbeats 2000000 in
theorem ends_any {w : World} {A : Option Addr} {n c : Nat} {L : List Spn} (hr : Rd w 2 A n (srow L)) (hl : L.length = n) (hn : n ≤ 274877906944) :
    Calls Try.prog 65 #[.slice A n c] w (EndsPost L w) := by
  have HR := hide_ hr
  have HL := hide_ hl
  have hn2 : (n : Int) ≤ 274877906944 := by omega
  have HO0 := hide_ (own_new w #[] 9 1 0 w.heap.size rfl (Nat.zero_le _) (Nat.le_refl _))
  clear hr hl
  go_enter Try.func65, Try.ntmps65
  go_wp2_with fail
  go_loopw [3, 4] (fun s3 s4 wr => ∃ (i q : Nat) (E : List ByteArray), i ≤ n ∧ s4 = .int .i64 i ∧ q ≤ 2 * i ∧ Hid (E.length = q) ∧ Hid (EndsOf (L.take i) E) ∧ Hid (wr.ownsRow w.heap.size 9 1 s3 q (strs E)) ∧ Hid (Later w wr)) (fun _ i _ => n - (intOf i).toNat)
  case atStart => exact ⟨0, 0, [], Nat.zero_le _, rfl, Nat.le_refl _, rfl, ⟨trivial, fun t => by simp⟩, HO0.out, (Below.refl _ _).alloc (Nat.le_refl _) _⟩
  case round =>
    obtain ⟨i, q, E, hi, rfl, hqi, HQ, HE, HO, HB⟩ := hrel
    by_cases hlt : i < n
    · have q1 : (i : Int) < (n : Int) := by omega
      have q2 : (i : Int) ≤ 274877906944 := by omega
      have q3 : (0 : Int) ≤ (i : Int) := by omega
      obtain ⟨s, hs⟩ : ∃ s, L[i]? = some s := ⟨_, List.getElem?_eq_getElem (by rw [HL.out]; exact hlt)⟩
      obtain ⟨b, o, rfl, c1, c2⟩ := (HR.out.below HB.out).span hs
      have HT := hide_ (take_next hs)
      obtain ⟨A3, c3, rfl⟩ := own_form HO.out
      have lc1 := later_drew_cell c1
      have lc2 := later_drew_cell c2
      have HBz := hide_ (Below.size HB.out)
      have HBd := hide_ (show Later w wr.drew from Below.drew HB.out)
      have HC1 := hide_ (insert_any s.1 (show wr.drew.ownsRow w.heap.size 9 1 (.slice A3 q c3) q (strs E) from HO.out) (by omega) HBz.out)
      clear hs c1 c2
      go_wp2_with fail
      refine wp_region_k (by kernel_rfl) ?_
      refine wpAnyK_take 0 (v := ?_) rfl (by kernel_rfl) (by kernel_rfl) (by kernel_rfl) (fun _ _ _ h => h) (by rfl) (by intro W hSw; go_simp; with_reducible rfl) ?_; try simp only [Act.put, List.setIfInBounds_toArray, List.set_cons_zero, List.set_cons_succ]
      refine wpAnyK_take 1 (v := ?_) rfl (by kernel_rfl) (by kernel_rfl) (by kernel_rfl) (fun _ _ _ h => h) (by rfl) (by intro W hSw; go_simp; with_reducible rfl) ?_; try simp only [Act.put, List.setIfInBounds_toArray, List.set_cons_zero, List.set_cons_succ]
      refine wpAnyK_take 2 (v := ?_) rfl (by kernel_rfl) (by kernel_rfl) (by kernel_rfl) (fun _ _ _ h => h) (by rfl) (by intro W hSw; go_simp; with_reducible rfl) ?_; try simp only [Act.put, List.setIfInBounds_toArray, List.set_cons_zero, List.set_cons_succ]
      refine wpAnyK_take 3 (v := ?_) rfl (by kernel_rfl) (by kernel_rfl) (by kernel_rfl) (fun _ _ _ h => h) (by rfl) (by intro W hSw; go_simp; with_reducible rfl) ?_; try simp only [Act.put, List.setIfInBounds_toArray, List.set_cons_zero, List.set_cons_succ]
      refine wpAnyK_take 4 (v := ?_) rfl (by kernel_rfl) (by kernel_rfl) (by kernel_rfl) (fun _ _ _ h => h) (by rfl) (by intro W hSw; go_simp; with_reducible rfl) ?_; try simp only [Act.put, List.setIfInBounds_toArray, List.set_cons_zero, List.set_cons_succ]
      refine wpAnyK_take 5 (v := ?_) rfl (by kernel_rfl) (by kernel_rfl) (by kernel_rfl) (fun _ _ _ h => h) (by rfl) (by intro W hSw; go_simp; with_reducible rfl) ?_; try simp only [Act.put, List.setIfInBounds_toArray, List.set_cons_zero, List.set_cons_succ]
      refine wpAnyK_take 7 (v := ?_) rfl (by kernel_rfl) (by kernel_rfl) (by kernel_rfl) (fun _ _ _ h => h) (by rfl) (by intro W hSw; go_simp; with_reducible rfl) ?_; try simp only [Act.put, List.setIfInBounds_toArray, List.set_cons_zero, List.set_cons_succ]
      refine wpAnyK_take 8 (v := ?_) rfl (by kernel_rfl) (by kernel_rfl) (by kernel_rfl) (fun _ _ _ h => h) (by rfl) (by intro W hSw; go_simp; with_reducible rfl) ?_; try simp only [Act.put, List.setIfInBounds_toArray, List.set_cons_zero, List.set_cons_succ]
      refine wpAnyK_take 9 (v := ?_) rfl (by kernel_rfl) (by kernel_rfl) (by kernel_rfl) (fun _ _ _ h => h) (by rfl) (by intro W hSw; go_simp; with_reducible rfl) ?_; try simp only [Act.put, List.setIfInBounds_toArray, List.set_cons_zero, List.set_cons_succ]
      refine wpAnyK_take 10 (v := ?_) rfl (by kernel_rfl) (by kernel_rfl) (by kernel_rfl) (fun _ _ _ h => h) (by rfl) (by intro W hSw; go_simp; with_reducible rfl) ?_; try simp only [Act.put, List.setIfInBounds_toArray, List.set_cons_zero, List.set_cons_succ]
      refine wpAnyK_take 11 (v := ?_) rfl (by kernel_rfl) (by kernel_rfl) (by kernel_rfl) (fun _ _ _ h => h) (by rfl) (by intro W hSw; go_simp; with_reducible rfl) ?_; try simp only [Act.put, List.setIfInBounds_toArray, List.set_cons_zero, List.set_cons_succ]
      refine wpAnyK_one 6 (by kernel_rfl) rfl (fun K hK => ?_)
      go_simp
      (with_reducible refine HC1.out.mono ?_); rintro e w2 ⟨⟨v2, E2, q2, rfl, hl2, hq2, hi2, ho2⟩, hb2⟩; obtain ⟨A4, c4, rfl⟩ := own_form ho2; have lc1 := later_step lc1 hb2; have lc2 := later_step lc2 hb2; have HO2 := hide_ ho2; have HI2 := hide_ hi2; have HQ2 := hide_ hl2; have HB2 := hide_ (Later.trans HBd.out hb2); have HC2 := hide_ (insert_any s.2 HO2.out (by omega) (Below.size HB2.out)); clear ho2 hi2 hl2
      refine hK.out _ _ (by assumption) ?_
      clear hK K; try simp only [Act.put, List.setIfInBounds_toArray, List.set_cons_zero, List.set_cons_succ]
      refine wpAnyK_one 12 (by kernel_rfl) rfl (fun K hK => ?_)
      go_simp
      (with_reducible refine HC2.out.mono ?_); rintro e w3 ⟨⟨v3, E3, q3, rfl, hl3, hq3, hi3, ho3⟩, hb3⟩; obtain ⟨A5, c5, rfl⟩ := own_form ho3; have HO3 := hide_ ho3; have HI3 := hide_ hi3; have HQ3 := hide_ hl3; have HB3 := hide_ (Later.trans HB2.out hb3); clear ho3 hi3 hl3
      refine hK.out _ _ (by assumption) ?_
      clear hK K; try simp only [Act.put, List.setIfInBounds_toArray, List.set_cons_zero, List.set_cons_succ]
      refine wpAnyK_take 13 (v := ?_) rfl (by kernel_rfl) (by kernel_rfl) (by kernel_rfl) (fun _ _ _ h => h) (by rfl) (by intro W hSw; go_simp; with_reducible rfl) ?_; try simp only [Act.put, List.setIfInBounds_toArray, List.set_cons_zero, List.set_cons_succ]
      refine wpAnyK_done (by kernel_rfl) ?_ _
      go_wp2_with fail
      go_roundw
      case rel => exact ⟨i + 1, q3, E3, by omega, by go_num, by omega, HQ3.out, by rw [HT.out]; exact ends_step HE.out HI2.out HI3.out, HO3.out, HB3.out⟩
      case measure => simp [intOf]; omega
    · have hin : i = n := by omega
      have HE2 := hide_ (show EndsOf L E by have := HE.out; rw [hin, ← HL.out, List.take_length] at this; exact this)
      clear hin
      go_wp2_with fail
      go_ret
      exact ⟨⟨_, E, q, rfl, HQ.out, by rw [HL.out]; omega, HE2.out, HO.out⟩, HB.out⟩

end Go.Proofs.Ytblljpdlmllceaa
/-
  The document's answer: build.
-/
namespace Go.Proofs.Ytblljpdlmllceaa
open Go.RowKit
set_option linter.unusedVariables false
set_option linter.unusedSimpArgs false
/-- The keys of one list, but for those of another one. -/
def But (H G : List Spn) (k : ByteArray) : Prop := InL H k ∧ ¬ InL G k
/-- How far the building is. -/
def Built (H G : List Spn) (E : List ByteArray) (j : Nat) (O : List Spn) : Prop :=
  (∀ lo, E[j]? = some lo → BuildInv (But H G) lo O) ∧ (E = [] → O = [])
theorem ends_of {H G : List Spn} {E : List ByteArray} (h : EndsOf (H ++ G) E) : (∀ s, s ∈ H → s.1 ∈ E ∧ s.2 ∈ E) ∧ ∀ s, s ∈ G → s.1 ∈ E ∧ s.2 ∈ E :=
  ⟨fun s hs => ⟨(h.2 _).2 ⟨s, by simp [hs], .inl rfl⟩, (h.2 _).2 ⟨s, by simp [hs], .inr rfl⟩⟩, fun s hs => ⟨(h.2 _).2 ⟨s, by simp [hs], .inl rfl⟩, (h.2 _).2 ⟨s, by simp [hs], .inr rfl⟩⟩⟩
theorem built_start {H G : List Spn} {E : List ByteArray} (h : EndsOf (H ++ G) E) : Built H G E 0 [] := by
  refine ⟨fun lo hlo => build_start fun k hk hM => ?_, fun _ => rfl⟩
  cases E with
  | nil => simp at hlo
  | cons a B =>
    simp at hlo
    subst hlo
    exact below_first h.1 (fun s hs => ((ends_of h).1 s hs).1) hk hM.1
theorem cut_at {E : List ByteArray} {j : Nat} {lo hi : ByteArray} (h1 : E[j]? = some lo) (h2 : E[j + 1]? = some hi) : E = E.take j ++ lo :: hi :: E.drop (j + 2) := by
  have e1 := (List.getElem?_eq_some_iff.1 h1)
  have e2 := (List.getElem?_eq_some_iff.1 h2)
  conv => lhs; rw [← List.take_append_drop j E]
  rw [List.drop_eq_getElem_cons e1.1, e1.2, List.drop_eq_getElem_cons e2.1, e2.2]
theorem but_gap {H G : List Spn} {E : List ByteArray} (h : EndsOf (H ++ G) E) {j : Nat} {lo hi : ByteArray} (h1 : E[j]? = some lo) (h2 : E[j + 1]? = some hi) :
    lo < hi ∧ ∀ k, lo ≤ k → k < hi → (But H G k ↔ But H G lo) := by
  have hc := cut_at h1 h2
  have hu := h.1
  rw [hc] at hu
  refine ⟨((Up.append.1 hu).2.1.1 hi (by simp)), fun k hl hh => ?_⟩
  have a := gap_inl hu (L := H) (fun s hs => by rw [← hc]; exact (ends_of h).1 s hs) hl hh
  have b := gap_inl hu (L := G) (fun s hs => by rw [← hc]; exact (ends_of h).2 s hs) hl hh
  unfold But
  rw [a, b]
theorem built_end {H G : List Spn} {E : List ByteArray} (h : EndsOf (H ++ G) E) {j : Nat} {O : List Spn} (hb : Built H G E j O) (hj : E.length ≤ j + 1) (hj2 : E = [] ∨ j < E.length) : Canon O ∧ ∀ k, InL O k ↔ But H G k := by
  rcases hj2 with he | hlt
  · rw [hb.2 he]
    refine ⟨trivial, fun k => ⟨fun h => absurd h InL.nil, fun hk => ?_⟩⟩
    obtain ⟨s, hs, _⟩ := hk.1
    have := ((ends_of h).1 s hs).1
    rw [he] at this; cases this
  · obtain ⟨lo, hlo⟩ : ∃ lo, E[j]? = some lo := ⟨_, List.getElem?_eq_getElem hlt⟩
    have hi := hb.1 lo hlo
    refine ⟨hi.1, fun k => ?_⟩
    rw [hi.2.1]
    constructor
    · exact fun h => h.1
    · intro hk
      refine ⟨hk, ?_⟩
      have hE : E = E.take j ++ [lo] := by
        have e1 := (List.getElem?_eq_some_iff.1 hlo)
        conv => lhs; rw [← List.take_append_drop j E]
        rw [List.drop_eq_getElem_cons e1.1, e1.2, List.drop_of_length_le (by omega)]
      by_cases hkl : lo ≤ k
      · have hu := h.1
        rw [hE] at hu
        exact absurd hk.1 (behind_last hu (L := H) (fun s hs => by rw [← hE]; exact ((ends_of h).1 s hs).2) hkl)
      · grind
theorem built_next {H G : List Spn} {E : List ByteArray} {j : Nat} {hi : ByteArray} {O : List Spn} (h1 : E[j + 1]? = some hi) (hne : ¬ E = []) (h : BuildInv (But H G) hi O) : Built H G E (j + 1) O :=
  ⟨fun lo hlo => by rw [h1] at hlo; injection hlo with hlo; subst hlo; exact h, fun he => absurd he hne⟩
/-- What build leaves. -/
def BuildPost (H G : List Spn) (w : World) (e : Ending) (w' : World) : Prop :=
  (∃ (v : Value) (R : List Spn) (q : Nat), e = .returned v ∧ R.length = q ∧ Canon R ∧ (∀ k, InL R k ↔ But H G k) ∧ w'.ownsRow w.heap.size 34 2 v q (srow R)) ∧ Later w w'
set_option maxHeartbeats 4000000 in
theorem build_any {w : World} {A A' : Option Addr} {n n' c c' : Nat} {H G : List Spn} (hr : Rd w 2 A n (srow H)) (hl : H.length = n) (hA : A = none → n = 0) (hn : n ≤ 1048576) (hr' : Rd w 2 A' n' (srow G)) (hl' : G.length = n') (hA' : A' = none → n' = 0) (hn' : n' ≤ 1048576) :
    Calls Try.prog 56 #[.slice A n c, .slice A' n' c'] w (BuildPost H G w) := by
  have HR := hide_ hr
  have HR' := hide_ hr'
  have HA := hide_ hA
  have HA' := hide_ hA'
  have HL := hide_ hl
  have HL' := hide_ hl'
  have HO0 := hide_ (own_new w #[] 34 2 0 w.heap.size rfl (Nat.zero_le _) (Nat.le_refl _))
  clear hr hr' hA hA' hl hl'
  go_enter Try.func56, Try.ntmps56
  go_wp2_with (first | (at_builtin; (refine wpList_append_rd _ rfl (.tmp 9) (.tmp 10) 47 rfl w.heap.size 34 2 32 spanT _ 0 [] rfl HO0.out _ n _ (srow H) rfl (HR.out.alloc _) (srow_one _) (by omega) (by unfold maxLen; omega) (by simp) HA.out ?_; intro v2 w2 ho2 hg2 hat2; have hb2 := own_grown ((Below.refl w.heap.size w).alloc (Nat.le_refl _) _) HO0.out hg2 (by simp); obtain ⟨A2, c2, rfl⟩ := own_form ho2; simp only [Nat.zero_add, List.nil_append] at ho2; have HO2 := hide_ ho2; have HB2 := hide_ hb2; clear ho2 hb2 hg2 hat2)) | (at_builtin; (refine wpList_append_rd _ rfl (.tmp 11) (.tmp 12) 47 rfl w.heap.size 34 2 32 spanT _ n (srow H) rfl HO2.out _ n' _ (srow G) rfl (HR'.out.below HB2.out) (srow_one _) (by omega) (by unfold maxLen; omega) HB2.out.size HA'.out ?_; intro v3 w3 ho3 hg3 hat3; have hb3 := own_grown HB2.out HO2.out hg3 HB2.out.size; obtain ⟨A3, c3, rfl⟩ := own_form ho3; have HO3 := hide_ ho3; have HB3 := hide_ hb3; clear ho3 hb3 hg3 hat3)))
  refine (ends_any (L := H ++ G) (by have := Rd.of_own HO3.out; simpa [srow] using this) (by rw [List.length_append, HL.out, HL'.out]) (by omega)).mono ?_
  rintro e w4 ⟨⟨v4, E, q, rfl, hq, hq2, hE, ho4⟩, hb4⟩
  obtain ⟨A4, c4, rfl⟩ := own_form ho4
  have hq3 : q ≤ 4194304 := by rw [List.length_append, HL.out, HL'.out] at hq2; omega
  have HQ := hide_ hq
  have HE := hide_ hE
  have HRE := hide_ (Rd.of_own ho4)
  have HB4 := hide_ (Later.trans (show Later w w3 from HB3.out) hb4)
  have HR4 := hide_ (HR.out.below HB4.out)
  have HR4' := hide_ (HR'.out.below HB4.out)
  have HO5 := hide_ (own_new w4 #[] 34 2 0 w4.heap.size rfl (Nat.zero_le _) (Nat.le_refl _))
  clear hq hq2 hE ho4 hb4
  go_wp2_with fail
  go_loopw [6, 7, 8] (fun s6 s7 _ wr => ∃ (j p : Nat) (O : List Spn), s7 = .int .i64 ((j + 1 : Nat) : Int) ∧ (q = 0 ∨ j < q) ∧ j ≤ q ∧ p ≤ j ∧ Hid (O.length = p) ∧ Hid (Built H G E j O) ∧ Hid (wr.ownsRow w4.heap.size 34 2 s6 p (srow O)) ∧ Hid (Later w4 wr)) (fun _ i _ _ => q - (intOf i).toNat)
  case atStart => exact ⟨0, 0, [], rfl, by omega, Nat.zero_le _, Nat.le_refl _, rfl, built_start HE.out, HO5.out, (Below.refl _ _).alloc (Nat.le_refl _) _⟩
  case round =>
    obtain ⟨j, p, O, rfl, hjq, hj, hpj, HP, HBI, HO, HB⟩ := hrel
    obtain ⟨A5, c5, rfl⟩ := own_form HO.out
    by_cases hlt : j + 1 < q
    · have q1 : (j : Int) + 1 < (q : Int) := by omega
      have q2 : (j : Int) ≤ 4194304 := by omega
      have q3 : (0 : Int) ≤ (j : Int) := by omega
      have q4 : (j : Int) < (q : Int) := by omega
      have q5 : j < q := by omega
      obtain ⟨lo, hlo⟩ : ∃ x, E[j]? = some x := ⟨_, List.getElem?_eq_getElem (by rw [HQ.out]; omega)⟩
      obtain ⟨hi, hhi⟩ : ∃ x, E[j + 1]? = some x := ⟨_, List.getElem?_eq_getElem (by rw [HQ.out]; omega)⟩
      have HGAP := hide_ (but_gap HE.out hlo hhi)
      have HINV := hide_ (HBI.out.1 lo hlo)
      have HNE := hide_ (show ¬ E = [] by rintro rfl; simp at hlo)
      have HHI := hide_ hhi
      obtain ⟨bE, oE, rfl, c1⟩ := HRE.out.str hlo
      have HC1 := hide_ c1
      have HC2 := hide_ (show w4.cell? ⟨bE, oE + (j + 1), none⟩ = some (.string hi) by obtain ⟨b', o', h1, h2⟩ := HRE.out.str hhi; injection h1 with h1; injection h1 with h1 h3; subst h1; subst h3; exact h2)
      have c2 := (HB.out.cell (p := ⟨bE, oE + j, none⟩) (cell_lt c1)).trans c1
      clear hlo hhi c1
      go_wp2_with fail
      refine (in_any lo (HR4.out.below HB.out) HL.out (by omega)).mono ?_
      rintro e w5 ⟨⟨r1, rfl, hr1⟩, hb5⟩
      cases r1 with
      | false =>
        have HB5 := hide_ (Later.trans HB.out hb5)
        have HO5' := hide_ (own_below HO.out hb5)
        have HN := hide_ (show ¬ But H G lo from fun h => by have := hr1.2 h.1; cases this)
        clear hr1 hb5 c2
        go_wp2_with fail
        go_roundw
        case rel => exact ⟨j + 1, p, O, by go_num, by omega, by omega, by omega, HP, built_next HHI.out HNE.out (build_no HINV.out HGAP.out.1 HGAP.out.2 HN.out), HO5'.out, HB5.out⟩
        case measure => simp [intOf]; omega
      | true =>
        have HB5 := hide_ (Later.trans HB.out hb5)
        have HO5' := hide_ (own_below HO.out hb5)
        have hinH := hr1.1 rfl
        have d2 := (HB5.out.cell (p := ⟨bE, oE + (j + 1), none⟩) (cell_lt HC2.out)).trans HC2.out
        have d1 := (HB5.out.cell (p := ⟨bE, oE + j, none⟩) (cell_lt HC1.out)).trans HC1.out
        have HINH := hide_ hinH
        clear hr1 hb5 c2 hinH
        go_wp2_with fail
        refine (in_any lo (HR4'.out.below HB5.out) HL'.out (by omega)).mono ?_
        rintro e w6 ⟨⟨r2, rfl, hr2⟩, hb6⟩
        have HB6 := hide_ (Later.trans HB5.out hb6)
        have HO6 := hide_ (own_below HO5'.out hb6)
        have d1 := (hb6.cell (p := ⟨bE, oE + j, none⟩) (cell_lt d1)).trans d1
        have d2 := (hb6.cell (p := ⟨bE, oE + (j + 1), none⟩) (cell_lt d2)).trans d2
        cases r2 with
        | true =>
          have HN := hide_ (show ¬ But H G lo from fun h => h.2 (hr2.1 rfl))
          clear hr2 hb6 d1 d2
          go_wp2_with fail
          go_roundw
          case rel => exact ⟨j + 1, p, O, by go_num, by omega, by omega, by omega, HP, built_next HHI.out HNE.out (build_no HINV.out HGAP.out.1 HGAP.out.2 HN.out), HO6.out, HB6.out⟩
          case measure => simp [intOf]; omega
        | false =>
          have HM := hide_ (show But H G lo from ⟨HINH.out, fun h => by have := hr2.2 h; cases this⟩)
          clear hr2 hb6
          rcases Nat.eq_zero_or_pos p with hp | hp
          · subst hp
            obtain rfl : O = [] := List.eq_nil_of_length_eq_zero HP.out
            go_wp2_with fail
            go_quiet (fail)
            go_wp2_with fail
            obtain ⟨W7, hW7⟩ : ∃ W7, W7 = w6.drewN nq := ⟨_, rfl⟩
            rw [← hW7]
            have e1 := later_drew_cell (show W7.cell? ⟨bE, oE + j, none⟩ = some (.string lo) by rw [hW7]; exact d1)
            have e2 := later_drew_cell (show W7.cell? ⟨bE, oE + (j + 1), none⟩ = some (.string hi) by rw [hW7]; exact d2)
            have HO7 := hide_ (show W7.drew.ownsRow w4.heap.size 34 2 (.slice A5 0 c5) 0 (srow []) by rw [hW7]; exact HO6.out)
            have HB7 := hide_ (show Later w4 W7.drew by rw [hW7]; exact (below_drewN HB6.out nq).drew)
            clear hW7
            have k1 : IntKind.i64.wrap (j : Int) = (j : Int) := IntWalk.i64_in _ (by omega)
            have k3 : IntKind.i64.wrap ((j : Int) + 1) = (j : Int) + 1 := IntWalk.i64_in _ (by omega)
            have k4 : ((j : Int) + 1).toNat = j + 1 := by omega
            have k5 : (0 : Int) ≤ (j : Int) + 1 := by omega
            refine wp_region_l [12] (by kernel_rfl) ?_
            refine wpAnyL_pure 0 (v := ?_) rfl (by kernel_rfl) (by kernel_rfl) (by kernel_rfl) (fun _ _ _ h => h) (by rfl) (by intro W; go_simp; with_reducible rfl) ?_; try simp only [Act.put, List.setIfInBounds_toArray, List.set_cons_zero, List.set_cons_succ]
            refine wpAnyL_pure 1 (v := ?_) rfl (by kernel_rfl) (by kernel_rfl) (by kernel_rfl) (fun _ _ _ h => h) (by rfl) (by intro W; go_simp; with_reducible rfl) ?_; try simp only [Act.put, List.setIfInBounds_toArray, List.set_cons_zero, List.set_cons_succ]
            refine wpAnyL_pure 2 (v := ?_) rfl (by kernel_rfl) (by kernel_rfl) (by kernel_rfl) (fun _ _ _ h => h) (by rfl) (by intro W; go_simp; with_reducible rfl) ?_; try simp only [Act.put, List.setIfInBounds_toArray, List.set_cons_zero, List.set_cons_succ]
            refine wpAnyL_take 3 (v := ?_) rfl (by kernel_rfl) (by kernel_rfl) (by kernel_rfl) (by kernel_rfl) (fun _ _ _ h => h) (by rfl) (by intro W hSw; go_simp; with_reducible rfl) ?_; try simp only [Act.put, List.setIfInBounds_toArray, List.set_cons_zero, List.set_cons_succ]
            refine wpAnyL_pure 4 (v := ?_) rfl (by kernel_rfl) (by kernel_rfl) (by kernel_rfl) (fun _ _ _ h => h) (by rfl) (by intro W; go_simp; with_reducible rfl) ?_; try simp only [Act.put, List.setIfInBounds_toArray, List.set_cons_zero, List.set_cons_succ]
            refine wpAnyL_take 5 (v := ?_) rfl (by kernel_rfl) (by kernel_rfl) (by kernel_rfl) (by kernel_rfl) (fun _ _ _ h => h) (by rfl) (by intro W hSw; go_simp; with_reducible rfl) ?_; try simp only [Act.put, List.setIfInBounds_toArray, List.set_cons_zero, List.set_cons_succ]
            refine wpAnyL_pure 6 (v := ?_) rfl (by kernel_rfl) (by kernel_rfl) (by kernel_rfl) (fun _ _ _ h => h) (by rfl) (by intro W; go_simp; with_reducible rfl) ?_; try simp only [Act.put, List.setIfInBounds_toArray, List.set_cons_zero, List.set_cons_succ]
            refine wpAnyL_pure 7 (v := ?_) rfl (by kernel_rfl) (by kernel_rfl) (by kernel_rfl) (fun _ _ _ h => h) (by rfl) (by intro W; go_simp; with_reducible rfl) ?_; try simp only [Act.put, List.setIfInBounds_toArray, List.set_cons_zero, List.set_cons_succ]
            refine wpAnyL_pure 8 (v := ?_) rfl (by kernel_rfl) (by kernel_rfl) (by kernel_rfl) (fun _ _ _ h => h) (by rfl) (by intro W; go_simp; with_reducible rfl) ?_; try simp only [Act.put, List.setIfInBounds_toArray, List.set_cons_zero, List.set_cons_succ]
            refine wpAnyL_take 9 (v := ?_) rfl (by kernel_rfl) (by kernel_rfl) (by kernel_rfl) (by kernel_rfl) (fun _ _ _ h => h) (by rfl) (by intro W hSw; go_simp; with_reducible rfl) ?_; try simp only [Act.put, List.setIfInBounds_toArray, List.set_cons_zero, List.set_cons_succ]
            refine wpAnyL_pure 10 (v := ?_) rfl (by kernel_rfl) (by kernel_rfl) (by kernel_rfl) (fun _ _ _ h => h) (by rfl) (by intro W; go_simp; with_reducible rfl) ?_; try simp only [Act.put, List.setIfInBounds_toArray, List.set_cons_zero, List.set_cons_succ]
            refine wpAnyL_one 11 (by kernel_rfl) rfl (fun K hK => ?_)
            go_simp
            first | refine hK.out _ _ (by assumption) ?_ | refine hK.out _ _ (Later.refl _) ?_ | refine hK.out _ _ (Below.alloc (Below.refl _ _) (Nat.le_refl _) _) ?_
            clear hK K; try simp only [Act.put, List.setIfInBounds_toArray, List.set_cons_zero, List.set_cons_succ]
            refine wpAnyL_loud 12 (by kernel_rfl) (by rfl) rfl (fun K hK => ?_)
            refine step_append_rd (by rfl) (.tmp 66) (.tmp 77) 47 rfl w4.heap.size 34 2 32 spanT _ 0 (srow []) rfl (HO7.out.alloc _) _ 1 1 (encS (lo, hi)) rfl (Rd.newAt _ #[.string lo, .string hi] 34 1 2 _ (0, 0) rfl (by simp)) (encS_one _) (by omega) (by unfold maxLen; omega) (by have := Below.size HB7.out; simp at this ⊢; omega) (fun h => nomatch h) ?_; intro v8 w8 hown8 hg8 hat8; have HO8 := hide_ hown8; have HB8 := hide_ (show Later w4 w8 from own_grown (Below.alloc HB7.out (Below.size HB7.out) _) (HO7.out.alloc _) hg8 (by have := Below.size HB7.out; simp at this ⊢; omega)); clear hown8 hg8 hat8
            refine hK.out _ _ ?_
            clear hK K; try simp only [Act.put, List.setIfInBounds_toArray, List.set_cons_zero, List.set_cons_succ]
            refine wpAnyL_pure 13 (v := ?_) rfl (by kernel_rfl) (by kernel_rfl) (by kernel_rfl) (fun _ _ _ h => h) (by rfl) (by intro W; go_simp; with_reducible rfl) ?_; try simp only [Act.put, List.setIfInBounds_toArray, List.set_cons_zero, List.set_cons_succ]
            refine wpAnyL_done (by kernel_rfl) ?_ _
            clear k1 k3 k4 k5
            go_wp2_with fail
            go_roundw
            case rel =>
              exact ⟨j + 1, 0 + 1, [] ++ [(lo, hi)], by go_num, by omega, by omega, by omega, hide_ (by simp), built_next HHI.out HNE.out (build_yes HINV.out HGAP.out.1 HGAP.out.2 HM.out (fun L p h => by simp at h)), hide_ (by have := HO8.out; simpa [srow] using this), HB8.out⟩
            case measure => simp [intOf]; omega
          · obtain ⟨m, rfl⟩ : ∃ m, p = m + 1 := ⟨p - 1, by omega⟩
            obtain ⟨O', s, hOs⟩ : ∃ O' s, O = O' ++ [s] := by
              rcases List.eq_nil_or_concat O with h | ⟨O', s, h⟩
              · have := HP.out; rw [h] at this; simp at this
              · exact ⟨O', s, by simpa using h⟩
            subst hOs
            have HJ := hide_ (show O'.length = m by have := HP.out; simpa using this)
            have hpj : (O' ++ [s])[m]? = some s := by rw [← HJ.out]; simp
            obtain ⟨g5, rfl⟩ : ∃ g, A5 = some ⟨g, 0, none⟩ := by
              rcases sown_cases HO.out with ⟨_, h, _⟩ | h
              · omega
              · exact h
            have s2 := (HO6.out.cellAt (m * 2 + 1) (by omega)).trans (srow_snd hpj)
            have m1 : (0 : Int) ≤ (m : Int) := by omega
            have m2 : (m : Int) ≤ 4194304 := by omega
            have m3 : m < m + 1 := by omega
            clear hpj
            by_cases heq : s.2 = lo
            · have t1 : (s.2.toList == lo.toList) = true := by rw [beq_ba]; simpa using heq
              have HEQ := hide_ heq
              clear heq
              obtain ⟨cur, _, hgc, _⟩ := own_row HO6.out
              have f1 := fun nq => (show (w6.drewN nq).frozen? ⟨g5, m * 2 + 1, none⟩ = false from frozen_of_row _ _ (m * 2 + 1) _ _ hgc)
              clear hgc
              go_wp2_with fail
              go_quiet (fail)
              go_wp2_with fail
              go_roundw
              case rel =>
                refine ⟨j + 1, m + 1, O' ++ [(s.1, hi)], by go_num, by omega, by omega, by omega, hide_ (by simp [HJ.out]), built_next HHI.out HNE.out (build_on HINV.out HGAP.out.1 HGAP.out.2 HM.out HEQ.out), ?_, ?_⟩
                · rw [last_set HJ.out]
                  exact own_setCell (show (w6.drewN nq).ownsRow w4.heap.size 34 2 (.slice (some ⟨g5, 0, none⟩) (m + 1) c5) (m + 1) (srow (O' ++ [s])) from HO6.out) _ _
                · exact (below_drewN HB6.out nq).setCell (HO6.out.lt g5 rfl).1 _
              case measure => simp [intOf]; omega
            · have t1 : (s.2.toList == lo.toList) = false := by rw [beq_ba]; simpa using heq
              have HEQ := hide_ heq
              clear heq
              go_wp2_with fail
              go_quiet (fail)
              go_wp2_with fail
              obtain ⟨W7, hW7⟩ : ∃ W7, W7 = w6.drewN nq := ⟨_, rfl⟩
              rw [← hW7]
              have e1 := later_drew_cell (show W7.cell? ⟨bE, oE + j, none⟩ = some (.string lo) by rw [hW7]; exact d1)
              have e2 := later_drew_cell (show W7.cell? ⟨bE, oE + (j + 1), none⟩ = some (.string hi) by rw [hW7]; exact d2)
              have HO7 := hide_ (show W7.drew.ownsRow w4.heap.size 34 2 (.slice (some ⟨g5, 0, none⟩) (m + 1) c5) (m + 1) (srow (O' ++ [s])) by rw [hW7]; exact HO6.out)
              have HB7 := hide_ (show Later w4 W7.drew by rw [hW7]; exact (below_drewN HB6.out nq).drew)
              clear hW7
              have k1 : IntKind.i64.wrap (j : Int) = (j : Int) := IntWalk.i64_in _ (by omega)
              have k3 : IntKind.i64.wrap ((j : Int) + 1) = (j : Int) + 1 := IntWalk.i64_in _ (by omega)
              have k4 : ((j : Int) + 1).toNat = j + 1 := by omega
              have k5 : (0 : Int) ≤ (j : Int) + 1 := by omega
              refine wp_region_l [12] (by kernel_rfl) ?_
              refine wpAnyL_pure 0 (v := ?_) rfl (by kernel_rfl) (by kernel_rfl) (by kernel_rfl) (fun _ _ _ h => h) (by rfl) (by intro W; go_simp; with_reducible rfl) ?_; try simp only [Act.put, List.setIfInBounds_toArray, List.set_cons_zero, List.set_cons_succ]
              refine wpAnyL_pure 1 (v := ?_) rfl (by kernel_rfl) (by kernel_rfl) (by kernel_rfl) (fun _ _ _ h => h) (by rfl) (by intro W; go_simp; with_reducible rfl) ?_; try simp only [Act.put, List.setIfInBounds_toArray, List.set_cons_zero, List.set_cons_succ]
              refine wpAnyL_pure 2 (v := ?_) rfl (by kernel_rfl) (by kernel_rfl) (by kernel_rfl) (fun _ _ _ h => h) (by rfl) (by intro W; go_simp; with_reducible rfl) ?_; try simp only [Act.put, List.setIfInBounds_toArray, List.set_cons_zero, List.set_cons_succ]
              refine wpAnyL_take 3 (v := ?_) rfl (by kernel_rfl) (by kernel_rfl) (by kernel_rfl) (by kernel_rfl) (fun _ _ _ h => h) (by rfl) (by intro W hSw; go_simp; with_reducible rfl) ?_; try simp only [Act.put, List.setIfInBounds_toArray, List.set_cons_zero, List.set_cons_succ]
              refine wpAnyL_pure 4 (v := ?_) rfl (by kernel_rfl) (by kernel_rfl) (by kernel_rfl) (fun _ _ _ h => h) (by rfl) (by intro W; go_simp; with_reducible rfl) ?_; try simp only [Act.put, List.setIfInBounds_toArray, List.set_cons_zero, List.set_cons_succ]
              refine wpAnyL_take 5 (v := ?_) rfl (by kernel_rfl) (by kernel_rfl) (by kernel_rfl) (by kernel_rfl) (fun _ _ _ h => h) (by rfl) (by intro W hSw; go_simp; with_reducible rfl) ?_; try simp only [Act.put, List.setIfInBounds_toArray, List.set_cons_zero, List.set_cons_succ]
              refine wpAnyL_pure 6 (v := ?_) rfl (by kernel_rfl) (by kernel_rfl) (by kernel_rfl) (fun _ _ _ h => h) (by rfl) (by intro W; go_simp; with_reducible rfl) ?_; try simp only [Act.put, List.setIfInBounds_toArray, List.set_cons_zero, List.set_cons_succ]
              refine wpAnyL_pure 7 (v := ?_) rfl (by kernel_rfl) (by kernel_rfl) (by kernel_rfl) (fun _ _ _ h => h) (by rfl) (by intro W; go_simp; with_reducible rfl) ?_; try simp only [Act.put, List.setIfInBounds_toArray, List.set_cons_zero, List.set_cons_succ]
              refine wpAnyL_pure 8 (v := ?_) rfl (by kernel_rfl) (by kernel_rfl) (by kernel_rfl) (fun _ _ _ h => h) (by rfl) (by intro W; go_simp; with_reducible rfl) ?_; try simp only [Act.put, List.setIfInBounds_toArray, List.set_cons_zero, List.set_cons_succ]
              refine wpAnyL_take 9 (v := ?_) rfl (by kernel_rfl) (by kernel_rfl) (by kernel_rfl) (by kernel_rfl) (fun _ _ _ h => h) (by rfl) (by intro W hSw; go_simp; with_reducible rfl) ?_; try simp only [Act.put, List.setIfInBounds_toArray, List.set_cons_zero, List.set_cons_succ]
              refine wpAnyL_pure 10 (v := ?_) rfl (by kernel_rfl) (by kernel_rfl) (by kernel_rfl) (fun _ _ _ h => h) (by rfl) (by intro W; go_simp; with_reducible rfl) ?_; try simp only [Act.put, List.setIfInBounds_toArray, List.set_cons_zero, List.set_cons_succ]
              refine wpAnyL_one 11 (by kernel_rfl) rfl (fun K hK => ?_)
              go_simp
              first | refine hK.out _ _ (by assumption) ?_ | refine hK.out _ _ (Later.refl _) ?_ | refine hK.out _ _ (Below.alloc (Below.refl _ _) (Nat.le_refl _) _) ?_
              clear hK K; try simp only [Act.put, List.setIfInBounds_toArray, List.set_cons_zero, List.set_cons_succ]
              refine wpAnyL_loud 12 (by kernel_rfl) (by rfl) rfl (fun K hK => ?_)
              refine step_append_rd (by rfl) (.tmp 66) (.tmp 77) 47 rfl w4.heap.size 34 2 32 spanT _ (m + 1) (srow (O' ++ [s])) rfl (HO7.out.alloc _) _ 1 1 (encS (lo, hi)) rfl (Rd.newAt _ #[.string lo, .string hi] 34 1 2 _ (0, 0) rfl (by simp)) (encS_one _) (by omega) (by unfold maxLen; omega) (by have := Below.size HB7.out; simp at this ⊢; omega) (fun h => nomatch h) ?_; intro v8 w8 hown8 hg8 hat8; have HO8 := hide_ hown8; have HB8 := hide_ (show Later w4 w8 from own_grown (Below.alloc HB7.out (Below.size HB7.out) _) (HO7.out.alloc _) hg8 (by have := Below.size HB7.out; simp at this ⊢; omega)); clear hown8 hg8 hat8
              refine hK.out _ _ ?_
              clear hK K; try simp only [Act.put, List.setIfInBounds_toArray, List.set_cons_zero, List.set_cons_succ]
              refine wpAnyL_pure 13 (v := ?_) rfl (by kernel_rfl) (by kernel_rfl) (by kernel_rfl) (fun _ _ _ h => h) (by rfl) (by intro W; go_simp; with_reducible rfl) ?_; try simp only [Act.put, List.setIfInBounds_toArray, List.set_cons_zero, List.set_cons_succ]
              refine wpAnyL_done (by kernel_rfl) ?_ _
              clear k1 k3 k4 k5
              go_wp2_with fail
              go_roundw
              case rel =>
                exact ⟨j + 1, (m + 1) + 1, (O' ++ [s]) ++ [(lo, hi)], by go_num, by omega, by omega, by omega, hide_ (by simp [HJ.out]), built_next HHI.out HNE.out (build_yes HINV.out HGAP.out.1 HGAP.out.2 HM.out (fun L p h => by have h2 := (List.append_inj' h rfl).2; injection h2 with h2; rw [← h2]; exact HEQ.out)), hide_ (by have := HO8.out; simpa [srow] using this), HB8.out⟩
              case measure => simp [intOf]; omega
    · have hin : q ≤ j + 1 := by omega
      have hge : ¬ (j : Int) + 1 < (q : Int) := by omega
      have hend := hide_ (built_end HE.out HBI.out (by rw [HQ.out]; exact hin) (by rcases hjq with h | h; exact .inl (List.eq_nil_of_length_eq_zero (by rw [HQ.out]; exact h)); exact .inr (by rw [HQ.out]; exact h)))
      clear hin
      go_wp2_with fail
      go_ret
      exact ⟨⟨_, O, p, rfl, HP.out, hend.out.1, hend.out.2, own_base HO.out (Below.size HB4.out)⟩, Later.trans HB4.out HB.out⟩

end Go.Proofs.Ytblljpdlmllceaa
/-
  Below a block number all stands but one block.
-/
namespace Go.Proofs.Ytblljpdlmllceaa
open Go.RowKit
/-- All blocks below B but x are as they were; no block has gone. -/
def Still (B x : Nat) (w w' : World) : Prop := w.heap.size ≤ w'.heap.size ∧ ∀ k, k < B → k ≠ x → w'.heap[k]? = w.heap[k]?
section
variable {B x : Nat} {w w' w'' : World}
theorem Still.refl (B x : Nat) (w : World) : Still B x w w := ⟨Nat.le_refl _, fun _ _ _ => rfl⟩
theorem Still.trans (h : Still B x w w') (k : Still B x w' w'') : Still B x w w'' := ⟨Nat.le_trans h.1 k.1, fun i hi hx => (k.2 i hi hx).trans (h.2 i hi hx)⟩
theorem Still.of_below (h : Below B w w') : Still B x w w' := ⟨h.size, fun k hk _ => h.block k hk⟩
theorem Still.setCell (h : Still B x w w') (o : Nat) (u : Value) : Still B x w (w'.setCell ⟨x, o, none⟩ u) :=
  h.trans ⟨by simp [World.setCell], fun k _ hx => Below.heap_setCell _ _ _ _ (by simpa using hx)⟩
theorem Still.below (h : Still B x w w') (hb : Below B w' w'') : Still B x w w'' := h.trans (Still.of_below hb)
theorem Rd.still {size n : Nat} {A : Option Addr} {xs : List Value} (h : Rd w size A n xs) (hs : Still B x w w') (hB : w.heap.size ≤ B) (hx : ∀ b o, A = some ⟨b, o, none⟩ → b ≠ x) : Rd w' size A n xs := by
  refine ⟨h.1, fun hn => ?_⟩
  obtain ⟨b, o, e, hc⟩ := h.2 hn
  refine ⟨b, o, e, fun j u hu => ?_⟩
  have h1 := hc j u hu
  have hlt := cell_lt h1
  rw [World.cell?_of_block (hs.2 b (Nat.lt_of_lt_of_le hlt hB) (hx b o e))]
  exact h1
end
/-- What an append leaves of a block that is not the row's. -/
theorem grown_block {W w' : World} {base : Nat} {e : TypeId} {size n : Nat} {v : Value} {xs : List Value} {k : Nat} {x : Obj} (ho : W.ownsRow base e size v n xs) (hg : W.grownBy w' v.ownBlock) (hx : W.heap[k]? = some x) (hk : k < base ∨ ∃ w : World, w.ownsRow base e size v n xs ∧ w.heap.size ≤ k) : w'.heap[k]? = some x := by
  have hlt : k < W.heap.size := by
    rcases Nat.lt_or_ge k W.heap.size with h | h
    · exact h
    · rw [Array.getElem?_eq_none h] at hx; cases hx
  rw [hg.block k hlt ?_]
  · exact hx
  · intro hk2
    rcases hk with hk | ⟨w, hw, hk⟩
    · have := (ho.lt k hk2.symm).1; omega
    · have := (hw.lt k hk2.symm).2; omega
end Go.Proofs.Ytblljpdlmllceaa
/-
  Without: the spans that have the keys of one, but for those of others.
-/
namespace Go.Proofs.Ytblljpdlmllceaa
open Go.RowKit
set_option linter.unusedVariables false
set_option linter.unusedSimpArgs false
set_option maxHeartbeats 4000000 in
theorem without_any {w : World} {A : Option Addr} {n c : Nat} {L : List Spn} (s : Spn) (hr : Rd w 2 A n (srow L)) (hA : A = none → n = 0) (hl : L.length = n) (hn : n ≤ 2199023255552) :
    Calls Try.prog 44 #[.agg #[.string s.1, .string s.2], .slice A n c] w fun e w' =>
      (∃ (v : Value) (R : List Spn), e = .returned v ∧ w'.ownsRow w.heap.size 34 2 v R.length (srow R) ∧ R.length ≤ n + 1 ∧ Canon R ∧ ∀ k, InL R k ↔ InS s k ∧ ¬ InL L k) ∧ Below w.heap.size w w' := by
  obtain ⟨W0, hW0⟩ : ∃ W0, W0 = w.alloc (.cells #[.string s.1, .string s.2] 34) := ⟨_, rfl⟩
  have hj := hide_ (join_any (c := c) (hr.alloc (.cells #[.string s.1, .string s.2] 34)) hA hl (by omega))
  rw [← hW0] at hj
  have hbx : W0.heap[w.heap.size]? = some (.cells #[.string s.1, .string s.2] 34 (0, 0)) := by rw [hW0]; exact heap_alloc_new w _
  have hsz0 : W0.heap.size = w.heap.size + 1 := by rw [hW0]; simp
  have HB0 := hide_ (show Below w.heap.size w W0 by rw [hW0]; exact (Below.refl _ _).alloc (Nat.le_refl _) _)
  have HBX := hide_ hbx
  have HS0 := hide_ hsz0
  have HW := hide_ hW0.symm
  clear hW0 hr hA hbx hsz0
  go_enter Try.func44, Try.ntmps44
  go_wp2_with fail
  rw [HW.out]
  refine (hj.out).mono ?_; rintro e w1 ⟨⟨A1, J, rfl, hR, hAJ, hbJ, hJn, hc, hk⟩, hb1⟩
  obtain ⟨m, hm⟩ : ∃ m, J.length = m := ⟨_, rfl⟩
  rw [hm] at hR hAJ hJn ⊢
  have HR := hide_ hR
  have HM := hide_ hm
  have HBJ := hide_ (show ∀ (b o : Nat), A1 = some ⟨b, o, none⟩ → b ≠ w.heap.size from fun b o h => by have h1 := hbJ b o h; rw [HS0.out] at h1; omega)
  have HC := hide_ hc
  have HK := hide_ hk
  have HB1 := hide_ (HB0.out.trans (hb1.mono HB0.out.size))
  have HX1 := hide_ ((hb1.block w.heap.size (by rw [HS0.out]; omega)).trans HBX.out)
  have HZ1 := hide_ (show w.heap.size < w1.heap.size by have := hb1.size; have := HS0.out; omega)
  have hmn : m ≤ n := hJn
  clear HW hj hR hm hbJ hc hk hb1 hAJ hJn
  have hm2 : m ≤ 2199023255552 := by omega
  go_wp2_with fail
  go_loopw [5, 7, 8, 12] (fun s5 _ _ s12 wr => ∃ (k q : Nat) (O : List Spn) (cur : ByteArray), k ≤ m ∧ s12 = .int .i64 k ∧ Hid (O.length = q) ∧ q ≤ k ∧ Hid (wr.ownsRow w1.heap.size 34 2 s5 q (srow O)) ∧ Hid (CutInv s cur O (J.take k) (J.drop k)) ∧ Hid (Still w1.heap.size w.heap.size w1 wr) ∧ Hid (Below w.heap.size w wr) ∧ Hid (wr.heap[w.heap.size]? = some (.cells #[.string cur, .string s.2] 34 (0, 0)))) (fun _ _ _ i _ => m - (intOf i).toNat)
  case atStart => exact ⟨0, 0, [], s.1, Nat.zero_le _, rfl, rfl, Nat.le_refl _, World.ownsRow_nil _ _ _ _, cut_start s J, Still.refl _ _ _, HB1.out, HX1.out⟩
  case round =>
    obtain ⟨k, q, O, cur, hk, rfl, HQ, hqk, HO, HI, HST, HB, HX⟩ := hrel
    obtain ⟨A4, c4, rfl⟩ := own_form HO.out
    have b1 := fun ob => cell_of_row _ _ 0 _ _ (0, 0) (row_alloc HX.out ob)
    have b2 := fun ob => cell_of_row _ _ 1 _ _ (0, 0) (row_alloc HX.out ob)
    have b3 := fun o1 o2 o3 => cell_of_row _ _ 0 _ _ (0, 0) (row_alloc (row_alloc (row_alloc HX.out o1) o2) o3)
    have f3 := fun o1 o2 o3 => frozen_of_row _ _ 0 _ _ (row_alloc (row_alloc (row_alloc HX.out o1) o2) o3)
    have zr := hide_ (show w.heap.size < wr.heap.size from Nat.lt_of_lt_of_le HZ1.out HST.out.1)
    by_cases hlt : k < m
    · have q1 : (k : Int) < (m : Int) := by omega
      obtain ⟨g, hg⟩ : ∃ g, J[k]? = some g := ⟨_, List.getElem?_eq_getElem (by rw [HM.out]; exact hlt)⟩
      obtain ⟨b, o, rfl, l1, l2⟩ := (HR.out.still HST.out (Nat.le_refl _) HBJ.out).span hg
      have HD := hide_ (show J.drop k = g :: J.drop (k + 1) from by rw [List.drop_eq_getElem_cons (by rw [HM.out]; exact hlt)]; congr 1; exact (List.getElem?_eq_some_iff.1 hg).2)
      have HT := hide_ (take_next hg)
      have HCD := hide_ (show Canon (g :: J.drop (k + 1)) by rw [← HD.out]; exact canon_drop HC.out k)
      have HI' := hide_ (show CutInv s cur O (J.take k) (g :: J.drop (k + 1)) by rw [← HD.out]; exact HI.out)
      obtain ⟨mn, hmn⟩ : ∃ t, t = if g.1 < s.2 then g.1 else s.2 := ⟨_, rfl⟩
      obtain ⟨mx, hmx⟩ : ∃ t, t = if cur < g.2 then g.2 else cur := ⟨_, rfl⟩
      have m1 : ∀ ts t W, (Builtin.min_ ts t #[.string s.2, .string g.1]).run Try.prog W = .ok (.string mn) W := fun ts t W => by rw [run_min_str, hmn]
      have m2 : ∀ ts t W, (Builtin.max_ ts t #[.string cur, .string g.2]).run Try.prog W = .ok (.string mx) W := fun ts t W => by rw [run_max_str, hmx]
      have HMN := hide_ hmn
      have HMX := hide_ hmx
      clear hg hmn hmx
      by_cases he : mn ≤ cur
      · have hem := fun W => empty_any cur mn W
        rw [decide_eq_true he] at hem
        have HE := hide_ he
        clear he
        go_wp2_with (go_at_call 40; refine (hem _).mono ?_; rintro e w' ⟨rfl, rfl⟩)
        go_roundw
        case rel =>
          have hci := cut_next (out' := O) HI'.out HCD.out (by rw [← HMN.out, if_neg (by have := HE.out; grind)])
          have hle := HST.out.1
          have hzz := HB.out.size
          refine ⟨k + 1, q, O, mx, by omega, by go_num, HQ, by omega, ?_, by rw [HT.out, HMX.out]; exact hci, ?_, ?_, ?_⟩
          · exact ownsRow_setCell_below (((HO.out.alloc _).alloc _).alloc _) HZ1.out _
          · exact (HST.out.below ((((Below.refl _ _).alloc hle _).alloc (by simp; omega) _).alloc (by simp; omega) _)).setCell _ _
          · exact (((HB.out.alloc hzz _).alloc (by simp; omega) _).alloc (by simp; omega) _).setCell (Nat.le_refl _) _
          · exact heap_setCell_same _ _ 0 _ _ _ (row_alloc (row_alloc (row_alloc HX.out _) _) _)
        case measure => simp [intOf]; omega
      · have hem := fun W => empty_any cur mn W
        rw [decide_eq_false he] at hem
        have HE := hide_ he
        clear he
        go_wp2_with (first | (go_at_call 40; refine (hem _).mono ?_; rintro e w' ⟨rfl, rfl⟩) | (at_builtin; go_loud (refine wpList_append_rd _ rfl (.tmp 27) (.tmp 29) 47 rfl w1.heap.size 34 2 32 spanT _ q (srow O) rfl ((((HO.out.alloc _).alloc _).alloc _).alloc _) _ 1 _ (encS (cur, mn)) rfl (Rd.newAt _ #[.string cur, .string mn] 34 1 2 _ (0, 0) rfl (by simp)) (encS_one _) (by omega) (by unfold maxLen; omega) (by have := HST.out.1; simp; omega) (fun h => nomatch h) ?_; intro v5 w5 hown5 hg5 hat5; have HO5 := hide_ hown5; have hx5 := grown_block ((((HO.out.alloc _).alloc _).alloc _).alloc _) hg5 (row_alloc (row_alloc (row_alloc (row_alloc HX.out _) _) _) _) (.inl HZ1.out); have hgn5 := grown_block ((((HO.out.alloc _).alloc _).alloc _).alloc _) hg5 (row_alloc (row_alloc (row_alloc (heap_alloc_new wr _) _) _) _) (.inr ⟨wr, HO.out, Nat.le_refl _⟩); have HB5 := hide_ (own_grown (((((Below.refl w1.heap.size wr).alloc HST.out.1 _).alloc (by have := HST.out.1; simp; omega) _).alloc (by have := HST.out.1; simp; omega) _).alloc (by have := HST.out.1; simp; omega) _) ((((HO.out.alloc _).alloc _).alloc _).alloc _) hg5 (by have := HST.out.1; simp; omega)); have e1 := cell_of_row _ _ 0 _ _ (0, 0) hx5; have e2 := frozen_of_row _ _ 0 _ _ hx5; have e3 := cell_of_row _ _ 1 _ _ (0, 0) hgn5; have HX5 := hide_ hx5; clear hown5 hg5 hat5 hx5 hgn5)))
        go_roundw
        case rel =>
          have hci := cut_next (out' := O ++ [(cur, mn)]) HI'.out HCD.out (by rw [← HMN.out, if_pos (by have := HE.out; grind)])
          refine ⟨k + 1, q + 1, O ++ [(cur, mn)], mx, by omega, by go_num, hide_ (by simp [HQ.out]), by omega, ?_, by rw [HT.out, HMX.out]; exact hci, ?_, ?_, ?_⟩
          · exact ownsRow_setCell_below (show w5.ownsRow w1.heap.size 34 2 v5 (q + 1) (srow (O ++ [(cur, mn)])) by have := HO5.out; simpa [srow] using this) HZ1.out _
          · exact (HST.out.below HB5.out).setCell _ _
          · exact (HB.out.trans (HB5.out.mono (Nat.le_of_lt HZ1.out))).setCell (Nat.le_refl _) _
          · exact heap_setCell_same _ _ 0 _ _ _ HX5.out
        case measure => simp [intOf]; omega
    · have hkm : k = m := by omega
      have b4 := cell_of_row _ _ 0 _ _ (0, 0) HX.out
      have b5 := cell_of_row _ _ 1 _ _ (0, 0) HX.out
      have b6 := cell_of_row _ _ 1 _ _ (0, 0) (row_alloc HX.out (.cells #[.string cur, .string s.2] 34))
      have HI' := hide_ (show CutInv s cur O J [] by have := HI.out; rw [hkm, ← HM.out, List.take_length, List.drop_length] at this; exact this)
      have HKM := hide_ hkm
      clear hkm
      by_cases he : s.2 ≤ cur
      · have hem := fun W => empty_any cur s.2 W
        rw [decide_eq_true he] at hem
        have HE := hide_ he
        clear he
        go_wp2_with (go_at_call 40; refine (hem _).mono ?_; rintro e w' ⟨rfl, rfl⟩)
        go_ret
        have hce := cut_end (out' := O) HI'.out (by rw [if_neg (by have := HE.out; grind)])
        refine ⟨⟨_, O, rfl, by rw [HQ.out]; exact (own_base HO.out (Nat.le_of_lt HZ1.out)).alloc _, by rw [HQ.out]; omega, hce.1, fun x => by rw [hce.2, HK.out]⟩, HB.out.alloc HB.out.size _⟩
      · have hem := fun W => empty_any cur s.2 W
        rw [decide_eq_false he] at hem
        have HE := hide_ he
        clear he
        go_wp2_with (first | (go_at_call 40; refine (hem _).mono ?_; rintro e w' ⟨rfl, rfl⟩) | (at_builtin; go_loud (refine wpList_append_rd _ rfl (.tmp 41) (.tmp 43) 47 rfl w1.heap.size 34 2 32 spanT _ q (srow O) rfl ((HO.out.alloc _).alloc _) _ 1 _ (encS (cur, s.2)) rfl (Rd.newAt _ #[.string cur, .string s.2] 34 1 2 _ (0, 0) rfl (by simp)) (encS_one _) (by omega) (by unfold maxLen; omega) (by have := HST.out.1; simp; omega) (fun h => nomatch h) ?_; intro v5 w5 hown5 hg5 hat5; have HO5 := hide_ hown5; have HB5 := hide_ (own_grown (((HB.out.alloc HB.out.size _).alloc (by have := HB.out.size; simp; omega) _)) (((own_base HO.out (Nat.le_of_lt HZ1.out)).alloc _).alloc _) hg5 (by have := HB.out.size; simp; omega)); clear hown5 hg5 hat5)))
        go_ret
        have hce := cut_end (out' := O ++ [(cur, s.2)]) HI'.out (by rw [if_pos (by have := HE.out; grind)])
        refine ⟨⟨_, O ++ [(cur, s.2)], rfl, ?_, by simp [HQ.out]; omega, hce.1, fun x => by rw [hce.2, HK.out]⟩, HB5.out⟩
        have h1 := own_base HO5.out (Nat.le_of_lt HZ1.out)
        have h2 : (O ++ [(cur, s.2)]).length = q + 1 := by simp [HQ.out]
        rw [h2]
        simpa [srow] using h1
end Go.Proofs.Ytblljpdlmllceaa
/-
  The document's answer: Join, Without.
-/
namespace Go.Proofs.Ytblljpdlmllceaa
open Go.RowKit
set_option linter.unusedVariables false
set_option linter.unusedSimpArgs false
set_option maxHeartbeats 400000 in
theorem rjoin_any {w : World} {A : Option Addr} {n c : Nat} {L : List Spn} (hr : Rd w 2 A n (srow L)) (hA : A = none → n = 0) (hl : L.length = n) (hn : n ≤ 1048576) :
    Calls Try.prog 43 #[.slice A n c] w (BuildPost L [] w) := by
  have hb := hide_ (build_any (c := c) (c' := 0) (A' := none) (n' := 0) (G := []) hr hl hA hn (Rd.nil _ _ _) rfl (fun _ => rfl) (by omega))
  clear hr hA
  go_enter Try.func43, Try.ntmps43
  go_wp2_with fail
  refine hb.out.mono ?_
  rintro e w1 ⟨⟨v, R, q, rfl, h1, h2, h3, h4⟩, h5⟩
  obtain ⟨A1, c1, rfl⟩ := own_form h4
  have H1 := hide_ h1; have H2 := hide_ h2; have H3 := hide_ h3; have H4 := hide_ h4; have H5 := hide_ h5
  clear h1 h2 h3 h4 h5
  go_wp2_with fail
  go_ret
  exact ⟨⟨_, R, q, rfl, H1.out, H2.out, H3.out, H4.out⟩, H5.out⟩
theorem but_nil (L : List Spn) (k : ByteArray) : But L [] k ↔ InL L k := by simp [But, InL.nil]
theorem but_one (s : Spn) (L : List Spn) (k : ByteArray) : But [s] L k ↔ InS s k ∧ ¬ InL L k := by simp [But, InL.cons, InL.nil]
set_option maxHeartbeats 400000 in
theorem rwithout_any {w : World} {A : Option Addr} {n c : Nat} {L : List Spn} (s : Spn) (hr : Rd w 2 A n (srow L)) (hA : A = none → n = 0) (hl : L.length = n) (hn : n ≤ 1048576) :
    Calls Try.prog 46 #[.agg #[.string s.1, .string s.2], .slice A n c] w fun e w' =>
      (∃ (v : Value) (R : List Spn) (q : Nat), e = .returned v ∧ R.length = q ∧ Canon R ∧ (∀ k, InL R k ↔ But [s] L k) ∧ w'.ownsRow w.heap.size 34 2 v q (srow R)) ∧ Later w w' := by
  have hb := hide_ (build_any (w := (w.alloc (.cells #[.string s.1, .string s.2] 34)).alloc (.cells #[.string s.1, .string s.2] 34)) (c := 1) (c' := c) (A := some ⟨w.heap.size + 1, 0, none⟩) (n := 1) (H := [s]) (Rd.newAt _ #[.string s.1, .string s.2] 34 1 2 _ (0, 0) rfl (by simp)) rfl (fun h => nomatch h) (by omega) ((hr.alloc _).alloc _) hl hA hn)
  clear hr hA
  go_enter Try.func46, Try.ntmps46
  go_wp2_with fail
  refine hb.out.mono ?_
  rintro e w1 ⟨⟨v, R, q, rfl, h1, h2, h3, h4⟩, h5⟩
  obtain ⟨A1, c1, rfl⟩ := own_form h4
  have H1 := hide_ h1; have H2 := hide_ h2; have H3 := hide_ h3; have H4 := hide_ (own_base h4 (show w.heap.size ≤ _ by simp; omega)); have H5 := hide_ (show Later w w1 from ((((Below.refl _ _).alloc (Nat.le_refl _) _).alloc (by simp) _)).trans (Below.mono h5 (by simp; omega)))
  clear h1 h2 h3 h4 h5
  go_wp2_with fail
  go_ret
  exact ⟨⟨_, R, q, rfl, H1.out, H2.out, H3.out, H4.out⟩, H5.out⟩
end Go.Proofs.Ytblljpdlmllceaa
/-
  Pairs in memory; where a key is among them.
-/
namespace Go.Proofs.Ytblljpdlmllceaa
open Go.RowKit
set_option linter.unusedVariables false
set_option linter.unusedSimpArgs false
/-- A pair: key, value. -/
abbrev Pr := ByteArray × ByteArray
def encP (s : Pr) : List Value := [.string s.1, .string s.2]
def prow (L : List Pr) : List Value := L.flatMap encP
theorem encP_len (s : Pr) : (encP s).length = 2 := rfl
theorem encP_one (s : Pr) : ∀ u ∈ encP s, u.oneCell' = true := by
  intro u hu
  simp only [encP, List.mem_cons, List.not_mem_nil, or_false] at hu
  rcases hu with rfl | rfl <;> rfl
theorem prow_len (L : List Pr) : (prow L).length = L.length * 2 := rec_len encP_len L
theorem prow_one (L : List Pr) : ∀ u ∈ prow L, u.oneCell' = true := rec_one encP_one L
theorem prow_fst {L : List Pr} {i : Nat} {s : Pr} (h : L[i]? = some s) : (prow L)[i * 2]? = some (.string s.1) := by
  have := rec_at encP_len h 0 (by omega); simpa [prow, encP] using this
theorem prow_snd {L : List Pr} {i : Nat} {s : Pr} (h : L[i]? = some s) : (prow L)[i * 2 + 1]? = some (.string s.2) := by
  have := rec_at encP_len h 1 (by omega); simpa [prow, encP] using this
theorem pairT : ElemT Try.prog 22 55 2 32 := elem_mk (z := .agg #[.string ByteArray.empty, .string ByteArray.empty]) Try.underlying22 (by kernel_rfl) rfl (by decide)
theorem Rd.pair {w : World} {A : Option Addr} {n : Nat} {L : List Pr} (h : Rd w 2 A n (prow L)) {i : Nat} {s : Pr} (hi : L[i]? = some s) :
    ∃ b o, A = some ⟨b, o, none⟩ ∧ w.cell? ⟨b, o + i * 2, none⟩ = some (.string s.1) ∧ w.cell? ⟨b, o + i * 2 + 1, none⟩ = some (.string s.2) := by
  have hl := (List.getElem?_eq_some_iff.1 (prow_fst hi)).1
  obtain ⟨b, o, e, hc⟩ := h.2 (by omega)
  exact ⟨b, o, e, hc _ _ (prow_fst hi), hc _ _ (prow_snd hi)⟩
/-- Rising keys. -/
def Rise (L : List Pr) : Prop := ∀ (i j : Nat) (x y : Pr), i < j → L[i]? = some x → L[j]? = some y → x.1 < y.1
/-- Where a key is, or would be. -/
def FindAt (L : List Pr) (k : ByteArray) (i : Nat) (there : Bool) : Prop :=
  i ≤ L.length ∧ (∀ (j : Nat) x, j < i → L[j]? = some x → x.1 < k) ∧ (∀ (j : Nat) x, i ≤ j → L[j]? = some x → ¬ x.1 < k) ∧ (there = true ↔ ∃ x, L[i]? = some x ∧ x.1 = k)
theorem there_yes {L : List Pr} {k : ByteArray} {i : Nat} {x : Pr} (hx : L[i]? = some x) (he : x.1 = k) : true = true ↔ ∃ x, L[i]? = some x ∧ x.1 = k := ⟨fun _ => ⟨x, hx, he⟩, fun _ => rfl⟩
theorem there_no {L : List Pr} {k : ByteArray} {i : Nat} (h : ∀ x, L[i]? = some x → ¬ x.1 = k) : false = true ↔ ∃ x, L[i]? = some x ∧ x.1 = k := ⟨fun h => (by cases h), fun ⟨x, hx, he⟩ => absurd he (h x hx)⟩
theorem cmp_b (x : Pr) (k : ByteArray) (r : Int) (hr : cmpS x.1 k = r) (w : World) : Calls Try.prog 58 #[.agg #[.string x.1, .string x.2], .string k] w fun e w' => e = .returned (.int .i64 r) ∧ Later w w' := by
  have hcon := fun W' => compare_any x.1 k W'
  rw [hr] at hcon
  clear hr
  go_enter Try.func58, Try.ntmps58
  go_wp2_with (go_at_call 54; refine (hcon _).mono ?_; rintro e w' ⟨rfl, rfl⟩)
  go_ret
  exact ⟨rfl, (Below.refl _ _).alloc (Nat.le_refl _) _⟩
def SearchPost (L : List Pr) (k : ByteArray) (w : World) (e : Ending) (w' : World) : Prop :=
  (∃ (i : Nat) (there : Bool), e = .returned (.tuple #[.int .i64 (i : Int), .bool there]) ∧ FindAt L k i there) ∧ Later w w'
set_option maxHeartbeats 2000000 in
theorem search_any {w : World} {A : Option Addr} {n c : Nat} {L : List Pr} (k : ByteArray) (hr : Rd w 2 A n (prow L)) (hl : L.length = n) (hs : Rise L) (hn : n ≤ 4398046511104) :
    Calls Try.prog 57 #[.slice A n c, .string k, .func (.func 58) #[] #[]] w (SearchPost L k w) := by
  have HR := hide_ hr
  have HL := hide_ hl
  have HS := hide_ hs
  have hn2 : (n : Int) ≤ 4398046511104 := by omega
  clear hr hl hs
  go_enter Try.func57, Try.ntmps57
  go_wp2_with fail
  go_loopw [9, 10] (fun s9 s10 wr => ∃ lo hi : Nat, s9 = .int .i64 lo ∧ s10 = .int .i64 hi ∧ lo ≤ hi ∧ hi ≤ n ∧ Hid (∀ (j : Nat) x, j < lo → L[j]? = some x → x.1 < k) ∧ Hid (∀ (j : Nat) x, hi ≤ j → L[j]? = some x → ¬ x.1 < k) ∧ Hid (Later w wr)) (fun a b _ => (intOf b - intOf a).toNat)
  case atStart => exact ⟨0, n, rfl, rfl, Nat.zero_le _, Nat.le_refl _, fun j x hj => absurd hj (Nat.not_lt_zero _), fun j x hj hx => by have := (List.getElem?_eq_some_iff.1 hx).1; have := HL.out; omega, Later.refl w⟩
  case round =>
    obtain ⟨lo, hi, rfl, rfl, hlh, hin, H1, H2, HB⟩ := hrel
    by_cases hlt : lo < hi
    · obtain ⟨h, hh⟩ : ∃ h, h = (lo + hi) / 2 := ⟨_, rfl⟩
      have q1 : (lo : Int) < (hi : Int) := by omega
      have q2 : ((lo : Int) + (hi : Int)) / 2 = (h : Int) := by omega
      have q3 : (h : Int) < (n : Int) := by omega
      have q4 : (0 : Int) ≤ (h : Int) := by omega
      have q5 : (h : Int) ≤ 4398046511104 := by omega
      have q6 : (0 : Int) ≤ (lo : Int) := by omega
      have q7 : (0 : Int) ≤ (hi : Int) := by omega
      have q8 : (lo : Int) ≤ 4398046511104 := by omega
      have q9 : (hi : Int) ≤ 4398046511104 := by omega
      obtain ⟨x, hx⟩ : ∃ x, L[h]? = some x := ⟨_, List.getElem?_eq_getElem (by rw [HL.out]; omega)⟩
      obtain ⟨b, o, rfl, c1, c2⟩ := (HR.out.below HB.out).pair hx
      have HX := hide_ hx
      have HH := hide_ hh
      clear hx hh
      by_cases hxk : x.1 < k
      · have hc := fun W => cmp_b x k (-1) (by unfold cmpS; rw [if_pos hxk]) W
        have HXK := hide_ hxk
        clear hxk
        go_wp2_with (go_at_call 58; refine (hc _).mono ?_; rintro e w1 ⟨rfl, hb1⟩; have HB1 := hide_ (Later.trans HB.out hb1); clear hb1)
        go_roundw
        case rel =>
          refine ⟨h + 1, hi, by go_num, rfl, by have := HH.out; omega, hin, fun j y hj hy => ?_, H2, HB1.out⟩
          by_cases hjh : j = h
          · subst hjh
            have h1 := HX.out
            rw [h1] at hy
            injection hy with hy
            subst hy
            exact HXK.out
          · have := HS.out j h y x (by omega) hy HX.out
            have := HXK.out
            grind
        case measure => have := HH.out; simp [intOf]; omega
      · obtain ⟨r, hr⟩ : ∃ r, cmpS x.1 k = r := ⟨_, rfl⟩
        have hr0 : 0 ≤ r := by unfold cmpS at hr; rw [if_neg hxk] at hr; split at hr <;> omega
        have hr1 : ¬ r < 0 := by omega
        have hc := fun W => cmp_b x k r hr W
        have HXK := hide_ hxk
        clear hxk hr
        go_wp2_with (go_at_call 58; refine (hc _).mono ?_; rintro e w1 ⟨rfl, hb1⟩; have HB1 := hide_ (Later.trans HB.out hb1); clear hb1)
        go_roundw
        case rel =>
          refine ⟨lo, h, rfl, rfl, by have := HH.out; omega, by have := HH.out; omega, H1, fun j y hj hy => ?_, HB1.out⟩
          by_cases hjh : j = h
          · subst hjh
            have h1 := HX.out
            rw [h1] at hy
            injection hy with hy
            subst hy
            exact HXK.out
          · have := HS.out h j x y (by omega) HX.out hy
            have := HXK.out
            grind
        case measure => have := HH.out; simp [intOf]; omega
    · obtain rfl : hi = lo := by omega
      have q1 : ¬ (hi : Int) < (hi : Int) := by omega
      have q6 : (0 : Int) ≤ (hi : Int) := by omega
      by_cases hlast : hi < n
      · have q3 : (hi : Int) < (n : Int) := by omega
        obtain ⟨x, hx⟩ : ∃ x, L[hi]? = some x := ⟨_, List.getElem?_eq_getElem (by rw [HL.out]; omega)⟩
        obtain ⟨b, o, rfl, c1, c2⟩ := (HR.out.below HB.out).pair hx
        have HX := hide_ hx
        clear hx
        have hnl := H2.out hi x (Nat.le_refl _) HX.out
        obtain ⟨r, hr⟩ : ∃ r, cmpS x.1 k = r := ⟨_, rfl⟩
        have hc := fun W => cmp_b x k r hr W
        by_cases heq : x.1 = k
        · obtain rfl : r = 0 := by rw [← hr]; unfold cmpS; rw [if_neg hnl, if_neg (by rw [heq]; grind)]
          have HF := hide_ (show FindAt L k hi true from ⟨by rw [HL.out]; omega, H1.out, H2.out, there_yes HX.out heq⟩)
          clear hnl hr heq
          go_wp2_with (go_at_call 58; refine (hc _).mono ?_; rintro e w1 ⟨rfl, hb1⟩; have HB1 := hide_ (Later.trans HB.out hb1); clear hb1)
          go_ret2
          exact ⟨⟨hi, true, rfl, HF.out⟩, HB1.out⟩
        · obtain rfl : r = 1 := by rw [← hr]; unfold cmpS; rw [if_neg hnl, if_pos (by grind)]
          have HF := hide_ (show FindAt L k hi false from ⟨by rw [HL.out]; omega, H1.out, H2.out, there_no fun y hy => by rw [HX.out] at hy; injection hy with hy; subst hy; exact heq⟩)
          clear hnl hr heq
          go_wp2_with (go_at_call 58; refine (hc _).mono ?_; rintro e w1 ⟨rfl, hb1⟩; have HB1 := hide_ (Later.trans HB.out hb1); clear hb1)
          go_ret2
          exact ⟨⟨hi, false, rfl, HF.out⟩, HB1.out⟩
      · have HF := hide_ (show FindAt L k hi false from ⟨by rw [HL.out]; omega, H1.out, H2.out, there_no fun y hy => by have := (List.getElem?_eq_some_iff.1 hy).1; have := HL.out; omega⟩)
        go_wp2_with fail
        go_ret2
        exact ⟨⟨hi, false, rfl, HF.out⟩, HB.out⟩
set_option maxHeartbeats 400000 in
theorem find_any {w : World} {A : Option Addr} {n c : Nat} {L : List Pr} (k : ByteArray) (hr : Rd w 2 A n (prow L)) (hl : L.length = n) (hs : Rise L) (hn : n ≤ 4398046511104) :
    Calls Try.prog 47 #[.slice A n c, .string k] w (SearchPost L k w) := by
  have hc := hide_ (search_any (c := c) k hr hl hs hn)
  clear hr hl hs
  go_enter Try.func47, Try.ntmps47
  go_wp2_with fail
  refine hc.out.mono ?_
  rintro e w1 ⟨⟨i, there, rfl, hf⟩, hb⟩
  have HF := hide_ hf
  have HB := hide_ hb
  clear hf hb hc
  go_wp2_with fail
  go_ret2
  exact ⟨⟨i, there, rfl, HF.out⟩, HB.out⟩
end Go.Proofs.Ytblljpdlmllceaa
/-
  What is written: one row of the call's own and new blocks alone.
-/
namespace Go.Proofs.Ytblljpdlmllceaa
open Go.RowKit
theorem grown_trans {w w1 w2 : World} {row row2 : Option Nat} (h : w.grownBy w1 row) (k : w1.grownBy w2 row2) (hr : row2 = row ∨ ∀ b, row2 = some b → w.heap.size ≤ b) : w.grownBy w2 row :=
  ⟨k.os.trans h.os, k.tape.trans h.tape, k.output.trans h.output, Nat.le_trans h.size k.size, fun i hi hne => (k.block i (Nat.lt_of_lt_of_le hi h.size) (fun e => by
    rcases hr with rfl | hr
    · exact hne e
    · have := hr i e.symm; omega)).trans (h.block i hi hne)⟩
theorem grown_drew {w w' : World} {row : Option Nat} (h : w.grownBy w' row) : w.grownBy w'.drew row := ⟨h.os, h.tape, h.output, h.size, h.block⟩
theorem grown_later {w w' : World} (h : Later w w') (row : Option Nat) : w.grownBy w' row := ⟨h.os, h.tape, h.output, h.size, fun k hk _ => h.block k hk⟩
theorem grown_alloc {w w' : World} {row : Option Nat} (h : w.grownBy w' row) (o : Obj) : w.grownBy (w'.alloc o) row := grown_trans h (World.grownBy_alloc w' o row) (.inl rfl)
theorem grown_setRow {w w' : World} {g : Nat} {row : Option Nat} (h : w.grownBy w' row) (hg : row = some g ∨ w.heap.size ≤ g) (cs : Array Value) : w.grownBy (w'.setRow g cs) row :=
  ⟨h.os, h.tape, h.output, by have := h.size; simpa [World.setRow] using this, fun k hk hne => by
    rw [setRow_other _ _ _ _ (fun e => by
      rcases hg with hg | hg
      · exact hne (by rw [e, hg])
      · omega)]
    exact h.block k hk hne⟩
theorem grown_setCell {w w' : World} {g o : Nat} {row : Option Nat} (h : w.grownBy w' row) (hg : row = some g ∨ w.heap.size ≤ g) (u : Value) : w.grownBy (w'.setCell ⟨g, o, none⟩ u) row :=
  ⟨h.os, h.tape, h.output, by have := h.size; simpa [World.setCell] using this, fun k hk hne => by
    rw [Below.heap_setCell _ _ _ _ (fun e => by
      have e : k = g := e
      rcases hg with hg | hg
      · exact hne (by rw [e, hg])
      · omega)]
    exact h.block k hk hne⟩
theorem grown_blocks {B : Nat} {w w' : World} {g : Nat} (hb : Below B w w') (hk : ∀ k, k ≠ g → w'.heap[k]? = w.heap[k]?) : w.grownBy w' (some g) :=
  ⟨hb.os, hb.tape, hb.output, hb.size, fun k _ hne => hk k fun e => hne (by rw [e])⟩
/-- Rows of unlike elements lie in unlike blocks. -/
theorem own_apart {w : World} {b1 b2 : Nat} {e1 e2 : TypeId} {s1 s2 n1 n2 : Nat} {v1 v2 : Value} {x1 x2 : List Value} (h1 : w.ownsRow b1 e1 s1 v1 n1 x1) (h2 : w.ownsRow b2 e2 s2 v2 n2 x2) (he : e1 ≠ e2) : v1.ownBlock = none ∨ v1.ownBlock ≠ v2.ownBlock := by
  rcases h1.2 with ⟨rfl, _⟩ | ⟨g1, c1, cur1, rfl, _, hg1, _⟩
  · exact .inl rfl
  · rcases h2.2 with ⟨rfl, _⟩ | ⟨g2, c2, cur2, rfl, _, hg2, _⟩
    · exact .inr fun h => nomatch h
    · refine .inr fun h => he ?_
      have : g1 = g2 := by injection h
      subst this
      rw [hg1] at hg2
      injection hg2 with hg2
      injection hg2
theorem own_kept {w w' : World} {b1 b2 : Nat} {e1 e2 : TypeId} {s1 s2 n1 n2 : Nat} {v1 v2 : Value} {x1 x2 : List Value} (h1 : w.ownsRow b1 e1 s1 v1 n1 x1) (h2 : w.ownsRow b2 e2 s2 v2 n2 x2) (he : e1 ≠ e2) (hg : w.grownBy w' v2.ownBlock) : w'.ownsRow b1 e1 s1 v1 n1 x1 := h1.kept hg (own_apart h1 h2 he)
end Go.Proofs.Ytblljpdlmllceaa
/-
  The contract of slices.Delete at pairs.
-/
namespace Go.Proofs.Ytblljpdlmllceaa
open Go.RowKit
set_option linter.unusedVariables false
set_option linter.unusedSimpArgs false
/-- A row of letters that has been written twice in place. -/
theorem rows_close {w : World} {B g cap m : Nat} {cur X Y : Array Value} {xs : List Value} (hg : w.heap[g]? = some (.cells cur 55 (0, 0))) (hB : B ≤ g) (hm : m ≤ cap) (hcm : cap ≤ maxLen) (hY : Y.size = cap * 2)
    (ht : Y.toList.take (m * 2) = xs) (hl : xs.length = m * 2) :
    ((w.drew.setRow g X).setRow g Y).ownsRow B 55 2 (.slice (some ⟨g, 0, none⟩) m cap) m xs ∧ Below B w ((w.drew.setRow g X).setRow g Y) ∧ (∀ k, k ≠ g → ((w.drew.setRow g X).setRow g Y).heap[k]? = w.heap[k]?) ∧ ((w.drew.setRow g X).setRow g Y).heap.size = w.heap.size := by
  have h1 : (w.drew.setRow g X).heap[g]? = some (.cells X 55 (0, 0)) := setRow_heap w.drew _ _ _ _ _ hg
  have h2 := setRow_heap _ g X Y _ _ h1
  refine ⟨⟨hl, .inr ⟨g, cap, Y, rfl, hB, h2, hm, hcm, hY, ht⟩⟩, below_setRow (below_setRow (Below.refl _ _).drew hB _) hB _, fun k hne => ?_, by simp⟩
  rw [setRow_other _ _ _ _ hne, setRow_other _ _ _ _ hne]; exact rfl
theorem clear_size {o k n : Nat} {X : Array Value} {z : Array Value} (hz : z.size = 2) (h : o + k * 2 ≤ n) (hX : X.size = n) :
    (X.toList.take o ++ (Builtin.zeroCells z k).toList ++ X.toList.drop (o + (Builtin.zeroCells z k).toList.length)).toArray.size = n := by
  have e : (Builtin.zeroCells z k).toList.length = k * 2 := by rw [Array.length_toList, size_zeroCells, hz]
  simp only [List.size_toArray, List.length_append, List.length_take, List.length_drop, e, Array.length_toList, hX]
  omega
set_option maxHeartbeats 2000000 in
theorem delete_end {w : World} {B g n : Nat} {xs : List Value} (ho : w.ownsRow B 55 2 (.slice (some ⟨g, 0, none⟩) n n) n xs) (i : Nat) (hij : i < n) (hn : n ≤ 4398046511104) :
    Calls Try.prog 48 #[.slice (some ⟨g, 0, none⟩) n n, .int .i64 (i : Int), .int .i64 (n : Int)] w fun e w' =>
      e = .returned (.slice (some ⟨g, 0, none⟩) i n) ∧ w'.ownsRow B 55 2 (.slice (some ⟨g, 0, none⟩) i n) i (xs.take (i * 2)) ∧ Below B w w' ∧ (∀ k, k ≠ g → w'.heap[k]? = w.heap[k]?) ∧ w'.heap.size = w.heap.size := by
  obtain ⟨cur, hBg, hg, hnc, hcm, hcs, htk⟩ := own_row ho
  have q1 : (0 : Int) ≤ (i : Int) := by omega
  have q2 : (i : Int) ≤ (n : Int) := by omega
  have n1 : i ≤ n := by omega
  have qe : ((i : Int) == (n : Int)) = false := by rw [beq_eq_false_iff_ne]; omega
  have HC := Lib.hid hcs; have HT := Lib.hid htk; have HO := Lib.hid ho; have HM := Lib.hid hcm
  clear hcs htk ho hcm hnc
  go_enter Try.func48, Try.ntmps48
  go_wp2_with fail
  refine wp_region_t (by kernel_rfl) ?_
  refine wpAnyT_take 0 (v := ?_) rfl (by kernel_rfl) (by kernel_rfl) (by kernel_rfl) (fun _ _ _ h => h) (by rfl) (by intro W hSw; go_simp; with_reducible rfl) ?_; try simp only [Act.put, List.setIfInBounds_toArray, List.set_cons_zero, List.set_cons_succ]
  refine wpAnyT_take 1 (v := ?_) rfl (by kernel_rfl) (by kernel_rfl) (by kernel_rfl) (fun _ _ _ h => h) (by rfl) (by intro W hSw; go_simp; with_reducible rfl) ?_; try simp only [Act.put, List.setIfInBounds_toArray, List.set_cons_zero, List.set_cons_succ]
  refine wpAnyT_take 2 (v := ?_) rfl (by kernel_rfl) (by kernel_rfl) (by kernel_rfl) (fun _ _ _ h => h) (by rfl) (by intro W hSw; go_simp; with_reducible rfl) ?_; try simp only [Act.put, List.setIfInBounds_toArray, List.set_cons_zero, List.set_cons_succ]
  refine wpAnyT_take 3 (v := ?_) rfl (by kernel_rfl) (by kernel_rfl) (by kernel_rfl) (fun _ _ _ h => h) (by rfl) (by intro W hSw; go_simp; with_reducible rfl) ?_; try simp only [Act.put, List.setIfInBounds_toArray, List.set_cons_zero, List.set_cons_succ]
  refine wpAnyT_take 4 (v := ?_) rfl (by kernel_rfl) (by kernel_rfl) (by kernel_rfl) (fun _ _ _ h => h) (by rfl) (by intro W hSw; go_simp; with_reducible rfl) ?_; try simp only [Act.put, List.setIfInBounds_toArray, List.set_cons_zero, List.set_cons_succ]
  refine wpAnyT_take 5 (v := ?_) rfl (by kernel_rfl) (by kernel_rfl) (by kernel_rfl) (fun _ _ _ h => h) (by rfl) (by intro W hSw; go_simp; with_reducible rfl) ?_; try simp only [Act.put, List.setIfInBounds_toArray, List.set_cons_zero, List.set_cons_succ]
  refine wpAnyT_one 6 (by kernel_rfl) rfl (fun K hK => ?_)
  refine step_append_in (by rfl) (.tmp 22) (.tmp 25) 22 rfl 55 2 32 pairT g i n cur hg rfl ⟨g, 0, none⟩ 0 0 [] rfl (Rd.nil _ _ _) (fun u hu => by cases hu) (by omega) HC.out ?_
  refine hK.out _ _ trivial ?_
  clear hK K; try simp only [Act.put, List.setIfInBounds_toArray, List.set_cons_zero, List.set_cons_succ]
  refine wpAnyT_take 7 (v := ?_) rfl (by kernel_rfl) (by kernel_rfl) (by kernel_rfl) (fun _ _ _ h => h) (by rfl) (by intro W hSw; go_simp; with_reducible rfl) ?_; try simp only [Act.put, List.setIfInBounds_toArray, List.set_cons_zero]
  refine wpAnyT_done (by kernel_rfl) ?_ _
  obtain ⟨W2, hW2⟩ : ∃ W2, W2 = w.drew.setRow g (cur.toList.take (i * 2) ++ [] ++ cur.toList.drop (i * 2 + ([] : List Value).length)).toArray := ⟨_, rfl⟩
  rw [← hW2]
  have hg2 : W2.heap[g]? = some (.cells cur 55 (0, 0)) := by
    rw [hW2, setRow_heap _ _ _ _ _ _ (show w.drew.heap[g]? = _ from hg)]; simp
  have hclr : ∀ ty, (Builtin.clear_ #[22] ty #[.slice (some ⟨g, i * 2, none⟩) (n - i) (n - i)]).run Try.prog W2 = .ok (.tuple #[]) (W2.setRow g _) := fun ty =>
    run_clear_row 22 55 ty (.agg #[.string ByteArray.empty, .string ByteArray.empty]) 2 Try.underlying22 (fun w => by kernel_rfl) rfl (by intro u hu; simp [Value.cells] at hu; rcases hu with rfl | rfl <;> rfl) (by omega) W2 g (i * 2) (n - i) (n - i) cur (by omega) hg2 (by rw [HC.out]; omega)
  have HW2 := Lib.hid hW2
  clear hW2
  go_wp2_with fail
  go_ret
  refine ⟨rfl, ?_⟩
  rw [HW2.out]
  have ht : xs.take (i * 2) = cur.toList.take (i * 2) := by rw [← HT.out, List.take_take]; congr 1; omega
  refine rows_close hg hBg n1 HM.out ?_ ?_ ?_
  · simpa [Value.cells] using clear_size (o := i * 2) (k := n - i) (n := n * 2) (X := cur) (z := (Value.agg #[.string ByteArray.empty, .string ByteArray.empty]).cells) rfl (by omega) HC.out
  · rw [ht]; simp; rw [List.take_append_of_le_length (by simp [HC.out]; omega), List.take_take]; congr 1; omega
  · rw [List.length_take, HO.out.1]; omega
set_option maxHeartbeats 2000000 in
theorem delete_mid {w : World} {B g n cap : Nat} {xs : List Value} (ho : w.ownsRow B 55 2 (.slice (some ⟨g, 0, none⟩) n cap) n xs) (hone : ∀ u ∈ xs, u.oneCell' = true) (i j : Nat) (hij : i < j) (hjn : j ≤ n) (hn : n ≤ 4398046511104) (hcj : ¬ cap = j) :
    Calls Try.prog 48 #[.slice (some ⟨g, 0, none⟩) n cap, .int .i64 (i : Int), .int .i64 (j : Int)] w fun e w' =>
      e = .returned (.slice (some ⟨g, 0, none⟩) (i + (n - j)) cap) ∧ w'.ownsRow B 55 2 (.slice (some ⟨g, 0, none⟩) (i + (n - j)) cap) (i + (n - j)) (xs.take (i * 2) ++ xs.drop (j * 2)) ∧ Below B w w' ∧ (∀ k, k ≠ g → w'.heap[k]? = w.heap[k]?) ∧ w'.heap.size = w.heap.size := by
  obtain ⟨cur, hBg, hg, hnc, hcm, hcs, htk⟩ := own_row ho
  have hR := Rd.cut (Rd.of_own ho) (k := j) (cap := cap) (by omega) (by omega)
  simp only [hcj, if_false, Option.map_some, add_plain, Nat.zero_add] at hR
  have hmx : cap ≤ 9223372036854775807 := by simpa [maxLen] using hcm
  have q1 : (0 : Int) ≤ (i : Int) := by omega
  have q2 : (i : Int) ≤ (j : Int) := by omega
  have q3 : (j : Int) ≤ (n : Int) := by omega
  have q4 : (n : Int) ≤ (cap : Int) := by omega
  have n1 : i ≤ cap := by omega
  have n2 : j ≤ cap := by omega
  have n3 : j ≤ n := hjn
  have qe : ((i : Int) == (j : Int)) = false := by rw [beq_eq_false_iff_ne]; omega
  have HC := Lib.hid hcs; have HT := Lib.hid htk; have HO := Lib.hid ho; have HM := Lib.hid hcm
  clear hcs htk ho hcm
  go_enter Try.func48, Try.ntmps48
  go_wp2_with fail
  refine wp_region_t (by kernel_rfl) ?_
  refine wpAnyT_take 0 (v := ?_) rfl (by kernel_rfl) (by kernel_rfl) (by kernel_rfl) (fun _ _ _ h => h) (by rfl) (by intro W hSw; go_simp; with_reducible rfl) ?_; try simp only [Act.put, List.setIfInBounds_toArray, List.set_cons_zero, List.set_cons_succ]
  refine wpAnyT_take 1 (v := ?_) rfl (by kernel_rfl) (by kernel_rfl) (by kernel_rfl) (fun _ _ _ h => h) (by rfl) (by intro W hSw; go_simp; with_reducible rfl) ?_; try simp only [Act.put, List.setIfInBounds_toArray, List.set_cons_zero, List.set_cons_succ]
  refine wpAnyT_take 2 (v := ?_) rfl (by kernel_rfl) (by kernel_rfl) (by kernel_rfl) (fun _ _ _ h => h) (by rfl) (by intro W hSw; go_simp; with_reducible rfl) ?_; try simp only [Act.put, List.setIfInBounds_toArray, List.set_cons_zero, List.set_cons_succ]
  refine wpAnyT_take 3 (v := ?_) rfl (by kernel_rfl) (by kernel_rfl) (by kernel_rfl) (fun _ _ _ h => h) (by rfl) (by intro W hSw; go_simp; with_reducible rfl) ?_; try simp only [Act.put, List.setIfInBounds_toArray, List.set_cons_zero, List.set_cons_succ]
  refine wpAnyT_take 4 (v := ?_) rfl (by kernel_rfl) (by kernel_rfl) (by kernel_rfl) (fun _ _ _ h => h) (by rfl) (by intro W hSw; go_simp; with_reducible rfl) ?_; try simp only [Act.put, List.setIfInBounds_toArray, List.set_cons_zero, List.set_cons_succ]
  refine wpAnyT_take 5 (v := ?_) rfl (by kernel_rfl) (by kernel_rfl) (by kernel_rfl) (fun _ _ _ h => h) (by rfl) (by intro W hSw; go_simp; with_reducible rfl) ?_; try simp only [Act.put, List.setIfInBounds_toArray, List.set_cons_zero, List.set_cons_succ]
  refine wpAnyT_one 6 (by kernel_rfl) rfl (fun K hK => ?_)
  refine step_append_in (by rfl) (.tmp 22) (.tmp 25) 22 rfl 55 2 32 pairT g i cap cur hg rfl ⟨g, j * 2, none⟩ (n - j) (cap - j) (xs.drop (j * 2)) rfl hR.drew (fun u hu => hone u (List.mem_of_mem_drop hu)) (by omega) HC.out ?_
  refine hK.out _ _ trivial ?_
  clear hK K; try simp only [Act.put, List.setIfInBounds_toArray, List.set_cons_zero, List.set_cons_succ]
  refine wpAnyT_take 7 (v := ?_) rfl (by kernel_rfl) (by kernel_rfl) (by kernel_rfl) (fun _ _ _ h => h) (by rfl) (by intro W hSw; go_simp; with_reducible rfl) ?_; try simp only [Act.put, List.setIfInBounds_toArray, List.set_cons_zero, List.set_cons_succ]
  refine wpAnyT_done (by kernel_rfl) ?_ _
  obtain ⟨m, hm⟩ : ∃ m, m = i + (n - j) := ⟨_, rfl⟩
  have hmn : m < n := by omega
  have hX : (cur.toList.take (i * 2) ++ xs.drop (j * 2) ++ cur.toList.drop (i * 2 + (xs.drop (j * 2)).length)).length = cap * 2 := by
    have h1 := HO.out.1
    simp only [List.length_append, List.length_take, List.length_drop, Array.length_toList, HC.out, h1]
    omega
  have hXt : (cur.toList.take (i * 2) ++ xs.drop (j * 2) ++ cur.toList.drop (i * 2 + (xs.drop (j * 2)).length)).take (m * 2) = xs.take (i * 2) ++ xs.drop (j * 2) := by
    have h1 := HO.out.1
    have h2 : xs.take (i * 2) = cur.toList.take (i * 2) := by rw [← HT.out, List.take_take]; congr 1; omega
    rw [List.take_left' (by simp only [List.length_append, List.length_take, List.length_drop, Array.length_toList, HC.out, h1]; omega), h2]
  have hml : (xs.take (i * 2) ++ xs.drop (j * 2)).length = m * 2 := by
    have h1 := HO.out.1
    simp only [List.length_append, List.length_take, List.length_drop, h1]
    omega
  generalize cur.toList.take (i * 2) ++ xs.drop (j * 2) ++ cur.toList.drop (i * 2 + (xs.drop (j * 2)).length) = X at hX hXt ⊢
  rw [← hm]
  obtain ⟨W2, hW2⟩ : ∃ W2, W2 = w.drew.setRow g X.toArray := ⟨_, rfl⟩
  rw [← hW2]
  have hg2 : W2.heap[g]? = some (.cells X.toArray 55 (0, 0)) := by
    rw [hW2]; exact setRow_heap w.drew _ _ _ _ _ hg
  have hclr : ∀ ty, (Builtin.clear_ #[22] ty #[.slice (some ⟨g, m * 2, none⟩) (n - m) (cap - m)]).run Try.prog W2 = .ok (.tuple #[]) (W2.setRow g _) := fun ty =>
    run_clear_row 22 55 ty (.agg #[.string ByteArray.empty, .string ByteArray.empty]) 2 Try.underlying22 (fun w => by kernel_rfl) rfl (by intro u hu; simp [Value.cells] at hu; rcases hu with rfl | rfl <;> rfl) (by omega) W2 g (m * 2) (n - m) (cap - m) X.toArray (by omega) hg2 (by rw [List.size_toArray, hX]; omega)
  have r1 : (0 : Int) ≤ (m : Int) := by omega
  have r2 : (m : Int) ≤ (n : Int) := by omega
  have r3 : ¬ cap = m := by omega
  have HW2 := Lib.hid hW2; have HMM := Lib.hid hm; have HX := Lib.hid hX; have HXT := Lib.hid hXt; have HML := Lib.hid hml
  clear hW2 hm hX hXt hml
  go_wp2_with fail
  go_ret
  rw [← HMM.out]
  refine ⟨rfl, ?_⟩
  rw [HW2.out]
  refine rows_close hg hBg (by omega) HM.out ?_ ?_ HML.out
  · simpa [Value.cells] using clear_size (o := m * 2) (k := n - m) (n := cap * 2) (X := X.toArray) (z := (Value.agg #[.string ByteArray.empty, .string ByteArray.empty]).cells) rfl (by omega) (by rw [List.size_toArray, HX.out])
  · simp; rw [List.take_append_of_le_length (by simp [HX.out]; omega), List.take_take, Nat.min_self]; exact HXT.out
theorem own_cases {w : World} {base n size c : Nat} {e : TypeId} {A : Option Addr} {xs : List Value} (h : w.ownsRow base e size (.slice A n c) n xs) : (A = none ∧ n = 0 ∧ c = 0 ∧ xs = []) ∨ ∃ g, A = some ⟨g, 0, none⟩ := by
  rcases h.2 with ⟨hv, h0⟩ | ⟨g, cap, cur, hv, _⟩
  · injection hv with h1 h2 h3
    exact .inl ⟨h1, h2, h3, List.eq_nil_of_length_eq_zero (by rw [h.1, h0, Nat.zero_mul])⟩
  · injection hv with h1
    exact .inr ⟨g, h1⟩
set_option maxHeartbeats 400000 in
theorem delete_same (A : Option Addr) (n c i : Nat) (hi : i ≤ n) (hnc : n ≤ c) (hA : (A = none ∧ n = 0 ∧ c = 0) ∨ ∃ g, A = some ⟨g, 0, none⟩) (w : World) :
    Calls Try.prog 48 #[.slice A n c, .int .i64 (i : Int), .int .i64 (i : Int)] w fun e w' => e = .returned (.slice A n c) ∧ w = w' := by
  have q1 : (0 : Int) ≤ (i : Int) := by omega
  have q2 : (i : Int) ≤ (n : Int) := by omega
  have q3 : (n : Int) ≤ (c : Int) := by omega
  have q4 : (i : Int) ≤ (c : Int) := by omega
  have n1 : i ≤ c := by omega
  rcases hA with ⟨rfl, rfl, rfl⟩ | ⟨g, rfl⟩
  · obtain rfl : i = 0 := by omega
    go_enter Try.func48, Try.ntmps48
    go_wp2_with fail
    all_goals (go_ret; exact ⟨rfl, rfl⟩)
  · go_enter Try.func48, Try.ntmps48
    go_wp2_with fail
    all_goals (go_ret; exact ⟨rfl, rfl⟩)
/-- slices.Delete of a slice of the call's own. -/
theorem delete_own {w : World} {B n c : Nat} {A : Option Addr} {L : List Pr} (ho : w.ownsRow B 55 2 (.slice A n c) n (prow L)) (hl : L.length = n) (i j : Nat) (hij : i ≤ j) (hjn : j ≤ n) (hn : n ≤ 4398046511104) :
    Calls Try.prog 48 #[.slice A n c, .int .i64 (i : Int), .int .i64 (j : Int)] w fun e w' =>
      (∃ (v : Value) (m : Nat), e = .returned v ∧ (L.take i ++ L.drop j).length = m ∧ m ≤ n ∧ w'.ownsRow B 55 2 v m (prow (L.take i ++ L.drop j))) ∧ Below B w w' ∧ w.grownBy w' (Value.slice A n c).ownBlock := by
  have hnc := own_cap ho
  rcases Nat.lt_or_ge i j with hlt | hge
  · rcases own_cases ho with ⟨_, h0, _⟩ | ⟨g, rfl⟩
    · omega
    · have e : prow (L.take i ++ L.drop j) = (prow L).take (i * 2) ++ (prow L).drop (j * 2) := by
        have h1 : (prow L).take (i * 2) = prow (L.take i) := rec_take encP_len L i
        have h2 : (prow L).drop (j * 2) = prow (L.drop j) := rec_drop encP_len L j
        rw [h1, h2]; exact rec_append _ _
      have hlen : (L.take i ++ L.drop j).length = i + (n - j) := by rw [List.length_append, List.length_take, List.length_drop, hl]; omega
      by_cases hc : c = j
      · have hjn' : j = n := by omega
        have hcn : c = n := by omega
        subst hjn' hcn
        refine (delete_end ho i hlt hn).mono fun e' w' ⟨he, h1, h2, h3, _⟩ => ⟨⟨_, i, he, by rw [hlen]; omega, by omega, ?_⟩, h2, grown_blocks h2 h3⟩
        rw [e, List.drop_of_length_le (by rw [prow_len, hl]; omega), List.append_nil]; exact h1
      · refine (delete_mid ho (prow_one L) i j hlt hjn hn hc).mono fun e' w' ⟨he, h1, h2, h3, _⟩ => ⟨⟨_, i + (n - j), he, hlen, by omega, ?_⟩, h2, grown_blocks h2 h3⟩
        rw [e]; exact h1
  · obtain rfl : i = j := by omega
    refine (delete_same A n c i hjn hnc (by rcases own_cases ho with ⟨a, b, d, _⟩ | h; exact .inl ⟨a, b, d⟩; exact .inr h) w).mono fun e' w' ⟨he, hw⟩ => ?_
    subst hw
    rw [List.take_append_drop]
    exact ⟨⟨_, n, he, hl, Nat.le_refl _, ho⟩, Below.refl _ _, World.grownBy.refl _ _⟩
/-- slices.Delete of a slice of the call's own. -/
theorem delete_all {w : World} {B n c : Nat} {A : Option Addr} {L : List Pr} (ho : w.ownsRow B 55 2 (.slice A n c) n (prow L)) (hl : L.length = n) (i j : Nat) (hij : i ≤ j) (hjn : j ≤ n) (hn : n ≤ 4398046511104) :
    Calls Try.prog 48 #[.slice A n c, .int .i64 (i : Int), .int .i64 (j : Int)] w fun e w' =>
      (∃ (v : Value) (m : Nat), e = .returned v ∧ (L.take i ++ L.drop j).length = m ∧ m ≤ n ∧ w'.ownsRow B 55 2 v m (prow (L.take i ++ L.drop j))) ∧ Below B w w' :=
  (delete_own (c := c) ho hl i j hij hjn hn).mono fun e w' ⟨h1, h2, _⟩ => ⟨h1, h2⟩
end Go.Proofs.Ytblljpdlmllceaa
/-
  'copy' between rows whose elements are some cells each; slices.overlaps of two blocks.
-/
namespace Go.Proofs.Ytblljpdlmllceaa
open Go.RowKit
theorem run_copy_rowk {P : Program} (w : World) (dT sT ty elem : TypeId) (size g o dLen dCap : Nat) (a : Addr) (sLen sCap : Nat) (cur : Array Value) (t : TypeId) (cs : List Value) (n : Nat)
    (hu : P.underlying dT = some (.slice elem)) (hs : (P.info? elem).map (·.size) = some size)
    (hg : w.heap[g]? = some (.cells cur t (0, 0))) (hn : Nat.min sLen dLen = n) (hl : cs.length = n * size)
    (hsrc : ∀ j v, cs[j]? = some v → w.cell? (a.add j) = some v) (hfit : o + cs.length ≤ cur.size) (h1 : ∀ v ∈ cs, v.oneCell' = true) :
    (Builtin.copy_ #[dT, sT] ty #[.slice (some ⟨g, o, none⟩) dLen dCap, .slice (some a) sLen sCap]).run P w =
      .ok (goInt n) (w.setRow g (cur.toList.take o ++ cs ++ cur.toList.drop (o + cs.length)).toArray) := by
  have hld := run_loadCells_list (P := P) w a cs hsrc
  have hst := run_storeCells_at P g o t cs 0 cur w hg (by simpa using hfit) h1
  cases hq : P.info? elem with
  | none => simp [hq] at hs
  | some i =>
    have hi : i.size = size := by simpa [hq] using hs
    simp [Builtin.copy_, run_underlying hu, Builtin.lenOf, Builtin.firstCells, sizeOf, typeInfo, hq, hi, hn, ← hl, hld, hst]
end Go.Proofs.Ytblljpdlmllceaa
