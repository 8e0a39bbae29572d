/-
  How incoming data reads: shapes (relations between cells and plain data), each opened from the row's tread; with its bulk.
-/
import Derived.Test.YtcmollfhlillfaaGreatDoorFrame
import Derived.Deep.Slices
namespace Go.Proofs.YtcmollfhlillfaaGreatDoor
open Go.ChangeShapes Go.WideShapes Go.ChangeAt Go.RowKit
set_option linter.unusedVariables false
/-- Cells of a value read as this. -/
abbrev Sh (α : Type) := World → List Value → α → Prop
def IntSh (k : IntKind) : Sh Int := fun _ cs n => cs = [.int k n] ∧ (Lit.int k n).wf = true
def BoolSh : Sh Bool := fun _ cs b => cs = [.bool b]
def StringSh : Sh ByteArray := fun _ cs s => cs = [.string s] ∧ s.size ≤ maxLen
def BytesSh : Sh (List UInt8) := fun w cs l => ∃ A c, cs = [.slice A l.length c] ∧ l.length ≤ c ∧ c ≤ maxLen ∧ (A = none → l.length = 0) ∧ Rd w 1 A l.length (bvs l)
def SliceSh {α : Type} (size : Nat) (R : Sh α) : Sh (List α) := fun w cs xs => ∃ A c, cs = [.slice A xs.length c] ∧ xs.length ≤ c ∧ c ≤ maxLen ∧ (A = none → xs.length = 0) ∧
  (0 < xs.length → ∃ b o, A = some ⟨b, o, none⟩ ∧ ∀ i x, xs[i]? = some x → ∃ us, us.length = size ∧ (∀ j u, us[j]? = some u → w.cell? ⟨b, o + i * size + j, none⟩ = some u) ∧ R w us x)
/-- The bulk of a list. -/
def sumM {α : Type} (m : α → Nat) : List α → Nat
  | [] => 0
  | x :: r => m x + 1 + sumM m r
theorem sumM_length {α : Type} (m : α → Nat) (l : List α) : l.length ≤ sumM m l := by
  induction l with
  | nil => exact Nat.le_refl _
  | cons x r ih => simp only [sumM, List.length_cons]; omega
theorem sumM_mem {α : Type} {m : α → Nat} {x : α} {l : List α} (h : x ∈ l) : m x + 1 ≤ sumM m l := by
  induction l with
  | nil => cases h
  | cons y r ih =>
    simp only [sumM]
    rcases List.mem_cons.1 h with rfl | h
    · omega
    · have := ih h; omega
section
variable {α : Type} {H : Type} {enc : TypeId × Value → H} {P : Program}
/-- Whatever comes in at this type reads so. -/
def Opens (enc : TypeId × Value → H) (P : Program) (t : TypeId) (R : Sh α) (m : α → Nat) : Prop :=
  ∀ (w : World) (base : Nat) (held : Bool) (fuel : Nat) (cs : List Value) (x : DataW H × List MemPlace), DataW.trod enc P w base (fun _ => true) held fuel t cs = some x → ∃ a, R w cs a ∧ m a + 1 ≤ Rows.uptoBulk x.1
theorem opens_int {t : TypeId} {k : IntKind} (ht : P.underlying t = some (.int k)) : Opens enc P t (IntSh k) (fun _ => 0) := by
  intro w base held fuel cs x h
  obtain ⟨n, rfl, rfl, hw⟩ := DataW.trod_int ht h
  exact ⟨n, ⟨rfl, hw⟩, bulk_one _⟩
theorem opens_bool {t : TypeId} (ht : P.underlying t = some .bool) : Opens enc P t BoolSh (fun _ => 0) := by
  intro w base held fuel cs x h
  obtain ⟨n, rfl, rfl⟩ := DataW.trod_bool ht h
  exact ⟨n, rfl, bulk_one _⟩
theorem opens_string {t : TypeId} (ht : P.underlying t = some .string) : Opens enc P t StringSh (fun s => s.size) := by
  intro w base held fuel cs x h
  obtain ⟨s, rfl, rfl, hw⟩ := DataW.trod_string ht h
  exact ⟨s, ⟨rfl, hw⟩, Nat.le_of_eq (by show s.data.size + 1 = s.data.toList.length + 1; rw [Array.length_toList])⟩
theorem bulk_range {D : Nat → DataW H} {f : Nat → α} {m : α → Nat} {k : Nat} (h : ∀ i, i < k → m (f i) + 1 ≤ Rows.uptoBulk (D i)) : sumM m ((List.range k).map f) ≤ Rows.uptoBulkAll ((List.range k).map D) := by
  have gen : ∀ (l : List Nat), (∀ i ∈ l, i < k) → sumM m (l.map f) ≤ Rows.uptoBulkAll (l.map D) := by
    intro l hl
    induction l with
    | nil => exact Nat.le_refl _
    | cons i l ih =>
      have h1 := h i (hl i (List.mem_cons_self ..))
      have h2 := ih fun j hj => hl j (List.mem_cons_of_mem _ hj)
      simp only [List.map_cons, sumM, Rows.uptoBulkAll]
      omega
  exact gen _ fun i hi => List.mem_range.1 hi
theorem opens_slice {t e : TypeId} {size : Nat} {R : Sh α} {m : α → Nat} [Inhabited α] (ht : P.underlying t = some (.slice e)) (hc : P.cellsOf e = size) (hpos : 0 < size) (hE : Opens enc P e R m) :
    Opens enc P t (SliceSh size R) (sumM m) := by
  intro w base held fuel cs x h
  rcases Go.Deep.open_slice ht h with ⟨rfl, rfl⟩ | ⟨a, len, cap, mm, n, D, Pl, rfl, hb, hl, hm, hmm, rfl, hx⟩
  · exact ⟨[], ⟨none, 0, rfl, Nat.le_refl _, Nat.zero_le _, fun _ => rfl, fun h => absurd h (by simp)⟩, by simp [Rows.uptoBulk, sumM]⟩
  · simp only [if_true] at hmm
    have hmm' := hmm.symm
    subst hmm'
    rw [hc] at hx
    have each : ∀ i, i < cap → ∃ y : α, ∃ us : List Value, us.length = size ∧ (∀ j, j < size → w.cell? ((a.add (i * size)).add j) = us[j]?) ∧ R w us y ∧ m y + 1 ≤ Rows.uptoBulk (D i) := by
      intro i hi
      obtain ⟨cs', h1, h2⟩ := hx i hi
      obtain ⟨_, hlen, hcell⟩ := World.cells?_some h1
      obtain ⟨y, hy, hby⟩ := hE _ _ _ _ _ _ h2
      exact ⟨y, cs', hlen, hcell, hy, hby⟩
    obtain ⟨f, hf⟩ := Go.Deep.choose_lt each
    have hlen : ((List.range len).map f).length = len := by simp
    refine ⟨(List.range len).map f, ⟨some a, cap, by rw [hlen], by rw [hlen]; exact hl, hm, by simp, fun h0 => ?_⟩, ?_⟩
    · rw [hlen] at h0
      obtain ⟨us0, hl0, hc0, _⟩ := hf 0 (by omega)
      have h00 := hc0 0 hpos
      rw [List.getElem?_eq_getElem (by omega)] at h00
      have hs := World.cell?_spot h00
      obtain ⟨xb, xo, xs⟩ := a
      have hs' : xs = none := by simpa [Addr.add] using hs
      subst hs'
      refine ⟨xb, xo, rfl, fun i x hx => ?_⟩
      have hi : i < len := by have := (List.getElem?_eq_some_iff.1 hx).1; simpa using this
      obtain ⟨us, hul, huc, hR, _⟩ := hf i (by omega)
      have hxi : x = f i := by simpa [hi] using hx.symm
      subst hxi
      refine ⟨us, hul, fun j u hj => ?_, hR⟩
      have hjs : j < size := by rw [← hul]; exact (List.getElem?_eq_some_iff.1 hj).1
      have := huc j hjs
      rw [add_plain, add_plain] at this
      rw [this, hj]
    · have h1 := bulk_range (D := D) (f := f) (m := m) (k := len) fun i hi => by obtain ⟨_, _, _, _, h⟩ := hf i (by omega); exact h
      simp only [Rows.uptoBulk]
      omega
theorem opens_bytes {t e : TypeId} (ht : P.underlying t = some (.slice e)) (he : P.underlying e = some (.int .u8)) (hc : P.cellsOf e = 1) : Opens enc P t BytesSh (fun l => l.length) := by
  intro w base held fuel cs x hf
  rcases open_ints ht he hc hf with ⟨rfl, rfl⟩ | ⟨a, len, cap, zs, rfl, _, hl, hm, hz, rfl, hcell, hwz⟩
  · exact ⟨[], ⟨none, 0, rfl, Nat.le_refl _, Nat.zero_le _, fun _ => rfl, Rd.nil _ _ _⟩, by simp [Rows.uptoBulk]⟩
  · simp only [if_true] at hz
    have hlen : ((zs.take len).map fun n => UInt8.ofNat n.toNat).length = len := by simp; omega
    refine ⟨(zs.take len).map fun n => UInt8.ofNat n.toNat, ⟨some a, cap, by rw [hlen], by rw [hlen]; exact hl, hm, by simp, ?_⟩, ?_⟩
    · obtain ⟨xb, xo, xs⟩ := a
      refine ⟨by rw [hlen]; simp [bvs]; omega, fun h0 => ?_⟩
      have hz0 : 0 < zs.length := by
        simp [bvs] at h0
        omega
      have hs := World.cell?_spot (hcell 0 hz0)
      have hs' : xs = none := by simpa [Addr.add] using hs
      subst hs'
      refine ⟨xb, xo, rfl, fun j u hu => ?_⟩
      have hj : j < len ∧ j < zs.length := by
        have := (List.getElem?_eq_some_iff.1 hu).1
        simp [bvs] at this
        omega
      have hc := hcell j hj.2
      rw [add_plain] at hc
      rw [hc]
      have hw : (Lit.int .u8 zs[j]).wf = true := hwz _ (List.getElem_mem hj.2)
      have hb : 0 ≤ zs[j] ∧ zs[j] ≤ 255 := by simpa [Lit.wf, IntKind.min, IntKind.max, IntKind.signed, IntKind.bits] using hw
      simp [bvs, hj.1, List.getElem?_eq_getElem hj.2, bv] at hu
      rw [← hu]
      simp [List.getD, List.getElem?_eq_getElem hj.2]
      omega
    · have h1 := bulk_length (H := H) (lits .u8 (zs.take len))
      simp only [Rows.uptoBulk]
      rw [show (lits .u8 (zs.take len) : List (DataW H)).length = len from by simp [lits]; omega] at h1
      rw [hlen]
      omega
/-- A struct's parts. -/
theorem opens_parts {t : TypeId} {fs : Array Field} (ht : P.underlying t = some (.struct fs)) {w : World} {base : Nat} {held : Bool} {fuel : Nat} {cs : List Value} {x : DataW H × List MemPlace}
    (h : DataW.trod enc P w base (fun _ => true) held fuel t cs = some x) :
    cs.length = P.cellsOf t ∧ ∃ ys : List (DataW H × List MemPlace), ys.length = fs.size ∧ x.1 = .agg (ys.map (·.1)) ∧ ∃ n, ∀ (i : Nat) (f : Field), fs[i]? = some f → DataW.trod enc P w base (fun _ => true) held n f.type ((cs.drop f.offset).take (P.cellsOf f.type)) = ys[i]? := by
  obtain ⟨xs, n, _, rfl, hl, hxl, hf⟩ := DataW.trod_struct ht h
  exact ⟨hl, xs, hxl, rfl, n, hf⟩
theorem opens_struct2 {β : Type} {t : TypeId} {f0 f1 : Field} {R0 : Sh α} {R1 : Sh β} {m0 : α → Nat} {m1 : β → Nat} (ht : P.underlying t = some (.struct #[f0, f1])) (hc : P.cellsOf t = 2) (ho : f0.offset = 0 ∧ f1.offset = 1)
    (hs : P.cellsOf f0.type = 1 ∧ P.cellsOf f1.type = 1) (h0 : Opens enc P f0.type R0 m0) (h1 : Opens enc P f1.type R1 m1) :
    Opens enc P t (fun w cs (a : α × β) => ∃ u0 u1, cs = [u0, u1] ∧ R0 w [u0] a.1 ∧ R1 w [u1] a.2) (fun a => m0 a.1 + m1 a.2 + 2) := by
  intro w base held fuel cs x h
  obtain ⟨hl, ys, hyl, hx, n, hf⟩ := opens_parts ht h
  rw [hc] at hl
  match cs, hl, ys, hyl with
  | [u0, u1], _, [y0, y1], _ =>
    have g0 := hf 0 f0 rfl
    have g1 := hf 1 f1 rfl
    simp [ho.1, ho.2, hs.1, hs.2] at g0 g1
    obtain ⟨a0, r0, b0⟩ := h0 _ _ _ _ _ _ g0
    obtain ⟨a1, r1, b1⟩ := h1 _ _ _ _ _ _ g1
    refine ⟨(a0, a1), ⟨u0, u1, rfl, r0, r1⟩, ?_⟩
    rw [hx]
    simp only [List.map_cons, List.map_nil, Rows.uptoBulk, Rows.uptoBulkAll]
    omega
theorem opens_struct3 {β γ : Type} {t : TypeId} {f0 f1 f2 : Field} {R0 : Sh α} {R1 : Sh β} {R2 : Sh γ} {m0 : α → Nat} {m1 : β → Nat} {m2 : γ → Nat} (ht : P.underlying t = some (.struct #[f0, f1, f2])) (hc : P.cellsOf t = 3)
    (ho : f0.offset = 0 ∧ f1.offset = 1 ∧ f2.offset = 2) (hs : P.cellsOf f0.type = 1 ∧ P.cellsOf f1.type = 1 ∧ P.cellsOf f2.type = 1) (h0 : Opens enc P f0.type R0 m0) (h1 : Opens enc P f1.type R1 m1) (h2 : Opens enc P f2.type R2 m2) :
    Opens enc P t (fun w cs (a : α × β × γ) => ∃ u0 u1 u2, cs = [u0, u1, u2] ∧ R0 w [u0] a.1 ∧ R1 w [u1] a.2.1 ∧ R2 w [u2] a.2.2) (fun a => m0 a.1 + m1 a.2.1 + m2 a.2.2 + 3) := by
  intro w base held fuel cs x h
  obtain ⟨hl, ys, hyl, hx, n, hf⟩ := opens_parts ht h
  rw [hc] at hl
  match cs, hl, ys, hyl with
  | [u0, u1, u2], _, [y0, y1, y2], _ =>
    have g0 := hf 0 f0 rfl
    have g1 := hf 1 f1 rfl
    have g2 := hf 2 f2 rfl
    simp [ho.1, ho.2.1, ho.2.2, hs.1, hs.2.1, hs.2.2] at g0 g1 g2
    obtain ⟨a0, r0, b0⟩ := h0 _ _ _ _ _ _ g0
    obtain ⟨a1, r1, b1⟩ := h1 _ _ _ _ _ _ g1
    obtain ⟨a2, r2, b2⟩ := h2 _ _ _ _ _ _ g2
    refine ⟨(a0, a1, a2), ⟨u0, u1, u2, rfl, r0, r1, r2⟩, ?_⟩
    rw [hx]
    simp only [List.map_cons, List.map_nil, Rows.uptoBulk, Rows.uptoBulkAll]
    omega
theorem opens_struct5 {β γ δ ε : Type} {t : TypeId} {f0 f1 f2 f3 f4 : Field} {R0 : Sh α} {R1 : Sh β} {R2 : Sh γ} {R3 : Sh δ} {R4 : Sh ε} {m0 : α → Nat} {m1 : β → Nat} {m2 : γ → Nat} {m3 : δ → Nat} {m4 : ε → Nat} (ht : P.underlying t = some (.struct #[f0, f1, f2, f3, f4])) (hc : P.cellsOf t = 5)
    (ho : f0.offset = 0 ∧ f1.offset = 1 ∧ f2.offset = 2 ∧ f3.offset = 3 ∧ f4.offset = 4) (hs : P.cellsOf f0.type = 1 ∧ P.cellsOf f1.type = 1 ∧ P.cellsOf f2.type = 1 ∧ P.cellsOf f3.type = 1 ∧ P.cellsOf f4.type = 1)
    (h0 : Opens enc P f0.type R0 m0) (h1 : Opens enc P f1.type R1 m1) (h2 : Opens enc P f2.type R2 m2) (h3 : Opens enc P f3.type R3 m3) (h4 : Opens enc P f4.type R4 m4) :
    Opens enc P t (fun w cs (a : α × β × γ × δ × ε) => ∃ u0 u1 u2 u3 u4, cs = [u0, u1, u2, u3, u4] ∧ R0 w [u0] a.1 ∧ R1 w [u1] a.2.1 ∧ R2 w [u2] a.2.2.1 ∧ R3 w [u3] a.2.2.2.1 ∧ R4 w [u4] a.2.2.2.2) (fun a => m0 a.1 + m1 a.2.1 + m2 a.2.2.1 + m3 a.2.2.2.1 + m4 a.2.2.2.2 + 5) := by
  intro w base held fuel cs x h
  obtain ⟨hl, ys, hyl, hx, n, hf⟩ := opens_parts ht h
  rw [hc] at hl
  match cs, hl, ys, hyl with
  | [u0, u1, u2, u3, u4], _, [y0, y1, y2, y3, y4], _ =>
    have g0 := hf 0 f0 rfl
    have g1 := hf 1 f1 rfl
    have g2 := hf 2 f2 rfl
    have g3 := hf 3 f3 rfl
    have g4 := hf 4 f4 rfl
    simp [ho.1, ho.2.1, ho.2.2.1, ho.2.2.2.1, ho.2.2.2.2, hs.1, hs.2.1, hs.2.2.1, hs.2.2.2.1, hs.2.2.2.2] at g0 g1 g2 g3 g4
    obtain ⟨a0, r0, b0⟩ := h0 _ _ _ _ _ _ g0
    obtain ⟨a1, r1, b1⟩ := h1 _ _ _ _ _ _ g1
    obtain ⟨a2, r2, b2⟩ := h2 _ _ _ _ _ _ g2
    obtain ⟨a3, r3, b3⟩ := h3 _ _ _ _ _ _ g3
    obtain ⟨a4, r4, b4⟩ := h4 _ _ _ _ _ _ g4
    refine ⟨(a0, a1, a2, a3, a4), ⟨u0, u1, u2, u3, u4, rfl, r0, r1, r2, r3, r4⟩, ?_⟩
    rw [hx]
    simp only [List.map_cons, List.map_nil, Rows.uptoBulk, Rows.uptoBulkAll]
    omega
/-- An argument that is a slice. -/
theorem open_sh {t e : TypeId} {W : World} {b base : Nat} {held : Bool} {r : Reach} {v : Value} {d : DataW H} {p : List MemPlace} {R : Sh α} {m : α → Nat} (hO : Opens enc P t R m) (ht : P.underlying t = some (.slice e))
    (hv : Value.okWide P W r base t v) (h : DataW.Trod enc P W b (fun _ => true) held t v d p) : ∃ a, R W [v] a ∧ m a + 1 ≤ Rows.uptoBulk d := by
  obtain ⟨a, len, cap, rfl⟩ := okWide_slice ht hv
  obtain ⟨fuel, hf⟩ := h
  exact hO _ _ _ _ _ _ hf
theorem SliceSh.at_ {size : Nat} {R : Sh α} {w : World} {A : Option Addr} {n c : Nat} {xs : List α} (h : SliceSh size R w [.slice A n c] xs) {i : Nat} {x : α} (hx : xs[i]? = some x) :
    n = xs.length ∧ ∃ b o, A = some ⟨b, o, none⟩ ∧ ∃ us, us.length = size ∧ (∀ j u, us[j]? = some u → w.cell? ⟨b, o + i * size + j, none⟩ = some u) ∧ R w us x := by
  obtain ⟨A', c', hv, _, _, _, hx'⟩ := h
  injection hv with hv
  injection hv with h1 h2 h3
  subst h1
  have hi := (List.getElem?_eq_some_iff.1 hx).1
  obtain ⟨b, o, rfl, he⟩ := hx' (by omega)
  exact ⟨h2, b, o, rfl, he i x hx⟩
end
end Go.Proofs.YtcmollfhlillfaaGreatDoor
