/-
  What the form's own reach says of incoming data: each string and each slice is small enough.
-/
import Derived.Test.YtblljpdlmllceaaShape2
namespace Go.Proofs.Ytblljpdlmllceaa
open Go.ChangeShapes Go.WideShapes Go.ChangeAt Go.RowKit
set_option linter.unusedVariables false
section
variable {α : Type} {H : Type} {enc : TypeId × Value → H} {P : Program}
/-- Whatever comes in at this type reads so, and keeps that, if it lies within the reach. -/
def OpensQ (enc : TypeId × Value → H) (P : Program) (t : TypeId) (R : Sh α) (Q : α → Prop) : Prop :=
  ∀ (w : World) (base : Nat) (held : Bool) (fuel : Nat) (cs : List Value) (x : DataW H × List MemPlace), DataW.trod enc P w base (fun _ => true) held fuel t cs = some x → ∃ a, R w cs a ∧ ((∀ n, n ∈ DataW.weights P t x.1 → n ≤ reachBytes) → Q a)
theorem opensQ_int {t : TypeId} {k : IntKind} (ht : P.underlying t = some (.int k)) : OpensQ enc P t (IntSh k) (fun _ => True) := by
  intro w base held fuel cs x h
  obtain ⟨n, rfl, rfl, hw⟩ := DataW.trod_int ht h
  exact ⟨n, ⟨rfl, hw⟩, fun _ => trivial⟩
theorem opensQ_string {t : TypeId} (ht : P.underlying t = some .string) : OpensQ enc P t StringSh (fun s => s.size ≤ reachBytes) := by
  intro w base held fuel cs x h
  obtain ⟨s, rfl, rfl, hw⟩ := DataW.trod_string ht h
  refine ⟨s, ⟨rfl, hw⟩, fun hn => ?_⟩
  have := hn s.data.toList.length (by simp [DataW.weights])
  rw [Array.length_toList] at this
  exact this
theorem weightsAll_mem {e : TypeId} {d : DataW H} {l : List (DataW H)} (h : d ∈ l) {n : Nat} (hn : n ∈ DataW.weights P e d) : n ∈ DataW.weightsAll P e l := by
  induction l with
  | nil => cases h
  | cons y r ih =>
    unfold DataW.weightsAll
    rcases List.mem_cons.1 h with rfl | h
    · exact List.mem_append_left _ hn
    · exact List.mem_append_right _ (ih h)
theorem opensQ_slice {t e : TypeId} {size : Nat} {R : Sh α} {Q : α → Prop} [Inhabited α] (ht : P.underlying t = some (.slice e)) (hc : P.cellsOf e = size) (hpos : 0 < size) (hE : OpensQ enc P e R Q) :
    OpensQ enc P t (SliceSh size R) (fun xs => xs.length * P.bytesOf e ≤ reachBytes ∧ ∀ x, x ∈ xs → Q x) := by
  intro w base held fuel cs x h
  rcases Go.Deep.open_slice ht h with ⟨rfl, rfl⟩ | ⟨a, len, cap, mm, n, D, Pl, rfl, hb, hl, hm, hmm, rfl, hx⟩
  · exact ⟨[], ⟨none, 0, rfl, Nat.le_refl _, Nat.zero_le _, fun _ => rfl, fun h => absurd h (by simp)⟩, fun _ => ⟨by simp, fun x hx => by cases hx⟩⟩
  · simp only [if_true] at hmm
    have hmm' := hmm.symm
    subst hmm'
    rw [hc] at hx
    have each : ∀ i, i < cap → ∃ y : α, ∃ us : List Value, us.length = size ∧ (∀ j, j < size → w.cell? ((a.add (i * size)).add j) = us[j]?) ∧ R w us y ∧ ((∀ n, n ∈ DataW.weights P e (D i) → n ≤ reachBytes) → Q y) := by
      intro i hi
      obtain ⟨cs', h1, h2⟩ := hx i hi
      obtain ⟨_, hlen, hcell⟩ := World.cells?_some h1
      obtain ⟨y, hy, hby⟩ := hE _ _ _ _ _ _ h2
      exact ⟨y, cs', hlen, hcell, hy, hby⟩
    obtain ⟨f, hf⟩ := Go.Deep.choose_lt each
    have hlen : ((List.range len).map f).length = len := by simp
    refine ⟨(List.range len).map f, ⟨some a, cap, by rw [hlen], by rw [hlen]; exact hl, hm, by simp, fun h0 => ?_⟩, ?_⟩
    · rw [hlen] at h0
      obtain ⟨us0, hl0, hc0, _⟩ := hf 0 (by omega)
      have h00 := hc0 0 hpos
      rw [List.getElem?_eq_getElem (by omega)] at h00
      have hs := World.cell?_spot h00
      obtain ⟨xb, xo, xs⟩ := a
      have hs' : xs = none := by simpa [Addr.add] using hs
      subst hs'
      refine ⟨xb, xo, rfl, fun i x hx => ?_⟩
      have hi : i < len := by have := (List.getElem?_eq_some_iff.1 hx).1; simpa using this
      obtain ⟨us, hul, huc, hR, _⟩ := hf i (by omega)
      have hxi : x = f i := by simpa [hi] using hx.symm
      subst hxi
      refine ⟨us, hul, fun j u hj => ?_, hR⟩
      have hjs : j < size := by rw [← hul]; exact (List.getElem?_eq_some_iff.1 hj).1
      have := huc j hjs
      rw [add_plain, add_plain] at this
      rw [this, hj]
    · intro hn
      simp only [DataW.weights, ht] at hn
      refine ⟨?_, fun x hx => ?_⟩
      · rw [hlen]
        have h1 := hn _ (List.mem_cons_self ..)
        refine Nat.le_trans (Nat.mul_le_mul_right _ ?_) h1
        simp
      · obtain ⟨i, hi, rfl⟩ := List.mem_map.1 hx
        have hi := List.mem_range.1 hi
        obtain ⟨_, _, _, _, hq⟩ := hf i (by omega)
        exact hq fun n hn' => hn n (List.mem_cons_of_mem _ (List.mem_append_left _ (weightsAll_mem (List.mem_map.2 ⟨i, List.mem_range.2 hi, rfl⟩) hn')))
theorem opensQ_struct3 {β γ : Type} {t : TypeId} {f0 f1 f2 : Field} {R0 : Sh α} {R1 : Sh β} {R2 : Sh γ} {Q0 : α → Prop} {Q1 : β → Prop} {Q2 : γ → Prop} (ht : P.underlying t = some (.struct #[f0, f1, f2])) (hc : P.cellsOf t = 3)
    (ho : f0.offset = 0 ∧ f1.offset = 1 ∧ f2.offset = 2) (hs : P.cellsOf f0.type = 1 ∧ P.cellsOf f1.type = 1 ∧ P.cellsOf f2.type = 1) (h0 : OpensQ enc P f0.type R0 Q0) (h1 : OpensQ enc P f1.type R1 Q1) (h2 : OpensQ enc P f2.type R2 Q2) :
    OpensQ enc P t (fun w cs (a : α × β × γ) => ∃ u0 u1 u2, cs = [u0, u1, u2] ∧ R0 w [u0] a.1 ∧ R1 w [u1] a.2.1 ∧ R2 w [u2] a.2.2) (fun a => Q0 a.1 ∧ Q1 a.2.1 ∧ Q2 a.2.2) := by
  intro w base held fuel cs x h
  obtain ⟨hl, ys, hyl, hx, n, hf⟩ := opens_parts ht h
  rw [hc] at hl
  match cs, hl, ys, hyl with
  | [u0, u1, u2], _, [y0, y1, y2], _ =>
    have g0 := hf 0 f0 rfl
    have g1 := hf 1 f1 rfl
    have g2 := hf 2 f2 rfl
    simp [ho.1, ho.2.1, ho.2.2, hs.1, hs.2.1, hs.2.2] at g0 g1 g2
    obtain ⟨a0, r0, b0⟩ := h0 _ _ _ _ _ _ g0
    obtain ⟨a1, r1, b1⟩ := h1 _ _ _ _ _ _ g1
    obtain ⟨a2, r2, b2⟩ := h2 _ _ _ _ _ _ g2
    refine ⟨(a0, a1, a2), ⟨u0, u1, u2, rfl, r0, r1, r2⟩, ?_⟩
    rw [hx]
    intro hn
    simp only [DataW.weights, ht, List.map_cons, List.map_nil, DataW.weightsEach, List.append_nil] at hn
    exact ⟨b0 fun n h => hn n (List.mem_append_left _ h), b1 fun n h => hn n (List.mem_append_right _ (List.mem_append_left _ h)), b2 fun n h => hn n (List.mem_append_right _ (List.mem_append_right _ h))⟩
/-- An argument that is a slice. -/
theorem open_shQ {t e : TypeId} {W : World} {b base : Nat} {held : Bool} {r : Reach} {v : Value} {d : DataW H} {p : List MemPlace} {R : Sh α} {Q : α → Prop} (hO : OpensQ enc P t R Q) (ht : P.underlying t = some (.slice e))
    (hv : Value.okWide P W r base t v) (h : DataW.Trod enc P W b (fun _ => true) held t v d p) : ∃ a, R W [v] a ∧ ((∀ n, n ∈ DataW.weights P t d → n ≤ reachBytes) → Q a) := by
  obtain ⟨a, len, cap, rfl⟩ := okWide_slice ht hv
  obtain ⟨fuel, hf⟩ := h
  exact hO _ _ _ _ _ _ hf
/-- The j-th argument lies within the reach. -/
theorem weightsEach_at : ∀ {ts : List TypeId} {ds : List (DataW H)} {j : Nat} {t : TypeId} {d : DataW H}, (DataW.weightsEach P ts ds).all (· ≤ reachBytes) = true → ts[j]? = some t → ds[j]? = some d → ∀ n, n ∈ DataW.weights P t d → n ≤ reachBytes
  | t' :: ts, d' :: ds, 0, t, d, h, ht, hd, n, hn => by
    simp only [List.getElem?_cons_zero, Option.some.injEq] at ht hd
    subst ht hd
    unfold DataW.weightsEach at h
    rw [List.all_append, Bool.and_eq_true] at h
    exact of_decide_eq_true (List.all_eq_true.1 h.1 n hn)
  | t' :: ts, d' :: ds, j + 1, t, d, h, ht, hd, n, hn => by
    simp only [List.getElem?_cons_succ] at ht hd
    unfold DataW.weightsEach at h
    rw [List.all_append, Bool.and_eq_true] at h
    exact weightsEach_at h.2 ht hd n hn
  | [], _, _, _, _, _, ht, _, _, _ => by simp at ht
  | _ :: _, [], _, _, _, _, _, hd, _, _ => by simp at hd
end
end Go.Proofs.Ytblljpdlmllceaa
