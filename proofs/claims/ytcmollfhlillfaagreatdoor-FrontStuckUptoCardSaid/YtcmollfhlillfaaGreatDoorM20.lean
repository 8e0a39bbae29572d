/-
  Texts of this seat in one: Frame.
-/
import Derived.Test.YtcmollfhlillfaaGreatDoorRows
import Derived.Test.YtcmollfhlillfaaGreatDoorM3
import Derived.ProofKit
import Derived.OpenShut
import Derived.ShutString
import Derived.ChangeOld
import Derived.SizedLaws
import Derived.JoinedCond
import Derived.Deep.CondSized
/-
  The frame of a law's proof: a law that returns true and writes nothing that was there meets its row. And: how the arguments read.
-/
namespace Go.Proofs.YtcmollfhlillfaaGreatDoor
open Go.ChangeShapes Go.WideShapes Go.ChangeAt Go.RowKit
open Go.ChangeMaps (open_string shut_string)
theorem own : ownKnob Tryz.prog.godebug = none := by kernel_rfl
theorem laidOut : laidOutB Tryz.prog = true := by kernel_rfl

section
variable {H : Type} {enc : TypeId × Value → H} {P : Program}
theorem trodAll_below (hl : laidOutB P = true) {W W' : World} (hb : Below W.heap.size W W') :
    ∀ {ts : List TypeId} {vs : List Value} {ds : List (DataW H)} {ps : List MemPlace}, (ts.all fun t => P.readableRec t && decide (t < P.types.size)) = true →
      DataW.TrodAll enc P W 0 (fun _ => true) true ts vs ds ps → (∀ x ∈ ps, x.block < W.heap.size) → DataW.TrodAll enc P W' 0 (fun b => decide (b < W.heap.size)) true ts vs ds ps
  | [], vs, ds, ps, _, h, _ => by
    obtain ⟨rfl, rfl, rfl⟩ := trodAll_nil h
    exact trodAll_mk0
  | t :: ts, vs, ds, ps, hr, h, hlt => by
    obtain ⟨v, vs', d, ds', p, q, rfl, rfl, rfl, h1, h2⟩ := trodAll_cons h
    simp only [List.all_cons, Bool.and_eq_true] at hr
    obtain ⟨⟨hr1, hr2⟩, hr3⟩ := hr
    exact trodAll_cons_mk (Below.trod hl hr1 (of_decide_eq_true hr2) h1 hb fun x hx => hlt x (by simp [hx])) (trodAll_below hl hb hr3 h2 fun x hx => hlt x (by simp [hx]))

/-- The step from 'it returns true, and writes nothing that was there' to the row's own condition. -/
theorem post_law (hl : laidOutB P = true) {f : Func} {s : ChangeSpec} {W W' : World} {args : Array Value} {ds gs : List (DataW H)} {before : List MemPlace} {T : TypeId}
    (hres : f.resultTypes = #[T]) (hT : P.underlying T = some .bool) (hvars : s.vars = []) (hts : (f.params.toList.all fun t => P.readableRec t && decide (t < P.types.size)) = true)
    (hW : DataW.Whole enc P f.params.toList s.vars false W args.toList ds gs before)
    (hs1 : (s.fn H (ds ++ gs)).results = [.lit (.bool true)]) (hs2 : (s.fn H (ds ++ gs)).args = ds) (hs3 : (s.fn H (ds ++ gs)).vars = []) (hb : Below W.heap.size W W') :
    s.post enc P f false true false false W args (.bool true) W' := by
  have hW' := hW
  obtain ⟨p, q, hA, hV, rfl, hfz, hnd⟩ := hW
  rw [hvars] at hV
  obtain ⟨rfl, rfl⟩ := trodVars_none hV
  have hlt : ∀ x ∈ p, x.block < W.heap.size := fun x hx => hW'.lt x (by simp [hx])
  refine ⟨_, [], _, [], p, [], hW', ?_, ?_, ?_, hb.frame _, fun h => by cases h⟩
  · rw [hs1, hres]
    exact trodAll_mk1 (shut_bool hT true)
  · rw [hs2]
    have := trodAll_below hl hb hts hA hlt
    simpa using this
  · rw [hs3, hvars]; rfl
end

/-! The bound of the second form. -/
theorem bulk_one {H : Type} (d : DataW H) : 1 ≤ Rows.uptoBulk d := by
  cases d with
  | lit l => cases l <;> simp [Rows.uptoBulk]
  | _ => simp [Rows.uptoBulk]
theorem bulk_length {H : Type} (l : List (DataW H)) : l.length ≤ Rows.uptoBulkAll l := by
  induction l with
  | nil => simp [Rows.uptoBulkAll]
  | cons x r ih => have := bulk_one x; simp only [Rows.uptoBulkAll, List.length_cons]; omega
theorem bulk_mem {H : Type} {d : DataW H} {l : List (DataW H)} (h : d ∈ l) : Rows.uptoBulk d ≤ Rows.uptoBulkAll l := by
  induction l with
  | nil => cases h
  | cons x r ih =>
    simp only [Rows.uptoBulkAll]
    cases List.mem_cons.1 h with
    | inl e => subst e; omega
    | inr e => have := ih e; omega
theorem bulk_append {H : Type} (l r : List (DataW H)) : Rows.uptoBulkAll (l ++ r) = Rows.uptoBulkAll l + Rows.uptoBulkAll r := by
  induction l with
  | nil => simp [Rows.uptoBulkAll]
  | cons x l ih => simp only [List.cons_append, Rows.uptoBulkAll, ih]; omega
theorem bulk_bound {H : Type} {l : List (DataW H)} (hk : Rows.uptoSmall H (l ++ []) = true) : Rows.uptoBulkAll l ≤ 1048576 := by
  rw [List.append_nil] at hk
  exact of_decide_eq_true hk
theorem bulk_slice {H : Type} {d : DataW H} {c : Nat} (hd : (d = .nil ∧ c = 0) ∨ ∃ el sp, d = .slice el sp ∧ el.length + sp.length = c) : c + 1 ≤ Rows.uptoBulk d := by
  rcases hd with ⟨rfl, rfl⟩ | ⟨el, sp, rfl, hc⟩
  · simp [Rows.uptoBulk]
  · have h1 := bulk_length el
    have h2 := bulk_length sp
    simp only [Rows.uptoBulk]
    omega

section
variable {H : Type} {enc : TypeId × Value → H} {P : Program} {W : World} {b base : Nat} {held : Bool} {r : Reach}
/-- A slice of bytes that came in. -/
theorem open_bytes {t e : TypeId} {v : Value} {d : DataW H} {p : List MemPlace} (ht : P.underlying t = some (.slice e)) (he : P.underlying e = some (.int .u8)) (hc : P.cellsOf e = 1)
    (hv : Value.okWide P W r base t v) (h : DataW.Trod enc P W b (fun _ => true) held t v d p) :
    ∃ (A : Option Addr) (c : Nat) (l : List UInt8), v = .slice A l.length c ∧ l.length ≤ c ∧ c ≤ maxLen ∧ (A = none → l.length = 0) ∧ Rd W 1 A l.length (bvs l) ∧
      ((d = .nil ∧ c = 0) ∨ ∃ el sp, d = .slice el sp ∧ el.length + sp.length = c) := by
  obtain ⟨a, len, cap, rfl⟩ := okWide_slice ht hv
  obtain ⟨fuel, hf⟩ := h
  rcases open_ints ht he hc hf with ⟨hcs, hx⟩ | ⟨x, l, c, zs, hcs, _, hl, hm, hz, hx, hcell, hwz⟩
  · simp [Value.cells] at hcs
    obtain ⟨rfl, rfl, rfl⟩ := hcs
    simp only [Prod.mk.injEq] at hx
    exact ⟨none, 0, [], rfl, Nat.le_refl _, Nat.zero_le _, fun _ => rfl, Rd.nil _ _ _, .inl ⟨hx.1, rfl⟩⟩
  · simp [Value.cells] at hcs
    obtain ⟨rfl, rfl, rfl⟩ := hcs
    simp only [if_true] at hz
    simp only [Prod.mk.injEq] at hx
    have hlen : ((zs.take len).map fun n => UInt8.ofNat n.toNat).length = len := by simp; omega
    refine ⟨some x, cap, (zs.take len).map fun n => UInt8.ofNat n.toNat, by rw [hlen], by omega, hm, by simp, ?_, .inr ⟨_, _, hx.1, by simp [lits]; omega⟩⟩
    obtain ⟨xb, xo, xs⟩ := x
    refine ⟨by rw [hlen]; simp [bvs]; omega, fun h0 => ?_⟩
    have hz0 : 0 < zs.length := by
      simp [bvs] at h0
      omega
    have hs := World.cell?_spot (hcell 0 hz0)
    have hs' : xs = none := by simpa [Addr.add] using hs
    subst hs'
    refine ⟨xb, xo, rfl, fun j u hu => ?_⟩
    have hj : j < len ∧ j < zs.length := by
      have := (List.getElem?_eq_some_iff.1 hu).1
      simp [bvs] at this
      omega
    have hc := hcell j hj.2
    rw [add_plain] at hc
    rw [hc]
    have hw : (Lit.int .u8 zs[j]).wf = true := hwz _ (List.getElem_mem hj.2)
    have hb : 0 ≤ zs[j] ∧ zs[j] ≤ 255 := by simpa [Lit.wf, IntKind.min, IntKind.max, IntKind.signed, IntKind.bits] using hw
    simp [bvs, hj.1, List.getElem?_eq_getElem hj.2, bv] at hu
    rw [← hu]
    simp [List.getD, List.getElem?_eq_getElem hj.2]
    omega
/-- The reach: a slice of bytes that came in. -/
theorem bytes_reach {ts : List TypeId} {ds : List (DataW H)} (h : (DataW.weightsEach P ts ds).all (· ≤ reachBytes) = true) {j : Nat} {t e : TypeId} {d : DataW H} {c : Nat} (ht : ts[j]? = some t) (hj : ds[j]? = some d)
    (hu : P.underlying t = some (.slice e)) (hb : P.bytesOf e = 1) (hd : (d = .nil ∧ c = 0) ∨ ∃ el sp, d = .slice el sp ∧ el.length + sp.length = c) : c ≤ 140737488351232 := by
  rcases hd with ⟨_, rfl⟩ | ⟨el, sp, rfl, hc⟩
  · omega
  · have := sized_slice h ht hj hu
    rw [hb, hc, Nat.mul_one] at this
    simpa [reachBytes] using this
end
end Go.Proofs.YtcmollfhlillfaaGreatDoor
