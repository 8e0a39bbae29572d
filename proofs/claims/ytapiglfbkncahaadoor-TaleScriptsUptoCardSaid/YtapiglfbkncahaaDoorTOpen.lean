/-
  Acts and settings that came in.
-/
import Derived.Test.YtapiglfbkncahaaDoorTScript
import Derived.Test.YtapiglfbkncahaaDoorShape2
namespace Go.Proofs.YtapiglfbkncahaaDoor
open Go.ChangeShapes Go.WideShapes Go.ChangeAt Go.RowKit
set_option linter.unusedVariables false
set_option linter.unusedSimpArgs false
structure AV.I64s (x : AV) : Prop where
  kind : I64 x.kind
  a : I64 x.a
  b : I64 x.b
  n : I64 x.n
def ActSh : Sh AV := fun _ cs x => cs = x.cells ∧ x.I64s
def bulkA (x : AV) : Nat := x.key.length + x.val.length + 6
def SetSh : Sh SV := fun _ cs s => cs = s.row.toList ∧ s.Ok
theorem wf_i64 {n : Int} (h : (Lit.int .i64 n).wf = true) : I64 n := by
  simpa [Lit.wf, IntKind.min, IntKind.max, IntKind.signed, IntKind.bits, I64] using h
section
variable {H : Type} {enc : TypeId × Value → H} {W : World} {b base : Nat} {held : Bool} {r : Reach}
set_option maxRecDepth 20000 in
theorem opens_act : Opens enc Tryd.prog 23 ActSh bulkA := by
  intro w base held fuel cs x h
  obtain ⟨hl, ys, hyl, hx, n, hf⟩ := opens_parts Tryd.underlying23 h
  have hc : Tryd.prog.cellsOf 23 = 6 := by kernel_rfl
  have hi : Tryd.prog.cellsOf 3 = 1 := by kernel_rfl
  have hs : Tryd.prog.cellsOf 9 = 1 := by kernel_rfl
  rw [hc] at hl
  match cs, hl, ys, hyl with
  | [u0, u1, u2, u3, u4, u5], _, [y0, y1, y2, y3, y4, y5], _ =>
    have g0 := hf 0 _ rfl
    have g1 := hf 1 _ rfl
    have g2 := hf 2 _ rfl
    have g3 := hf 3 _ rfl
    have g4 := hf 4 _ rfl
    have g5 := hf 5 _ rfl
    simp [hi, hs] at g0 g1 g2 g3 g4 g5
    obtain ⟨k0, e0, f0, w0⟩ := DataW.trod_int Tryd.underlying3 g0
    obtain ⟨k1, e1, f1, w1⟩ := DataW.trod_int Tryd.underlying3 g1
    obtain ⟨k2, e2, f2, w2⟩ := DataW.trod_int Tryd.underlying3 g2
    obtain ⟨k3, e3, f3, w3⟩ := DataW.trod_int Tryd.underlying3 g3
    obtain ⟨s4, e4, f4, w4⟩ := DataW.trod_string Tryd.underlying9 g4
    obtain ⟨s5, e5, f5, w5⟩ := DataW.trod_string Tryd.underlying9 g5
    simp at e0 e1 e2 e3 e4 e5
    subst e0 e1 e2 e3 e4 e5
    refine ⟨⟨k0, k1, k2, k3, s4.data.toList, s5.data.toList⟩, ⟨rfl, ⟨wf_i64 w0, wf_i64 w1, wf_i64 w2, wf_i64 w3⟩⟩, ?_⟩
    rw [hx]
    simp only [List.map_cons, List.map_nil, Rows.uptoBulk, Rows.uptoBulkAll, f0, f1, f2, f3, f4, f5, bulkA]
    omega
instance : Inhabited AV := ⟨AV.zero⟩
theorem opens_acts : Opens enc Tryd.prog 36 (SliceSh 6 ActSh) (sumM bulkA) :=
  opens_slice (size := 6) Tryd.underlying36 (by kernel_rfl) (by omega) opens_act
set_option maxRecDepth 20000 in
theorem opens_set : Opens enc Tryd.prog 35 SetSh (fun _ => 6) := by
  intro w base held fuel cs x h
  obtain ⟨hl, ys, hyl, hx, n, hf⟩ := opens_parts Tryd.underlying35 h
  have hc : Tryd.prog.cellsOf 35 = 6 := by kernel_rfl
  have hi : Tryd.prog.cellsOf 3 = 1 := by kernel_rfl
  rw [hc] at hl
  match cs, hl, ys, hyl with
  | [u0, u1, u2, u3, u4, u5], _, [y0, y1, y2, y3, y4, y5], _ =>
    have g0 := hf 0 _ rfl
    have g1 := hf 1 _ rfl
    have g2 := hf 2 _ rfl
    have g3 := hf 3 _ rfl
    have g4 := hf 4 _ rfl
    have g5 := hf 5 _ rfl
    simp [hi] at g0 g1 g2 g3 g4 g5
    obtain ⟨k0, e0, f0, w0⟩ := DataW.trod_int Tryd.underlying3 g0
    obtain ⟨k1, e1, f1, w1⟩ := DataW.trod_int Tryd.underlying3 g1
    obtain ⟨k2, e2, f2, w2⟩ := DataW.trod_int Tryd.underlying3 g2
    obtain ⟨k3, e3, f3, w3⟩ := DataW.trod_int Tryd.underlying3 g3
    obtain ⟨k4, e4, f4, w4⟩ := DataW.trod_int Tryd.underlying3 g4
    obtain ⟨k5, e5, f5, w5⟩ := DataW.trod_int Tryd.underlying3 g5
    simp at e0 e1 e2 e3 e4 e5
    subst e0 e1 e2 e3 e4 e5
    refine ⟨⟨k0, k1, k2, k3, k4, k5⟩, ⟨rfl, ?_⟩, ?_⟩
    · intro n hn
      simp only [SV.nums, List.mem_cons, List.not_mem_nil, or_false] at hn
      rcases hn with rfl | rfl | rfl | rfl | rfl | rfl
      · exact wf_i64 w0
      · exact wf_i64 w1
      · exact wf_i64 w2
      · exact wf_i64 w3
      · exact wf_i64 w4
      · exact wf_i64 w5
    · rw [hx]
      simp only [List.map_cons, List.map_nil, Rows.uptoBulk, Rows.uptoBulkAll, f0, f1, f2, f3, f4, f5]
      omega
set_option maxRecDepth 20000 in
/-- An argument that is a struct. -/
theorem open_shA {α : Type} {t : TypeId} {fs : Array Field} {v : Value} {d : DataW H} {p : List MemPlace} {R : Sh α} {m : α → Nat} (hO : Opens enc Tryd.prog t R m) (ht : Tryd.prog.underlying t = some (.struct fs))
    (hv : Value.okWide Tryd.prog W r base t v) (h : DataW.Trod enc Tryd.prog W b (fun _ => true) held t v d p) : ∃ cs a, v = .agg cs ∧ R W cs.toList a ∧ m a + 1 ≤ Rows.uptoBulk d := by
  obtain ⟨cs, rfl, _⟩ := okWide_struct ht hv
  obtain ⟨fuel, hf⟩ := h
  obtain ⟨a, h1, h2⟩ := hO _ _ _ _ _ _ hf
  exact ⟨cs, a, rfl, by simpa [Value.cells] using h1, h2⟩
set_option maxRecDepth 20000 in
theorem open_act {v : Value} {d : DataW H} {p : List MemPlace} (hv : Value.okWide Tryd.prog W r base 23 v) (h : DataW.Trod enc Tryd.prog W b (fun _ => true) held 23 v d p) (hb : Rows.uptoBulk d ≤ 1048576) :
    ∃ x : AV, v = x.val6 ∧ x.Ok ∧ x.key.length ≤ 1048576 ∧ x.val.length ≤ 1048576 := by
  obtain ⟨cs, x, rfl, ⟨hcs, hi⟩, hm⟩ := open_shA opens_act Tryd.underlying23 hv h
  unfold bulkA at hm
  refine ⟨x, ?_, ⟨hi.kind, hi.a, hi.b, hi.n, by omega, by omega⟩, by omega, by omega⟩
  have e : cs = x.row := by apply Array.toList_inj.1; rw [hcs]; rfl
  rw [e]; rfl
set_option maxRecDepth 20000 in
theorem open_set {v : Value} {d : DataW H} {p : List MemPlace} (hv : Value.okWide Tryd.prog W r base 35 v) (h : DataW.Trod enc Tryd.prog W b (fun _ => true) held 35 v d p) :
    ∃ s : SV, v = s.val ∧ s.Ok := by
  obtain ⟨cs, s, rfl, ⟨hcs, hi⟩, hm⟩ := open_shA opens_set Tryd.underlying35 hv h
  refine ⟨s, ?_, hi⟩
  have e : cs = s.row := Array.toList_inj.1 hcs
  rw [e]; rfl
end
end Go.Proofs.YtapiglfbkncahaaDoor
