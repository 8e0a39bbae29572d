/-
  tale.Act: an act stored, an act answered.
-/
import Derived.Test.YtjkopohmcabfjaaGreatDoorTActB
import Derived.Laws.ResultCell
import Derived.Laws.Rows
namespace Go.Proofs.YtjkopohmcabfjaaGreatDoor
open Go.RowKit
set_option linter.unusedVariables false
set_option linter.unusedSimpArgs false
/-- Six stores: an act over an act. -/
def put6 (w : World) (d : Nat) (x : AV) : World := (((((w.setCell ⟨d, 0, none⟩ (.int .i64 x.kind)).setCell ⟨d, 1, none⟩ (.int .i64 x.a)).setCell ⟨d, 2, none⟩ (.int .i64 x.b)).setCell ⟨d, 3, none⟩ (.int .i64 x.n)).setCell ⟨d, 4, none⟩ (.string ⟨x.key.toArray⟩)).setCell ⟨d, 5, none⟩ (.string ⟨x.val.toArray⟩)
theorem put6_row {w : World} {d : Nat} {y : AV} {t : TypeId} (x : AV) (h : w.heap[d]? = some (.cells y.row t (0, 0))) : (put6 w d x).heap[d]? = some (.cells x.row t (0, 0)) := by
  have h1 := heap_setCell_same w d 0 _ _ (.int .i64 x.kind) h
  have h2 := heap_setCell_same _ d 1 _ _ (.int .i64 x.a) h1
  have h3 := heap_setCell_same _ d 2 _ _ (.int .i64 x.b) h2
  have h4 := heap_setCell_same _ d 3 _ _ (.int .i64 x.n) h3
  have h5 := heap_setCell_same _ d 4 _ _ (.string ⟨x.key.toArray⟩) h4
  have h6 := heap_setCell_same _ d 5 _ _ (.string ⟨x.val.toArray⟩) h5
  exact h6
theorem put6_below {w0 w : World} {B d : Nat} (x : AV) (h : Below B w0 w) (hd : B ≤ d) : Below B w0 (put6 w d x) :=
  (((((h.setCell (p := ⟨d, 0, none⟩) hd _).setCell (p := ⟨d, 1, none⟩) hd _).setCell (p := ⟨d, 2, none⟩) hd _).setCell (p := ⟨d, 3, none⟩) hd _).setCell (p := ⟨d, 4, none⟩) hd _).setCell (p := ⟨d, 5, none⟩) hd _
def ActPost (l : List UInt8) (w : World) (e : Ending) (w' : World) : Prop := e = .returned (.tuple #[((actF l).getD AV.zero).val6, .int .i64 (if (actF l).isSome = true then 0 else 17)]) ∧ Later w w'
theorem act_ret {l : List UInt8} {w W : World} {a : Act} {d : Nat} {x : AV} {e : Int} (hd : a.tmps.getD 2 undef = .pointer (some ⟨d, 0, none⟩)) (he : a.tmps.getD 3 undef = .int .i64 e) (hD : a.defers = []) (hrow : W.heap[d]? = some (.cells x.row 40 (0, 0))) (h : ActPost l w (.returned (.tuple #[x.val6, .int .i64 e])) W) : bodyPost Tryz.prog Tryz.f9 (ActPost l w) .ret a W := by
  have hl : (loadVar 40 ⟨d, 0, none⟩).run Tryz.prog W = .ok (.agg x.row) W := run_loadVar_row W d _ _ x.row _ (.struct (Tryz.prog.fieldsOf 40)) hrow (by kernel_rfl) rfl (by kernel_rfl)
  refine bodyPost_ret (v := .tuple #[x.val6, .int .i64 e]) ?_ hD h
  rw [results_cell_tmp (fn := Tryz.f9) (p := 2) (u := 3) (ty := 40) rfl, hd, he]
  simp only [asAddr, Sem.run_pure, Result.andThen_ok, hl]
  rfl
theorem six_cells {W : World} {d : Nat} {x : AV} {t : TypeId} (h : W.heap[d]? = some (.cells x.row t (0, 0))) :
    (W.cell? ⟨d, 0, none⟩ = some (.int .i64 x.kind) ∧ W.cell? ⟨d, 1, none⟩ = some (.int .i64 x.a) ∧ W.cell? ⟨d, 2, none⟩ = some (.int .i64 x.b) ∧ W.cell? ⟨d, 3, none⟩ = some (.int .i64 x.n) ∧ W.cell? ⟨d, 4, none⟩ = some (.string ⟨x.key.toArray⟩) ∧ W.cell? ⟨d, 5, none⟩ = some (.string ⟨x.val.toArray⟩)) ∧
    W.frozen? ⟨d, 0, none⟩ = false ∧ W.frozen? ⟨d, 1, none⟩ = false ∧ W.frozen? ⟨d, 2, none⟩ = false ∧ W.frozen? ⟨d, 3, none⟩ = false ∧ W.frozen? ⟨d, 4, none⟩ = false ∧ W.frozen? ⟨d, 5, none⟩ = false :=
  ⟨⟨by rw [cell_of_row _ _ 0 _ _ _ h]; rfl, by rw [cell_of_row _ _ 1 _ _ _ h]; rfl, by rw [cell_of_row _ _ 2 _ _ _ h]; rfl, by rw [cell_of_row _ _ 3 _ _ _ h]; rfl, by rw [cell_of_row _ _ 4 _ _ _ h]; rfl, by rw [cell_of_row _ _ 5 _ _ _ h]; rfl⟩, frozen_of_row _ _ 0 _ _ h, frozen_of_row _ _ 1 _ _ h, frozen_of_row _ _ 2 _ _ h, frozen_of_row _ _ 3 _ _ h, frozen_of_row _ _ 4 _ _ h, frozen_of_row _ _ 5 _ _ h⟩

end Go.Proofs.YtjkopohmcabfjaaGreatDoor
