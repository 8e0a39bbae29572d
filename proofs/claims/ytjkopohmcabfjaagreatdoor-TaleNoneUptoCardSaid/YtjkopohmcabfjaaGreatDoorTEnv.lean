/-
  The tables and the variables' cells, out of the row's list and a shaped world; a world for the witness.
-/
import Derived.Test.YtjkopohmcabfjaaGreatDoorCards
import Derived.Test.YtjkopohmcabfjaaGreatDoorTAwake
import Derived.Test.YtjkopohmcabfjaaGreatDoorShelf
import Derived.Deep.DeepHandedRow
import Derived.Deep.DeepWitnessRowRef
import Derived.Lib.LaidTab
import Derived.Lib.LaidIn
import Derived.Stop.LaidErr
namespace Go.Proofs.YtjkopohmcabfjaaGreatDoor
open Go.ChangeShapes Go.WideShapes Go.ChangeAt Go.RowKit
set_option linter.unusedVariables false
theorem tale_star : "*" ++ "errors.errorString" = "*errors.errorString" := by decide
theorem tale_errRow (u : TypeId) (h : Tryz.prog.typeName? 3 u = some "*errors.errorString") : u = 264 :=
  typeName_ptr_named (nm := "errors.errorString") (by rw [tale_star]; kernel_rfl) (by kernel_rfl) (by decide) u (by rw [tale_star]; exact h)
abbrev taleLaid : List (String × DataW Unit) := Rows.taleNoneUptoRow.laid
set_option maxRecDepth 100000 in
theorem env_of {W : World} (hS : W.ShapedOpen Tryz.prog) (hL : laidMetH Tryz.prog taleLaid W) : Env W.heap.size W := by
  have hL' : laidMet Tryz.prog taleLaid W := hL
  have htab : Lib.TabIs Tryz.prog W "internal/strconv.uint64pow10" .u64 Lib.pow10Tab :=
    Lib.tabIs_of_head (g := 5) (t := 338) (e := 193) (n := 20) (by kernel_rfl) (by kernel_rfl) (by kernel_rfl) (by kernel_rfl) (by kernel_rfl) (by kernel_rfl) hL'.tail.tail
  obtain ⟨m, hm⟩ := Tryz.laysM146.s1_3 W hS
  have hm : W.cell? ⟨2, 0, none⟩ = some (.int .i64 m) := hm
  obtain ⟨a1, s1, hv1, _⟩ := laid_sentinel (g := 1) hL'.tail.tail.tail.tail (by kernel_rfl) (by kernel_rfl) Tryz.underlying36 tale_errRow Tryz.underlying264 Tryz.underlying266 rfl rfl Tryz.underlying9 (by kernel_rfl) (by kernel_rfl)
  obtain ⟨a2, s2, hv2, _⟩ := laid_sentinel (g := 0) hL'.tail.tail.tail.tail.tail (by kernel_rfl) (by kernel_rfl) Tryz.underlying36 tale_errRow Tryz.underlying264 Tryz.underlying266 rfl rfl Tryz.underlying9 (by kernel_rfl) (by kernel_rfl)
  have c2 : W.cell? ⟨0, 0, none⟩ = some (.iface 264 (.pointer (some a2))) := by simpa using World.var?_cell (g := 0) (by kernel_rfl) hv2 0
  have c1 : W.cell? ⟨1, 0, none⟩ = some (.iface 264 (.pointer (some a1))) := by simpa using World.var?_cell (g := 1) (by kernel_rfl) hv1 0
  have lt : ∀ {b : Nat} {v : Value}, W.cell? ⟨b, 0, none⟩ = some v → b < W.heap.size := fun {b v} h => by
    rcases Nat.lt_or_ge b W.heap.size with h1 | h1
    · exact h1
    · unfold World.cell? at h
      rw [Array.getElem?_eq_none h1] at h; cases h
  exact ⟨Nat.le_refl _, Lib.tabBelow_of_tabIs htab, ⟨m, lt hm, hm⟩, ⟨_, _, lt c2, c2⟩, ⟨_, _, lt c1, c1⟩⟩

end Go.Proofs.YtjkopohmcabfjaaGreatDoor
