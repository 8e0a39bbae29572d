/-
  A world for the witness: what the listed variables hold.
-/
import Derived.Test.YtjkopohmcabfjaaGreatDoorTEnv
namespace Go.Proofs.YtjkopohmcabfjaaGreatDoor
open Go.ChangeShapes Go.WideShapes Go.ChangeAt Go.RowKit
set_option linter.unusedVariables false
/-- A listed number table's cells. -/
def dataCells : DataW Unit → List Value
  | .agg ds => ds.flatMap fun
    | .lit (.int k n) => [.int k n]
    | .agg es => es.flatMap fun
      | .lit (.int k n) => [.int k n]
      | _ => []
    | _ => []
  | _ => []
noncomputable def taleWorld (os : Os) : World :=
  let N := (World.settled Tryz.prog os).heap.size
  let w0 := World.holding Tryz.prog os ⟨#[.cells #[.string ⟨#[105, 110, 118, 97, 108, 105, 100, 32, 115, 121, 110, 116, 97, 120]⟩] 266, .cells #[.string ⟨#[118, 97, 108, 117, 101, 32, 111, 117, 116, 32, 111, 102, 32, 114, 97, 110, 103, 101]⟩] 266], #[], []⟩
  let put (h : Array Obj) (g : Nat) (cs : Array Value) : Array Obj := h.modify g fun
    | .cells _ t frozen => .cells cs t frozen
    | o => o
  let h0 := put w0.heap 0 #[.iface 264 (.pointer (some ⟨N, 0, none⟩))]
  let h1 := put h0 1 #[.iface 264 (.pointer (some ⟨N + 1, 0, none⟩))]
  let h2 := put h1 5 (dataCells Rows.laid_internal_strconv_uint64pow10).toArray
  let h3 := put h2 3 (dataCells Rows.laid_unicode_utf8_first).toArray
  let h4 := put h3 4 (dataCells Rows.laid_unicode_utf8_acceptRanges).toArray
  let h5 := put h4 6 (dataCells Rows.laid_math_bits_deBruijn32tab).toArray
  let h6 := put h5 7 (dataCells Rows.laid_math_bits_deBruijn64tab).toArray
  { w0 with heap := h6 }
noncomputable abbrev tN : Nat := (World.settled Tryz.prog default).heap.size
set_option maxRecDepth 1000000 in
theorem tale_laidIn (os : Os) (args : Array Value) : LaidIn Tryz.prog ((taleWorld os).forCall (fun _ _ => 0) ⟨#[], args, []⟩).memory taleLaid [6, 7, 5, 4, 1, tN + 1, 0, tN, 3] :=
  LaidIn.of_run [6, 7, 5, 4, 1, tN + 1, 0, tN, 3] 8 (by kernel_rfl) (by kernel_rfl) (by kernel_rfl) (by kernel_rfl)
theorem tale_laidMet (os : Os) (args : Array Value) : laidMet Tryz.prog taleLaid ((taleWorld os).forCall (fun _ _ => 0) ⟨#[], args, []⟩).memory := (tale_laidIn os args).met

end Go.Proofs.YtjkopohmcabfjaaGreatDoor
