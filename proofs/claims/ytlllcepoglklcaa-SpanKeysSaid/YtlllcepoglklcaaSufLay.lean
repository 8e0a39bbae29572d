/-
  The library's contract of strings.CutSuffix, laid.
-/
import Derived.Shelf.Small.Wraps
import Derived.Test.YtlllcepoglklcaaProg
namespace Go.Proofs.Ytlllcepoglklcaa
open Go.Shelf
def cutSuffix_ren : Go.Shelf.Ren := ⟨fun | 104 => 25 | 211 => 33 | 207 => 40 | n => n, fun | 9 => 9 | 4 => 4 | 24 => 32 | 3 => 3 | n => n, fun | n => n⟩
theorem cutSuffix : Go.Proofs.Lays.n104 Try.prog cutSuffix_ren := {
  mixed := by kernel_rfl
  f104 := Try.func25.trans (congrArg some (by kernel_rfl))
  f207 := Try.func40.trans (congrArg some (by kernel_rfl))
  f211 := Try.func33.trans (congrArg some (by kernel_rfl))
  t3 := Try.underlying3
  a3 := Try.isAgg3
  z3 := Try.sizeOf3
  v3 := Try.zeroValue3
  t4 := Try.underlying4
  a4 := Try.isAgg4
  z4 := Try.sizeOf4
  v4 := Try.zeroValue4
  t9 := Try.underlying9
  a9 := Try.isAgg9
  z9 := Try.sizeOf9
  v9 := Try.zeroValue9
  t24 := Try.underlying32
  a24 := Try.isAgg32
  z24 := Try.sizeOf32
  v24 := Try.zeroValue32 }
end Go.Proofs.Ytlllcepoglklcaa
