/-
  The library's contract of slices.SortFunc, laid at spans.
-/
import Derived.Shelf.SlSortCmp.WholeK
import Derived.Test.YtlllcepoglklcaaProg
namespace Go.Proofs.Ytlllcepoglklcaa
open Go.Shelf
def sortSpans_ren : Go.Shelf.Ren := ⟨fun | 6 => 28 | 15 => 36 | 14 => 35 | 28 => 49 | 29 => 50 | 20 => 41 | 21 => 42 | 22 => 43 | 23 => 44 | 24 => 45 | 25 => 46 | 26 => 47 | 27 => 48 | 46 => 52 | 47 => 53 | 48 => 54 | 49 => 55 | 50 => 56 | 57 => 57 | n => n, fun | 22 => 34 | 24 => 23 | 25 => 50 | 3 => 3 | 39 => 55 | 0 => 0 | 53 => 69 | 55 => 71 | 4 => 4 | 46 => 62 | 45 => 61 | 50 => 66 | 5 => 5 | 9 => 9 | 66 => 73 | 70 => 77 | 76 => 79 | 77 => 80 | n => n, fun | n => n⟩
theorem sortSpans : Go.Proofs.SlLaysF0.n6 Try.prog sortSpans_ren := {
  mixed := by kernel_rfl
  f6 := ⟨Try.f28.name, by decide, Try.func28.trans (congrArg some (by kernel_rfl))⟩
  f14 := ⟨Try.f35.name, by decide, Try.func35.trans (congrArg some (by kernel_rfl))⟩
  f15 := Try.func36.trans (congrArg some (by kernel_rfl))
  f20 := ⟨Try.f41.name, by decide, Try.func41.trans (congrArg some (by kernel_rfl))⟩
  f21 := ⟨Try.f42.name, by decide, Try.func42.trans (congrArg some (by kernel_rfl))⟩
  f22 := ⟨Try.f43.name, by decide, Try.func43.trans (congrArg some (by kernel_rfl))⟩
  f23 := ⟨Try.f44.name, by decide, Try.func44.trans (congrArg some (by kernel_rfl))⟩
  f24 := ⟨Try.f45.name, by decide, Try.func45.trans (congrArg some (by kernel_rfl))⟩
  f25 := ⟨Try.f46.name, by decide, Try.func46.trans (congrArg some (by kernel_rfl))⟩
  f26 := ⟨Try.f47.name, by decide, Try.func47.trans (congrArg some (by kernel_rfl))⟩
  f27 := ⟨Try.f48.name, by decide, Try.func48.trans (congrArg some (by kernel_rfl))⟩
  f28 := Try.func49.trans (congrArg some (by kernel_rfl))
  f29 := Try.func50.trans (congrArg some (by kernel_rfl))
  f46 := ⟨Try.f52.name, by decide, Try.func52.trans (congrArg some (by kernel_rfl))⟩
  f47 := Try.func53.trans (congrArg some (by kernel_rfl))
  f48 := Try.func54.trans (congrArg some (by kernel_rfl))
  f49 := ⟨Try.f55.name, by decide, Try.func55.trans (congrArg some (by kernel_rfl))⟩
  f50 := ⟨Try.f56.name, by decide, Try.func56.trans (congrArg some (by kernel_rfl))⟩
  f57 := ⟨Try.f57.name, by decide, Try.func57.trans (congrArg some (by kernel_rfl))⟩
  t0 := Try.underlying0
  a0 := Try.isAgg0
  z0 := Try.sizeOf0
  v0 := Try.zeroValue0
  t3 := Try.underlying3
  a3 := Try.isAgg3
  z3 := Try.sizeOf3
  v3 := Try.zeroValue3
  t4 := Try.underlying4
  a4 := Try.isAgg4
  z4 := Try.sizeOf4
  v4 := Try.zeroValue4
  t5 := Try.underlying5
  a5 := Try.isAgg5
  z5 := Try.sizeOf5
  v5 := Try.zeroValue5
  t9 := Try.underlying9
  a9 := Try.isAgg9
  z9 := Try.sizeOf9
  v9 := Try.zeroValue9
  t22 := Try.underlying34
  a22 := Try.isAgg34
  z22 := Try.sizeOf34
  v22 := Try.zeroValue34
  t25 := Try.underlying50
  a25 := Try.isAgg50
  z25 := Try.sizeOf50
  v25 := Try.zeroValue50
  t39 := Try.underlying55
  a39 := Try.isAgg55
  z39 := Try.sizeOf55
  v39 := Try.zeroValue55
  t45 := Try.underlying61
  a45 := Try.isAgg61
  z45 := Try.sizeOf61
  v45 := Try.zeroValue61
  t46 := Try.underlying62
  a46 := Try.isAgg62
  z46 := Try.sizeOf62
  v46 := Try.zeroValue62
  t50 := Try.underlying66
  a50 := Try.isAgg66
  z50 := Try.sizeOf66
  v50 := Try.zeroValue66
  t53 := Try.underlying69
  a53 := Try.isAgg69
  z53 := Try.sizeOf69
  v53 := Try.zeroValue69
  t55 := Try.underlying71
  a55 := Try.isAgg71
  z55 := Try.sizeOf71
  v55 := Try.zeroValue71
  t66 := Try.underlying73
  a66 := Try.isAgg73
  z66 := Try.sizeOf73
  v66 := Try.zeroValue73
  t70 := Try.underlying77
  a70 := Try.isAgg77
  z70 := Try.sizeOf77
  v70 := Try.zeroValue77
  t76 := Try.underlying79
  a76 := Try.isAgg79
  z76 := Try.sizeOf79
  v76 := Try.zeroValue79
  t77 := Try.underlying80
  a77 := Try.isAgg80
  z77 := Try.sizeOf80
  v77 := Try.zeroValue80 }
end Go.Proofs.Ytlllcepoglklcaa
