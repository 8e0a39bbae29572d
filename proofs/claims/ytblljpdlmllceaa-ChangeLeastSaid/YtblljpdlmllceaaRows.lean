/-
  No cell of these rows narrows 'for every input' (looked for: loops, veiled, ifaces, maps, wideKeys, modest, calm, conditions, laid).
  DERIVED. THE GIVEN ROWS OF THIS SEAT. 9 by the template 'for every input the law returns true; each argument reads behind the call as it read before'; 0 by the template 'total and deterministic' (their statements: YtblljpdlmllceaaTotals.lean).
  GIVEN WITH THE SEED: the statements are not yours to turn. If you find one false, say at which input.
  Laid BY PROGRAM, IN A SANDBOX (cutbox-rows.mjs): the forced cells as the released guide's own fill.sh prints them over the translation 2073262b09e8de30… (all of the seat's roots in one cut). By AI agents, Wed Nov 11 2026. No macro, syntax, notation, axiom, sorry.
-/
import Derived.Test.YtblljpdlmllceaaChecked
import GoSem.Claim
import GoSem.ClaimJoined
import GoSem.ClaimMapViews
import Derived.JoinedTies
import Derived.KernelRfl
namespace Go.Proofs.Ytblljpdlmllceaa
/- THE CELL 'sum', in the pinned program and in every row, IS THE sha256 OF THE DUMP (.gsa) THAT YtblljpdlmllceaaProg.lean LOADS. Nothing in Lean hashes anything: it is a label: what it is worth is what the hold of that sum in a sandbox is worth. -/
noncomputable def Try.pinned : Pinned := { name := "ytblljpdlmllceaa", sum := "2073262b09e8de30ebcd22738b0c4d9701c2f56c214d2114fc41c7d0c7946813", checked := Try.checked }
namespace Rows
def none {H : Type} : Left H := { results := [], args := [] }

/-- 'roundhouselaw04.ChangeApplies': WHATEVER THE INPUT: true; the input reads as it did. -/
def changeAppliesSpec : ChangeSpec := { name := "changeApplies", fn := fun _ => fun
  | [d1, d2] => { results := [.lit (.bool true)], args := [d1, d2] }
  | _ => none }
def changeAppliesRow : OpenClaim := { program := "ytblljpdlmllceaa", sum := "2073262b09e8de30ebcd22738b0c4d9701c2f56c214d2114fc41c7d0c7946813", func := "roundhouse/roundhouselaw04.ChangeApplies", spec := "changeApplies", inPlace := ["slices.overlaps[roundhouse/api.Pair]"], unfollowed := true, recurses := true, apart := false }
def ChangeAppliesSaid : Prop := changeAppliesRow.holds Try.pinned (OpenSpec.ofChange changeAppliesSpec)

/-- ITS FALSE NEIGHBOUR: 'it returns false'. Refute it at one input. -/
def changeAppliesWrong : ChangeSpec := { name := "changeApplies", fn := fun _ => fun
  | [d1, d2] => { results := [.lit (.bool false)], args := [d1, d2] }
  | _ => none }
def ChangeAppliesWrongFalsely : Prop := changeAppliesRow.holds Try.pinned (OpenSpec.ofChange changeAppliesWrong)

/-- 'roundhouselaw04.ChangeParts': WHATEVER THE INPUT: true; the input reads as it did. -/
def changePartsSpec : ChangeSpec := { name := "changeParts", fn := fun _ => fun
  | [d1, d2, d3, d4, d5] => { results := [.lit (.bool true)], args := [d1, d2, d3, d4, d5] }
  | _ => none }
def changePartsRow : OpenClaim := { program := "ytblljpdlmllceaa", sum := "2073262b09e8de30ebcd22738b0c4d9701c2f56c214d2114fc41c7d0c7946813", func := "roundhouse/roundhouselaw04.ChangeParts", spec := "changeParts", inPlace := ["slices.overlaps[roundhouse/api.Pair]"], unfollowed := true, recurses := true, apart := false }
def ChangePartsSaid : Prop := changePartsRow.holds Try.pinned (OpenSpec.ofChange changePartsSpec)

/-- ITS FALSE NEIGHBOUR: 'it returns false'. Refute it at one input. -/
def changePartsWrong : ChangeSpec := { name := "changeParts", fn := fun _ => fun
  | [d1, d2, d3, d4, d5] => { results := [.lit (.bool false)], args := [d1, d2, d3, d4, d5] }
  | _ => none }
def ChangePartsWrongFalsely : Prop := changePartsRow.holds Try.pinned (OpenSpec.ofChange changePartsWrong)

/-- 'roundhouselaw04.ChangeChecks': WHATEVER THE INPUT: true; the input reads as it did. -/
def changeChecksSpec : ChangeSpec := { name := "changeChecks", fn := fun _ => fun
  | [d1, d2] => { results := [.lit (.bool true)], args := [d1, d2] }
  | _ => none }
def changeChecksRow : OpenClaim := { program := "ytblljpdlmllceaa", sum := "2073262b09e8de30ebcd22738b0c4d9701c2f56c214d2114fc41c7d0c7946813", func := "roundhouse/roundhouselaw04.ChangeChecks", spec := "changeChecks", inPlace := ["slices.overlaps[roundhouse/api.Pair]"], unfollowed := true, recurses := true, apart := false }
def ChangeChecksSaid : Prop := changeChecksRow.holds Try.pinned (OpenSpec.ofChange changeChecksSpec)

/-- ITS FALSE NEIGHBOUR: 'it returns false'. Refute it at one input. -/
def changeChecksWrong : ChangeSpec := { name := "changeChecks", fn := fun _ => fun
  | [d1, d2] => { results := [.lit (.bool false)], args := [d1, d2] }
  | _ => none }
def ChangeChecksWrongFalsely : Prop := changeChecksRow.holds Try.pinned (OpenSpec.ofChange changeChecksWrong)

/-- 'roundhouselaw04.ChangeCuts': WHATEVER THE INPUT: true; the input reads as it did. -/
def changeCutsSpec : ChangeSpec := { name := "changeCuts", fn := fun _ => fun
  | [d1, d2] => { results := [.lit (.bool true)], args := [d1, d2] }
  | _ => none }
def changeCutsRow : OpenClaim := { program := "ytblljpdlmllceaa", sum := "2073262b09e8de30ebcd22738b0c4d9701c2f56c214d2114fc41c7d0c7946813", func := "roundhouse/roundhouselaw04.ChangeCuts", spec := "changeCuts", inPlace := ["slices.overlaps[roundhouse/api.Pair]"], unfollowed := true, recurses := true, apart := false }
def ChangeCutsSaid : Prop := changeCutsRow.holds Try.pinned (OpenSpec.ofChange changeCutsSpec)

/-- ITS FALSE NEIGHBOUR: 'it returns false'. Refute it at one input. -/
def changeCutsWrong : ChangeSpec := { name := "changeCuts", fn := fun _ => fun
  | [d1, d2] => { results := [.lit (.bool false)], args := [d1, d2] }
  | _ => none }
def ChangeCutsWrongFalsely : Prop := changeCutsRow.holds Try.pinned (OpenSpec.ofChange changeCutsWrong)

/-- 'roundhouselaw04.ChangeSpans': WHATEVER THE INPUT: true; the input reads as it did. -/
def changeSpansSpec : ChangeSpec := { name := "changeSpans", fn := fun _ => fun
  | [d] => { results := [.lit (.bool true)], args := [d] }
  | _ => none }
def changeSpansRow : OpenClaim := { program := "ytblljpdlmllceaa", sum := "2073262b09e8de30ebcd22738b0c4d9701c2f56c214d2114fc41c7d0c7946813", func := "roundhouse/roundhouselaw04.ChangeSpans", spec := "changeSpans", inPlace := ["slices.overlaps[roundhouse/api.Pair]"], unfollowed := true, recurses := true, apart := false }
def ChangeSpansSaid : Prop := changeSpansRow.holds Try.pinned (OpenSpec.ofChange changeSpansSpec)

/-- ITS FALSE NEIGHBOUR: 'it returns false'. Refute it at one input. -/
def changeSpansWrong : ChangeSpec := { name := "changeSpans", fn := fun _ => fun
  | [d] => { results := [.lit (.bool false)], args := [d] }
  | _ => none }
def ChangeSpansWrongFalsely : Prop := changeSpansRow.holds Try.pinned (OpenSpec.ofChange changeSpansWrong)

/-- 'roundhouselaw04.ChangeOutside': WHATEVER THE INPUT: true; the input reads as it did. -/
def changeOutsideSpec : ChangeSpec := { name := "changeOutside", fn := fun _ => fun
  | [d1, d2, d3] => { results := [.lit (.bool true)], args := [d1, d2, d3] }
  | _ => none }
def changeOutsideRow : OpenClaim := { program := "ytblljpdlmllceaa", sum := "2073262b09e8de30ebcd22738b0c4d9701c2f56c214d2114fc41c7d0c7946813", func := "roundhouse/roundhouselaw04.ChangeOutside", spec := "changeOutside", inPlace := ["slices.overlaps[roundhouse/api.Pair]"], unfollowed := true, recurses := true, apart := false }
def ChangeOutsideSaid : Prop := changeOutsideRow.holds Try.pinned (OpenSpec.ofChange changeOutsideSpec)

/-- ITS FALSE NEIGHBOUR: 'it returns false'. Refute it at one input. -/
def changeOutsideWrong : ChangeSpec := { name := "changeOutside", fn := fun _ => fun
  | [d1, d2, d3] => { results := [.lit (.bool false)], args := [d1, d2, d3] }
  | _ => none }
def ChangeOutsideWrongFalsely : Prop := changeOutsideRow.holds Try.pinned (OpenSpec.ofChange changeOutsideWrong)

/-- 'roundhouselaw04.ChangeLeast': WHATEVER THE INPUT: true; the input reads as it did. -/
def changeLeastSpec : ChangeSpec := { name := "changeLeast", fn := fun _ => fun
  | [d] => { results := [.lit (.bool true)], args := [d] }
  | _ => none }
def changeLeastRow : OpenClaim := { program := "ytblljpdlmllceaa", sum := "2073262b09e8de30ebcd22738b0c4d9701c2f56c214d2114fc41c7d0c7946813", func := "roundhouse/roundhouselaw04.ChangeLeast", spec := "changeLeast", inPlace := ["slices.overlaps[roundhouse/api.Pair]"], unfollowed := true, recurses := true, apart := false }
def ChangeLeastSaid : Prop := changeLeastRow.holds Try.pinned (OpenSpec.ofChange changeLeastSpec)

/-- ITS FALSE NEIGHBOUR: 'it returns false'. Refute it at one input. -/
def changeLeastWrong : ChangeSpec := { name := "changeLeast", fn := fun _ => fun
  | [d] => { results := [.lit (.bool false)], args := [d] }
  | _ => none }
def ChangeLeastWrongFalsely : Prop := changeLeastRow.holds Try.pinned (OpenSpec.ofChange changeLeastWrong)

/-- 'roundhouselaw04.ChangeSame': WHATEVER THE INPUT: true; the input reads as it did. -/
def changeSameSpec : ChangeSpec := { name := "changeSame", fn := fun _ => fun
  | [d1, d2] => { results := [.lit (.bool true)], args := [d1, d2] }
  | _ => none }
def changeSameRow : OpenClaim := { program := "ytblljpdlmllceaa", sum := "2073262b09e8de30ebcd22738b0c4d9701c2f56c214d2114fc41c7d0c7946813", func := "roundhouse/roundhouselaw04.ChangeSame", spec := "changeSame", inPlace := ["slices.overlaps[roundhouse/api.Pair]"], unfollowed := true, recurses := true, apart := false }
def ChangeSameSaid : Prop := changeSameRow.holds Try.pinned (OpenSpec.ofChange changeSameSpec)

/-- ITS FALSE NEIGHBOUR: 'it returns false'. Refute it at one input. -/
def changeSameWrong : ChangeSpec := { name := "changeSame", fn := fun _ => fun
  | [d1, d2] => { results := [.lit (.bool false)], args := [d1, d2] }
  | _ => none }
def ChangeSameWrongFalsely : Prop := changeSameRow.holds Try.pinned (OpenSpec.ofChange changeSameWrong)

/-- 'roundhouselaw04.ChangeTwice': WHATEVER THE INPUT: true; the input reads as it did. -/
def changeTwiceSpec : ChangeSpec := { name := "changeTwice", fn := fun _ => fun
  | [d1, d2] => { results := [.lit (.bool true)], args := [d1, d2] }
  | _ => none }
def changeTwiceRow : OpenClaim := { program := "ytblljpdlmllceaa", sum := "2073262b09e8de30ebcd22738b0c4d9701c2f56c214d2114fc41c7d0c7946813", func := "roundhouse/roundhouselaw04.ChangeTwice", spec := "changeTwice", inPlace := ["slices.overlaps[roundhouse/api.Pair]"], unfollowed := true, recurses := true, apart := false }
def ChangeTwiceSaid : Prop := changeTwiceRow.holds Try.pinned (OpenSpec.ofChange changeTwiceSpec)

/-- ITS FALSE NEIGHBOUR: 'it returns false'. Refute it at one input. -/
def changeTwiceWrong : ChangeSpec := { name := "changeTwice", fn := fun _ => fun
  | [d1, d2] => { results := [.lit (.bool false)], args := [d1, d2] }
  | _ => none }
def ChangeTwiceWrongFalsely : Prop := changeTwiceRow.holds Try.pinned (OpenSpec.ofChange changeTwiceWrong)

/- THE SECOND FORM. 'bulk': how many values and letters a reading holds, each counted each time it is reached (what is shared counts as often as it is met; a slice's spare places count too). A statement '..UptoSaid' is the law's where the arguments, and the package variables that the reading takes, are together of bulk at most 1048576: NARROWER than '..Said'. Prove '..Said' where nothing that the law and all that it calls make is longer than what came in: it says more and counts as full. Else prove '..UptoSaid'. A law counts once. -/
mutual
def uptoBulk {H : Type} : DataW H → Nat
  | .lit (.string bytes) => bytes.length + 1
  | .lit _ => 1
  | .nil => 1
  | .ptr d => uptoBulk d + 1
  | .slice elems spare => uptoBulkAll elems + uptoBulkAll spare + 1
  | .agg parts => uptoBulkAll parts + 1
  | .iface _ d => uptoBulk d + 1
  | .map entries => uptoBulkEntries entries + 1
  | .held _ => 1
def uptoBulkAll {H : Type} : List (DataW H) → Nat
  | [] => 0
  | d :: r => uptoBulk d + uptoBulkAll r
def uptoBulkEntries {H : Type} : List (Lit × DataW H) → Nat
  | [] => 0
  | x :: r => uptoBulkEntry x + uptoBulkEntries r
def uptoBulkEntry {H : Type} : Lit × DataW H → Nat
  | (.string bytes, d) => bytes.length + uptoBulk d + 1
  | (_, d) => uptoBulk d + 1
 end
def uptoSmall : (H : Type) → List (DataW H) → Bool := fun _ ds => decide (uptoBulkAll ds ≤ 1048576)
def OpenSpec.upto (s : _root_.Go.ChangeSpec) : _root_.Go.OpenSpec := { _root_.Go.OpenSpec.ofChange s with cond := some uptoSmall }

/-- 'roundhouselaw04.ChangeApplies', WHERE WHAT IT READS IS OF BULK AT MOST 1048576: true; the input reads as it did. -/
def changeAppliesUptoRow : OpenClaim := { program := "ytblljpdlmllceaa", sum := "2073262b09e8de30ebcd22738b0c4d9701c2f56c214d2114fc41c7d0c7946813", func := "roundhouse/roundhouselaw04.ChangeApplies", spec := "changeApplies", inPlace := ["slices.overlaps[roundhouse/api.Pair]"], unfollowed := true, recurses := true, apart := false, narrowed := true }
def ChangeAppliesUptoSaid : Prop := changeAppliesUptoRow.holds Try.pinned (OpenSpec.upto changeAppliesSpec)

/-- 'roundhouselaw04.ChangeParts', WHERE WHAT IT READS IS OF BULK AT MOST 1048576: true; the input reads as it did. -/
def changePartsUptoRow : OpenClaim := { program := "ytblljpdlmllceaa", sum := "2073262b09e8de30ebcd22738b0c4d9701c2f56c214d2114fc41c7d0c7946813", func := "roundhouse/roundhouselaw04.ChangeParts", spec := "changeParts", inPlace := ["slices.overlaps[roundhouse/api.Pair]"], unfollowed := true, recurses := true, apart := false, narrowed := true }
def ChangePartsUptoSaid : Prop := changePartsUptoRow.holds Try.pinned (OpenSpec.upto changePartsSpec)

/-- 'roundhouselaw04.ChangeChecks', WHERE WHAT IT READS IS OF BULK AT MOST 1048576: true; the input reads as it did. -/
def changeChecksUptoRow : OpenClaim := { program := "ytblljpdlmllceaa", sum := "2073262b09e8de30ebcd22738b0c4d9701c2f56c214d2114fc41c7d0c7946813", func := "roundhouse/roundhouselaw04.ChangeChecks", spec := "changeChecks", inPlace := ["slices.overlaps[roundhouse/api.Pair]"], unfollowed := true, recurses := true, apart := false, narrowed := true }
def ChangeChecksUptoSaid : Prop := changeChecksUptoRow.holds Try.pinned (OpenSpec.upto changeChecksSpec)

/-- 'roundhouselaw04.ChangeCuts', WHERE WHAT IT READS IS OF BULK AT MOST 1048576: true; the input reads as it did. -/
def changeCutsUptoRow : OpenClaim := { program := "ytblljpdlmllceaa", sum := "2073262b09e8de30ebcd22738b0c4d9701c2f56c214d2114fc41c7d0c7946813", func := "roundhouse/roundhouselaw04.ChangeCuts", spec := "changeCuts", inPlace := ["slices.overlaps[roundhouse/api.Pair]"], unfollowed := true, recurses := true, apart := false, narrowed := true }
def ChangeCutsUptoSaid : Prop := changeCutsUptoRow.holds Try.pinned (OpenSpec.upto changeCutsSpec)

/-- 'roundhouselaw04.ChangeSpans', WHERE WHAT IT READS IS OF BULK AT MOST 1048576: true; the input reads as it did. -/
def changeSpansUptoRow : OpenClaim := { program := "ytblljpdlmllceaa", sum := "2073262b09e8de30ebcd22738b0c4d9701c2f56c214d2114fc41c7d0c7946813", func := "roundhouse/roundhouselaw04.ChangeSpans", spec := "changeSpans", inPlace := ["slices.overlaps[roundhouse/api.Pair]"], unfollowed := true, recurses := true, apart := false, narrowed := true }
def ChangeSpansUptoSaid : Prop := changeSpansUptoRow.holds Try.pinned (OpenSpec.upto changeSpansSpec)

/-- 'roundhouselaw04.ChangeOutside', WHERE WHAT IT READS IS OF BULK AT MOST 1048576: true; the input reads as it did. -/
def changeOutsideUptoRow : OpenClaim := { program := "ytblljpdlmllceaa", sum := "2073262b09e8de30ebcd22738b0c4d9701c2f56c214d2114fc41c7d0c7946813", func := "roundhouse/roundhouselaw04.ChangeOutside", spec := "changeOutside", inPlace := ["slices.overlaps[roundhouse/api.Pair]"], unfollowed := true, recurses := true, apart := false, narrowed := true }
def ChangeOutsideUptoSaid : Prop := changeOutsideUptoRow.holds Try.pinned (OpenSpec.upto changeOutsideSpec)

/-- 'roundhouselaw04.ChangeLeast', WHERE WHAT IT READS IS OF BULK AT MOST 1048576: true; the input reads as it did. -/
def changeLeastUptoRow : OpenClaim := { program := "ytblljpdlmllceaa", sum := "2073262b09e8de30ebcd22738b0c4d9701c2f56c214d2114fc41c7d0c7946813", func := "roundhouse/roundhouselaw04.ChangeLeast", spec := "changeLeast", inPlace := ["slices.overlaps[roundhouse/api.Pair]"], unfollowed := true, recurses := true, apart := false, narrowed := true }
def ChangeLeastUptoSaid : Prop := changeLeastUptoRow.holds Try.pinned (OpenSpec.upto changeLeastSpec)

/-- 'roundhouselaw04.ChangeSame', WHERE WHAT IT READS IS OF BULK AT MOST 1048576: true; the input reads as it did. -/
def changeSameUptoRow : OpenClaim := { program := "ytblljpdlmllceaa", sum := "2073262b09e8de30ebcd22738b0c4d9701c2f56c214d2114fc41c7d0c7946813", func := "roundhouse/roundhouselaw04.ChangeSame", spec := "changeSame", inPlace := ["slices.overlaps[roundhouse/api.Pair]"], unfollowed := true, recurses := true, apart := false, narrowed := true }
def ChangeSameUptoSaid : Prop := changeSameUptoRow.holds Try.pinned (OpenSpec.upto changeSameSpec)

/-- 'roundhouselaw04.ChangeTwice', WHERE WHAT IT READS IS OF BULK AT MOST 1048576: true; the input reads as it did. -/
def changeTwiceUptoRow : OpenClaim := { program := "ytblljpdlmllceaa", sum := "2073262b09e8de30ebcd22738b0c4d9701c2f56c214d2114fc41c7d0c7946813", func := "roundhouse/roundhouselaw04.ChangeTwice", spec := "changeTwice", inPlace := ["slices.overlaps[roundhouse/api.Pair]"], unfollowed := true, recurses := true, apart := false, narrowed := true }
def ChangeTwiceUptoSaid : Prop := changeTwiceUptoRow.holds Try.pinned (OpenSpec.upto changeTwiceSpec)

end Rows
end Go.Proofs.Ytblljpdlmllceaa
