/-
  No cell of these rows narrows 'for every input' (looked for: loops, veiled, ifaces, maps, wideKeys, modest, calm, conditions, laid).
  DERIVED. THE GIVEN ROWS OF THIS SEAT. 11 by the template 'for every input the law returns true; each argument reads behind the call as it read before'; 0 by the template 'total and deterministic' (their statements: YtidlkomgondkiaaTotals.lean).
  GIVEN WITH THE SEED: the statements are not yours to turn. If you find one false, say at which input.
  Laid BY PROGRAM, IN A SANDBOX (cutbox-rows.mjs): the forced cells as the released guide's own fill.sh prints them over the translation 5f4b4f1c79c042c3… (all of the seat's roots in one cut). By AI agents, Wed Nov 11 2026. No macro, syntax, notation, axiom, sorry.
-/
import Derived.Test.YtidlkomgondkiaaChecked
import GoSem.Claim
import GoSem.ClaimJoined
import GoSem.ClaimMapViews
import Derived.JoinedTies
import Derived.KernelRfl
namespace Go.Proofs.Ytidlkomgondkiaa
/- THE CELL 'sum', in the pinned program and in every row, IS THE sha256 OF THE DUMP (.gsa) THAT YtidlkomgondkiaaProg.lean LOADS. Nothing in Lean hashes anything: it is a label: what it is worth is what the hold of that sum in a sandbox is worth. -/
noncomputable def Try.pinned : Pinned := { name := "ytidlkomgondkiaa", sum := "5f4b4f1c79c042c3bad32c4e0ec8c7d820dda378110e4900270e907dd3d87945", checked := Try.checked }
namespace Rows
def none {H : Type} : Left H := { results := [], args := [] }

/-- 'roundhouselaw11.MarksLate': WHATEVER THE INPUT: true; the input reads as it did. -/
def marksLateSpec : ChangeSpec := { name := "marksLate", fn := fun _ => fun
  | [d1, d2, d3, d4] => { results := [.lit (.bool true)], args := [d1, d2, d3, d4] }
  | _ => none }
def marksLateRow : OpenClaim := { program := "ytidlkomgondkiaa", sum := "5f4b4f1c79c042c3bad32c4e0ec8c7d820dda378110e4900270e907dd3d87945", func := "roundhouse/roundhouselaw11.MarksLate", spec := "marksLate", inPlace := ["slices.overlaps[roundhouse/marks.mark]"], unfollowed := true, recurses := true, apart := false }
def MarksLateSaid : Prop := marksLateRow.holds Try.pinned (OpenSpec.ofChange marksLateSpec)

/-- ITS FALSE NEIGHBOUR: 'it returns false'. Refute it at one input. -/
def marksLateWrong : ChangeSpec := { name := "marksLate", fn := fun _ => fun
  | [d1, d2, d3, d4] => { results := [.lit (.bool false)], args := [d1, d2, d3, d4] }
  | _ => none }
def MarksLateWrongFalsely : Prop := marksLateRow.holds Try.pinned (OpenSpec.ofChange marksLateWrong)

/-- 'roundhouselaw11.MarksSplit': WHATEVER THE INPUT: true; the input reads as it did. -/
def marksSplitSpec : ChangeSpec := { name := "marksSplit", fn := fun _ => fun
  | [d1, d2, d3] => { results := [.lit (.bool true)], args := [d1, d2, d3] }
  | _ => none }
def marksSplitRow : OpenClaim := { program := "ytidlkomgondkiaa", sum := "5f4b4f1c79c042c3bad32c4e0ec8c7d820dda378110e4900270e907dd3d87945", func := "roundhouse/roundhouselaw11.MarksSplit", spec := "marksSplit", inPlace := ["slices.overlaps[roundhouse/marks.mark]"], unfollowed := true, recurses := true, apart := false }
def MarksSplitSaid : Prop := marksSplitRow.holds Try.pinned (OpenSpec.ofChange marksSplitSpec)

/-- ITS FALSE NEIGHBOUR: 'it returns false'. Refute it at one input. -/
def marksSplitWrong : ChangeSpec := { name := "marksSplit", fn := fun _ => fun
  | [d1, d2, d3] => { results := [.lit (.bool false)], args := [d1, d2, d3] }
  | _ => none }
def MarksSplitWrongFalsely : Prop := marksSplitRow.holds Try.pinned (OpenSpec.ofChange marksSplitWrong)

/-- 'roundhouselaw11.MarksAgain': WHATEVER THE INPUT: true; the input reads as it did. -/
def marksAgainSpec : ChangeSpec := { name := "marksAgain", fn := fun _ => fun
  | [d1, d2, d3] => { results := [.lit (.bool true)], args := [d1, d2, d3] }
  | _ => none }
def marksAgainRow : OpenClaim := { program := "ytidlkomgondkiaa", sum := "5f4b4f1c79c042c3bad32c4e0ec8c7d820dda378110e4900270e907dd3d87945", func := "roundhouse/roundhouselaw11.MarksAgain", spec := "marksAgain", inPlace := ["slices.overlaps[roundhouse/marks.mark]"], unfollowed := true, recurses := true, apart := false }
def MarksAgainSaid : Prop := marksAgainRow.holds Try.pinned (OpenSpec.ofChange marksAgainSpec)

/-- ITS FALSE NEIGHBOUR: 'it returns false'. Refute it at one input. -/
def marksAgainWrong : ChangeSpec := { name := "marksAgain", fn := fun _ => fun
  | [d1, d2, d3] => { results := [.lit (.bool false)], args := [d1, d2, d3] }
  | _ => none }
def MarksAgainWrongFalsely : Prop := marksAgainRow.holds Try.pinned (OpenSpec.ofChange marksAgainWrong)

/-- 'roundhouselaw11.MarksPlays': WHATEVER THE INPUT: true; the input reads as it did. -/
def marksPlaysSpec : ChangeSpec := { name := "marksPlays", fn := fun _ => fun
  | [d1, d2] => { results := [.lit (.bool true)], args := [d1, d2] }
  | _ => none }
def marksPlaysRow : OpenClaim := { program := "ytidlkomgondkiaa", sum := "5f4b4f1c79c042c3bad32c4e0ec8c7d820dda378110e4900270e907dd3d87945", func := "roundhouse/roundhouselaw11.MarksPlays", spec := "marksPlays", inPlace := ["slices.overlaps[roundhouse/marks.mark]"], unfollowed := true, recurses := true, apart := false }
def MarksPlaysSaid : Prop := marksPlaysRow.holds Try.pinned (OpenSpec.ofChange marksPlaysSpec)

/-- ITS FALSE NEIGHBOUR: 'it returns false'. Refute it at one input. -/
def marksPlaysWrong : ChangeSpec := { name := "marksPlays", fn := fun _ => fun
  | [d1, d2] => { results := [.lit (.bool false)], args := [d1, d2] }
  | _ => none }
def MarksPlaysWrongFalsely : Prop := marksPlaysRow.holds Try.pinned (OpenSpec.ofChange marksPlaysWrong)

/-- 'roundhouselaw11.MarksNone': WHATEVER THE INPUT: true; the input reads as it did. -/
def marksNoneSpec : ChangeSpec := { name := "marksNone", fn := fun _ => fun
  | [d1, d2, d3] => { results := [.lit (.bool true)], args := [d1, d2, d3] }
  | _ => none }
def marksNoneRow : OpenClaim := { program := "ytidlkomgondkiaa", sum := "5f4b4f1c79c042c3bad32c4e0ec8c7d820dda378110e4900270e907dd3d87945", func := "roundhouse/roundhouselaw11.MarksNone", spec := "marksNone", inPlace := ["slices.overlaps[roundhouse/marks.mark]"], unfollowed := true, recurses := true, apart := false }
def MarksNoneSaid : Prop := marksNoneRow.holds Try.pinned (OpenSpec.ofChange marksNoneSpec)

/-- ITS FALSE NEIGHBOUR: 'it returns false'. Refute it at one input. -/
def marksNoneWrong : ChangeSpec := { name := "marksNone", fn := fun _ => fun
  | [d1, d2, d3] => { results := [.lit (.bool false)], args := [d1, d2, d3] }
  | _ => none }
def MarksNoneWrongFalsely : Prop := marksNoneRow.holds Try.pinned (OpenSpec.ofChange marksNoneWrong)

/-- 'roundhouselaw11.MarksWrites': WHATEVER THE INPUT: true; the input reads as it did. -/
def marksWritesSpec : ChangeSpec := { name := "marksWrites", fn := fun _ => fun
  | [d1, d2, d3] => { results := [.lit (.bool true)], args := [d1, d2, d3] }
  | _ => none }
def marksWritesRow : OpenClaim := { program := "ytidlkomgondkiaa", sum := "5f4b4f1c79c042c3bad32c4e0ec8c7d820dda378110e4900270e907dd3d87945", func := "roundhouse/roundhouselaw11.MarksWrites", spec := "marksWrites", inPlace := ["slices.overlaps[roundhouse/marks.mark]"], unfollowed := true, recurses := true, apart := false }
def MarksWritesSaid : Prop := marksWritesRow.holds Try.pinned (OpenSpec.ofChange marksWritesSpec)

/-- ITS FALSE NEIGHBOUR: 'it returns false'. Refute it at one input. -/
def marksWritesWrong : ChangeSpec := { name := "marksWrites", fn := fun _ => fun
  | [d1, d2, d3] => { results := [.lit (.bool false)], args := [d1, d2, d3] }
  | _ => none }
def MarksWritesWrongFalsely : Prop := marksWritesRow.holds Try.pinned (OpenSpec.ofChange marksWritesWrong)

/-- 'roundhouselaw17.RefereePlays': WHATEVER THE INPUT: true; the input reads as it did. -/
def refereePlaysSpec : ChangeSpec := { name := "refereePlays", fn := fun _ => fun
  | [d] => { results := [.lit (.bool true)], args := [d] }
  | _ => none }
def refereePlaysRow : OpenClaim := { program := "ytidlkomgondkiaa", sum := "5f4b4f1c79c042c3bad32c4e0ec8c7d820dda378110e4900270e907dd3d87945", func := "roundhouse/roundhouselaw17.RefereePlays", spec := "refereePlays", inPlace := ["slices.overlaps[roundhouse/marks.mark]"], unfollowed := true, recurses := true, apart := false }
def RefereePlaysSaid : Prop := refereePlaysRow.holds Try.pinned (OpenSpec.ofChange refereePlaysSpec)

/-- ITS FALSE NEIGHBOUR: 'it returns false'. Refute it at one input. -/
def refereePlaysWrong : ChangeSpec := { name := "refereePlays", fn := fun _ => fun
  | [d] => { results := [.lit (.bool false)], args := [d] }
  | _ => none }
def RefereePlaysWrongFalsely : Prop := refereePlaysRow.holds Try.pinned (OpenSpec.ofChange refereePlaysWrong)

/-- 'roundhouselaw17.RefereeAgain': WHATEVER THE INPUT: true; the input reads as it did. -/
def refereeAgainSpec : ChangeSpec := { name := "refereeAgain", fn := fun _ => fun
  | [d1, d2, d3] => { results := [.lit (.bool true)], args := [d1, d2, d3] }
  | _ => none }
def refereeAgainRow : OpenClaim := { program := "ytidlkomgondkiaa", sum := "5f4b4f1c79c042c3bad32c4e0ec8c7d820dda378110e4900270e907dd3d87945", func := "roundhouse/roundhouselaw17.RefereeAgain", spec := "refereeAgain", inPlace := ["slices.overlaps[roundhouse/marks.mark]"], unfollowed := true, recurses := true, apart := false }
def RefereeAgainSaid : Prop := refereeAgainRow.holds Try.pinned (OpenSpec.ofChange refereeAgainSpec)

/-- ITS FALSE NEIGHBOUR: 'it returns false'. Refute it at one input. -/
def refereeAgainWrong : ChangeSpec := { name := "refereeAgain", fn := fun _ => fun
  | [d1, d2, d3] => { results := [.lit (.bool false)], args := [d1, d2, d3] }
  | _ => none }
def RefereeAgainWrongFalsely : Prop := refereeAgainRow.holds Try.pinned (OpenSpec.ofChange refereeAgainWrong)

/-- 'roundhouselaw17.RefereeEpochs': WHATEVER THE INPUT: true; the input reads as it did. -/
def refereeEpochsSpec : ChangeSpec := { name := "refereeEpochs", fn := fun _ => fun
  | [d1, d2, d3, d4] => { results := [.lit (.bool true)], args := [d1, d2, d3, d4] }
  | _ => none }
def refereeEpochsRow : OpenClaim := { program := "ytidlkomgondkiaa", sum := "5f4b4f1c79c042c3bad32c4e0ec8c7d820dda378110e4900270e907dd3d87945", func := "roundhouse/roundhouselaw17.RefereeEpochs", spec := "refereeEpochs", inPlace := ["slices.overlaps[roundhouse/marks.mark]"], unfollowed := true, recurses := true, apart := false }
def RefereeEpochsSaid : Prop := refereeEpochsRow.holds Try.pinned (OpenSpec.ofChange refereeEpochsSpec)

/-- ITS FALSE NEIGHBOUR: 'it returns false'. Refute it at one input. -/
def refereeEpochsWrong : ChangeSpec := { name := "refereeEpochs", fn := fun _ => fun
  | [d1, d2, d3, d4] => { results := [.lit (.bool false)], args := [d1, d2, d3, d4] }
  | _ => none }
def RefereeEpochsWrongFalsely : Prop := refereeEpochsRow.holds Try.pinned (OpenSpec.ofChange refereeEpochsWrong)

/-- 'roundhouselaw17.RefereeLate': WHATEVER THE INPUT: true; the input reads as it did. -/
def refereeLateSpec : ChangeSpec := { name := "refereeLate", fn := fun _ => fun
  | [d1, d2] => { results := [.lit (.bool true)], args := [d1, d2] }
  | _ => none }
def refereeLateRow : OpenClaim := { program := "ytidlkomgondkiaa", sum := "5f4b4f1c79c042c3bad32c4e0ec8c7d820dda378110e4900270e907dd3d87945", func := "roundhouse/roundhouselaw17.RefereeLate", spec := "refereeLate", inPlace := ["slices.overlaps[roundhouse/marks.mark]"], unfollowed := true, recurses := true, apart := false }
def RefereeLateSaid : Prop := refereeLateRow.holds Try.pinned (OpenSpec.ofChange refereeLateSpec)

/-- ITS FALSE NEIGHBOUR: 'it returns false'. Refute it at one input. -/
def refereeLateWrong : ChangeSpec := { name := "refereeLate", fn := fun _ => fun
  | [d1, d2] => { results := [.lit (.bool false)], args := [d1, d2] }
  | _ => none }
def RefereeLateWrongFalsely : Prop := refereeLateRow.holds Try.pinned (OpenSpec.ofChange refereeLateWrong)

/-- 'roundhouselaw17.RefereeNone': WHATEVER THE INPUT: true; the input reads as it did. -/
def refereeNoneSpec : ChangeSpec := { name := "refereeNone", fn := fun _ => fun
  | [d1, d2, d3, d4] => { results := [.lit (.bool true)], args := [d1, d2, d3, d4] }
  | _ => none }
def refereeNoneRow : OpenClaim := { program := "ytidlkomgondkiaa", sum := "5f4b4f1c79c042c3bad32c4e0ec8c7d820dda378110e4900270e907dd3d87945", func := "roundhouse/roundhouselaw17.RefereeNone", spec := "refereeNone", inPlace := ["slices.overlaps[roundhouse/marks.mark]"], unfollowed := true, recurses := true, apart := false }
def RefereeNoneSaid : Prop := refereeNoneRow.holds Try.pinned (OpenSpec.ofChange refereeNoneSpec)

/-- ITS FALSE NEIGHBOUR: 'it returns false'. Refute it at one input. -/
def refereeNoneWrong : ChangeSpec := { name := "refereeNone", fn := fun _ => fun
  | [d1, d2, d3, d4] => { results := [.lit (.bool false)], args := [d1, d2, d3, d4] }
  | _ => none }
def RefereeNoneWrongFalsely : Prop := refereeNoneRow.holds Try.pinned (OpenSpec.ofChange refereeNoneWrong)

/- THE SECOND FORM. 'bulk': how many values and letters a reading holds, each counted each time it is reached (what is shared counts as often as it is met; a slice's spare places count too). A statement '..UptoSaid' is the law's where the arguments, and the package variables that the reading takes, are together of bulk at most 1048576: NARROWER than '..Said'. Prove '..Said' where nothing that the law and all that it calls make is longer than what came in: it says more and counts as full. Else prove '..UptoSaid'. A law counts once. -/
mutual
def uptoBulk {H : Type} : DataW H → Nat
  | .lit (.string bytes) => bytes.length + 1
  | .lit _ => 1
  | .nil => 1
  | .ptr d => uptoBulk d + 1
  | .slice elems spare => uptoBulkAll elems + uptoBulkAll spare + 1
  | .agg parts => uptoBulkAll parts + 1
  | .iface _ d => uptoBulk d + 1
  | .map entries => uptoBulkEntries entries + 1
  | .held _ => 1
def uptoBulkAll {H : Type} : List (DataW H) → Nat
  | [] => 0
  | d :: r => uptoBulk d + uptoBulkAll r
def uptoBulkEntries {H : Type} : List (Lit × DataW H) → Nat
  | [] => 0
  | x :: r => uptoBulkEntry x + uptoBulkEntries r
def uptoBulkEntry {H : Type} : Lit × DataW H → Nat
  | (.string bytes, d) => bytes.length + uptoBulk d + 1
  | (_, d) => uptoBulk d + 1
 end
def uptoSmall : (H : Type) → List (DataW H) → Bool := fun _ ds => decide (uptoBulkAll ds ≤ 1048576)
def OpenSpec.upto (s : _root_.Go.ChangeSpec) : _root_.Go.OpenSpec := { _root_.Go.OpenSpec.ofChange s with cond := some uptoSmall }

/-- 'roundhouselaw11.MarksLate', WHERE WHAT IT READS IS OF BULK AT MOST 1048576: true; the input reads as it did. -/
def marksLateUptoRow : OpenClaim := { program := "ytidlkomgondkiaa", sum := "5f4b4f1c79c042c3bad32c4e0ec8c7d820dda378110e4900270e907dd3d87945", func := "roundhouse/roundhouselaw11.MarksLate", spec := "marksLate", inPlace := ["slices.overlaps[roundhouse/marks.mark]"], unfollowed := true, recurses := true, apart := false, narrowed := true }
def MarksLateUptoSaid : Prop := marksLateUptoRow.holds Try.pinned (OpenSpec.upto marksLateSpec)

/-- 'roundhouselaw11.MarksSplit', WHERE WHAT IT READS IS OF BULK AT MOST 1048576: true; the input reads as it did. -/
def marksSplitUptoRow : OpenClaim := { program := "ytidlkomgondkiaa", sum := "5f4b4f1c79c042c3bad32c4e0ec8c7d820dda378110e4900270e907dd3d87945", func := "roundhouse/roundhouselaw11.MarksSplit", spec := "marksSplit", inPlace := ["slices.overlaps[roundhouse/marks.mark]"], unfollowed := true, recurses := true, apart := false, narrowed := true }
def MarksSplitUptoSaid : Prop := marksSplitUptoRow.holds Try.pinned (OpenSpec.upto marksSplitSpec)

/-- 'roundhouselaw11.MarksAgain', WHERE WHAT IT READS IS OF BULK AT MOST 1048576: true; the input reads as it did. -/
def marksAgainUptoRow : OpenClaim := { program := "ytidlkomgondkiaa", sum := "5f4b4f1c79c042c3bad32c4e0ec8c7d820dda378110e4900270e907dd3d87945", func := "roundhouse/roundhouselaw11.MarksAgain", spec := "marksAgain", inPlace := ["slices.overlaps[roundhouse/marks.mark]"], unfollowed := true, recurses := true, apart := false, narrowed := true }
def MarksAgainUptoSaid : Prop := marksAgainUptoRow.holds Try.pinned (OpenSpec.upto marksAgainSpec)

/-- 'roundhouselaw11.MarksPlays', WHERE WHAT IT READS IS OF BULK AT MOST 1048576: true; the input reads as it did. -/
def marksPlaysUptoRow : OpenClaim := { program := "ytidlkomgondkiaa", sum := "5f4b4f1c79c042c3bad32c4e0ec8c7d820dda378110e4900270e907dd3d87945", func := "roundhouse/roundhouselaw11.MarksPlays", spec := "marksPlays", inPlace := ["slices.overlaps[roundhouse/marks.mark]"], unfollowed := true, recurses := true, apart := false, narrowed := true }
def MarksPlaysUptoSaid : Prop := marksPlaysUptoRow.holds Try.pinned (OpenSpec.upto marksPlaysSpec)

/-- 'roundhouselaw11.MarksNone', WHERE WHAT IT READS IS OF BULK AT MOST 1048576: true; the input reads as it did. -/
def marksNoneUptoRow : OpenClaim := { program := "ytidlkomgondkiaa", sum := "5f4b4f1c79c042c3bad32c4e0ec8c7d820dda378110e4900270e907dd3d87945", func := "roundhouse/roundhouselaw11.MarksNone", spec := "marksNone", inPlace := ["slices.overlaps[roundhouse/marks.mark]"], unfollowed := true, recurses := true, apart := false, narrowed := true }
def MarksNoneUptoSaid : Prop := marksNoneUptoRow.holds Try.pinned (OpenSpec.upto marksNoneSpec)

/-- 'roundhouselaw11.MarksWrites', WHERE WHAT IT READS IS OF BULK AT MOST 1048576: true; the input reads as it did. -/
def marksWritesUptoRow : OpenClaim := { program := "ytidlkomgondkiaa", sum := "5f4b4f1c79c042c3bad32c4e0ec8c7d820dda378110e4900270e907dd3d87945", func := "roundhouse/roundhouselaw11.MarksWrites", spec := "marksWrites", inPlace := ["slices.overlaps[roundhouse/marks.mark]"], unfollowed := true, recurses := true, apart := false, narrowed := true }
def MarksWritesUptoSaid : Prop := marksWritesUptoRow.holds Try.pinned (OpenSpec.upto marksWritesSpec)

/-- 'roundhouselaw17.RefereePlays', WHERE WHAT IT READS IS OF BULK AT MOST 1048576: true; the input reads as it did. -/
def refereePlaysUptoRow : OpenClaim := { program := "ytidlkomgondkiaa", sum := "5f4b4f1c79c042c3bad32c4e0ec8c7d820dda378110e4900270e907dd3d87945", func := "roundhouse/roundhouselaw17.RefereePlays", spec := "refereePlays", inPlace := ["slices.overlaps[roundhouse/marks.mark]"], unfollowed := true, recurses := true, apart := false, narrowed := true }
def RefereePlaysUptoSaid : Prop := refereePlaysUptoRow.holds Try.pinned (OpenSpec.upto refereePlaysSpec)

/-- 'roundhouselaw17.RefereeAgain', WHERE WHAT IT READS IS OF BULK AT MOST 1048576: true; the input reads as it did. -/
def refereeAgainUptoRow : OpenClaim := { program := "ytidlkomgondkiaa", sum := "5f4b4f1c79c042c3bad32c4e0ec8c7d820dda378110e4900270e907dd3d87945", func := "roundhouse/roundhouselaw17.RefereeAgain", spec := "refereeAgain", inPlace := ["slices.overlaps[roundhouse/marks.mark]"], unfollowed := true, recurses := true, apart := false, narrowed := true }
def RefereeAgainUptoSaid : Prop := refereeAgainUptoRow.holds Try.pinned (OpenSpec.upto refereeAgainSpec)

/-- 'roundhouselaw17.RefereeEpochs', WHERE WHAT IT READS IS OF BULK AT MOST 1048576: true; the input reads as it did. -/
def refereeEpochsUptoRow : OpenClaim := { program := "ytidlkomgondkiaa", sum := "5f4b4f1c79c042c3bad32c4e0ec8c7d820dda378110e4900270e907dd3d87945", func := "roundhouse/roundhouselaw17.RefereeEpochs", spec := "refereeEpochs", inPlace := ["slices.overlaps[roundhouse/marks.mark]"], unfollowed := true, recurses := true, apart := false, narrowed := true }
def RefereeEpochsUptoSaid : Prop := refereeEpochsUptoRow.holds Try.pinned (OpenSpec.upto refereeEpochsSpec)

/-- 'roundhouselaw17.RefereeLate', WHERE WHAT IT READS IS OF BULK AT MOST 1048576: true; the input reads as it did. -/
def refereeLateUptoRow : OpenClaim := { program := "ytidlkomgondkiaa", sum := "5f4b4f1c79c042c3bad32c4e0ec8c7d820dda378110e4900270e907dd3d87945", func := "roundhouse/roundhouselaw17.RefereeLate", spec := "refereeLate", inPlace := ["slices.overlaps[roundhouse/marks.mark]"], unfollowed := true, recurses := true, apart := false, narrowed := true }
def RefereeLateUptoSaid : Prop := refereeLateUptoRow.holds Try.pinned (OpenSpec.upto refereeLateSpec)

/-- 'roundhouselaw17.RefereeNone', WHERE WHAT IT READS IS OF BULK AT MOST 1048576: true; the input reads as it did. -/
def refereeNoneUptoRow : OpenClaim := { program := "ytidlkomgondkiaa", sum := "5f4b4f1c79c042c3bad32c4e0ec8c7d820dda378110e4900270e907dd3d87945", func := "roundhouse/roundhouselaw17.RefereeNone", spec := "refereeNone", inPlace := ["slices.overlaps[roundhouse/marks.mark]"], unfollowed := true, recurses := true, apart := false, narrowed := true }
def RefereeNoneUptoSaid : Prop := refereeNoneUptoRow.holds Try.pinned (OpenSpec.upto refereeNoneSpec)

end Rows
end Go.Proofs.Ytidlkomgondkiaa
