/-
  No cell of these rows narrows 'for every input' (looked for: loops, veiled, ifaces, maps, wideKeys, modest, calm, conditions, laid).
  DERIVED. THE GIVEN ROWS OF THIS SEAT. 4 by the template 'for every input the law returns true; each argument reads behind the call as it read before'; 0 by the template 'total and deterministic' (their statements: YtinfeajbnhkkiaaTotals.lean).
  GIVEN WITH THE SEED: the statements are not yours to turn. If you find one false, say at which input.
  Laid BY PROGRAM, IN A SANDBOX (cutbox-rows.mjs): the forced cells as the released guide's own fill.sh prints them over the translation ad446a3bc5146467… (all of the seat's roots in one cut). By AI agents, Wed Nov 11 2026. No macro, syntax, notation, axiom, sorry.
-/
import Derived.Test.YtinfeajbnhkkiaaChecked
import GoSem.Claim
import GoSem.ClaimJoined
import GoSem.ClaimMapViews
import Derived.JoinedTies
import Derived.KernelRfl
namespace Go.Proofs.Ytinfeajbnhkkiaa
/- THE CELL 'sum', in the pinned program and in every row, IS THE sha256 OF THE DUMP (.gsa) THAT YtinfeajbnhkkiaaProg.lean LOADS. Nothing in Lean hashes anything: it is a label: what it is worth is what the hold of that sum in a sandbox is worth. -/
noncomputable def Try.pinned : Pinned := { name := "ytinfeajbnhkkiaa", sum := "ad446a3bc514646774a05d31a7f5ab524af653789ed8f4a8aee91ac3b28ec24a", checked := Try.checked }
namespace Rows
def none {H : Type} : Left H := { results := [], args := [] }

/-- 'roundhouselaw09.ClockOnce': WHATEVER THE INPUT: true; the input reads as it did. -/
def clockOnceSpec : ChangeSpec := { name := "clockOnce", fn := fun _ => fun
  | [d1, d2] => { results := [.lit (.bool true)], args := [d1, d2] }
  | _ => none }
def clockOnceRow : OpenClaim := { program := "ytinfeajbnhkkiaa", sum := "ad446a3bc514646774a05d31a7f5ab524af653789ed8f4a8aee91ac3b28ec24a", func := "roundhouse/roundhouselaw09.ClockOnce", spec := "clockOnce", unfollowed := true, recurses := true, apart := false }
def ClockOnceSaid : Prop := clockOnceRow.holds Try.pinned (OpenSpec.ofChange clockOnceSpec)

/-- ITS FALSE NEIGHBOUR: 'it returns false'. Refute it at one input. -/
def clockOnceWrong : ChangeSpec := { name := "clockOnce", fn := fun _ => fun
  | [d1, d2] => { results := [.lit (.bool false)], args := [d1, d2] }
  | _ => none }
def ClockOnceWrongFalsely : Prop := clockOnceRow.holds Try.pinned (OpenSpec.ofChange clockOnceWrong)

/-- 'roundhouselaw09.ClockPlays': WHATEVER THE INPUT: true; the input reads as it did. -/
def clockPlaysSpec : ChangeSpec := { name := "clockPlays", fn := fun _ => fun
  | [d] => { results := [.lit (.bool true)], args := [d] }
  | _ => none }
def clockPlaysRow : OpenClaim := { program := "ytinfeajbnhkkiaa", sum := "ad446a3bc514646774a05d31a7f5ab524af653789ed8f4a8aee91ac3b28ec24a", func := "roundhouse/roundhouselaw09.ClockPlays", spec := "clockPlays", unfollowed := true, recurses := true, apart := false }
def ClockPlaysSaid : Prop := clockPlaysRow.holds Try.pinned (OpenSpec.ofChange clockPlaysSpec)

/-- ITS FALSE NEIGHBOUR: 'it returns false'. Refute it at one input. -/
def clockPlaysWrong : ChangeSpec := { name := "clockPlays", fn := fun _ => fun
  | [d] => { results := [.lit (.bool false)], args := [d] }
  | _ => none }
def ClockPlaysWrongFalsely : Prop := clockPlaysRow.holds Try.pinned (OpenSpec.ofChange clockPlaysWrong)

/-- 'roundhouselaw09.ClockNone': WHATEVER THE INPUT: true; the input reads as it did. -/
def clockNoneSpec : ChangeSpec := { name := "clockNone", fn := fun _ => fun
  | [d1, d2] => { results := [.lit (.bool true)], args := [d1, d2] }
  | _ => none }
def clockNoneRow : OpenClaim := { program := "ytinfeajbnhkkiaa", sum := "ad446a3bc514646774a05d31a7f5ab524af653789ed8f4a8aee91ac3b28ec24a", func := "roundhouse/roundhouselaw09.ClockNone", spec := "clockNone", unfollowed := true, recurses := true, apart := false }
def ClockNoneSaid : Prop := clockNoneRow.holds Try.pinned (OpenSpec.ofChange clockNoneSpec)

/-- ITS FALSE NEIGHBOUR: 'it returns false'. Refute it at one input. -/
def clockNoneWrong : ChangeSpec := { name := "clockNone", fn := fun _ => fun
  | [d1, d2] => { results := [.lit (.bool false)], args := [d1, d2] }
  | _ => none }
def ClockNoneWrongFalsely : Prop := clockNoneRow.holds Try.pinned (OpenSpec.ofChange clockNoneWrong)

/-- 'roundhouselaw09.ClockAgain': WHATEVER THE INPUT: true; the input reads as it did. -/
def clockAgainSpec : ChangeSpec := { name := "clockAgain", fn := fun _ => fun
  | [d1, d2, d3, d4] => { results := [.lit (.bool true)], args := [d1, d2, d3, d4] }
  | _ => none }
def clockAgainRow : OpenClaim := { program := "ytinfeajbnhkkiaa", sum := "ad446a3bc514646774a05d31a7f5ab524af653789ed8f4a8aee91ac3b28ec24a", func := "roundhouse/roundhouselaw09.ClockAgain", spec := "clockAgain", unfollowed := true, recurses := true, apart := false }
def ClockAgainSaid : Prop := clockAgainRow.holds Try.pinned (OpenSpec.ofChange clockAgainSpec)

/-- ITS FALSE NEIGHBOUR: 'it returns false'. Refute it at one input. -/
def clockAgainWrong : ChangeSpec := { name := "clockAgain", fn := fun _ => fun
  | [d1, d2, d3, d4] => { results := [.lit (.bool false)], args := [d1, d2, d3, d4] }
  | _ => none }
def ClockAgainWrongFalsely : Prop := clockAgainRow.holds Try.pinned (OpenSpec.ofChange clockAgainWrong)

/- THE SECOND FORM. 'bulk': how many values and letters a reading holds, each counted each time it is reached (what is shared counts as often as it is met; a slice's spare places count too). A statement '..UptoSaid' is the law's where the arguments, and the package variables that the reading takes, are together of bulk at most 1048576: NARROWER than '..Said'. Prove '..Said' where nothing that the law and all that it calls make is longer than what came in: it says more and counts as full. Else prove '..UptoSaid'. A law counts once. -/
mutual
def uptoBulk {H : Type} : DataW H → Nat
  | .lit (.string bytes) => bytes.length + 1
  | .lit _ => 1
  | .nil => 1
  | .ptr d => uptoBulk d + 1
  | .slice elems spare => uptoBulkAll elems + uptoBulkAll spare + 1
  | .agg parts => uptoBulkAll parts + 1
  | .iface _ d => uptoBulk d + 1
  | .map entries => uptoBulkEntries entries + 1
  | .held _ => 1
def uptoBulkAll {H : Type} : List (DataW H) → Nat
  | [] => 0
  | d :: r => uptoBulk d + uptoBulkAll r
def uptoBulkEntries {H : Type} : List (Lit × DataW H) → Nat
  | [] => 0
  | x :: r => uptoBulkEntry x + uptoBulkEntries r
def uptoBulkEntry {H : Type} : Lit × DataW H → Nat
  | (.string bytes, d) => bytes.length + uptoBulk d + 1
  | (_, d) => uptoBulk d + 1
 end
def uptoSmall : (H : Type) → List (DataW H) → Bool := fun _ ds => decide (uptoBulkAll ds ≤ 1048576)
def OpenSpec.upto (s : _root_.Go.ChangeSpec) : _root_.Go.OpenSpec := { _root_.Go.OpenSpec.ofChange s with cond := some uptoSmall }

/-- 'roundhouselaw09.ClockOnce', WHERE WHAT IT READS IS OF BULK AT MOST 1048576: true; the input reads as it did. -/
def clockOnceUptoRow : OpenClaim := { program := "ytinfeajbnhkkiaa", sum := "ad446a3bc514646774a05d31a7f5ab524af653789ed8f4a8aee91ac3b28ec24a", func := "roundhouse/roundhouselaw09.ClockOnce", spec := "clockOnce", unfollowed := true, recurses := true, apart := false, narrowed := true }
def ClockOnceUptoSaid : Prop := clockOnceUptoRow.holds Try.pinned (OpenSpec.upto clockOnceSpec)

/-- 'roundhouselaw09.ClockPlays', WHERE WHAT IT READS IS OF BULK AT MOST 1048576: true; the input reads as it did. -/
def clockPlaysUptoRow : OpenClaim := { program := "ytinfeajbnhkkiaa", sum := "ad446a3bc514646774a05d31a7f5ab524af653789ed8f4a8aee91ac3b28ec24a", func := "roundhouse/roundhouselaw09.ClockPlays", spec := "clockPlays", unfollowed := true, recurses := true, apart := false, narrowed := true }
def ClockPlaysUptoSaid : Prop := clockPlaysUptoRow.holds Try.pinned (OpenSpec.upto clockPlaysSpec)

/-- 'roundhouselaw09.ClockNone', WHERE WHAT IT READS IS OF BULK AT MOST 1048576: true; the input reads as it did. -/
def clockNoneUptoRow : OpenClaim := { program := "ytinfeajbnhkkiaa", sum := "ad446a3bc514646774a05d31a7f5ab524af653789ed8f4a8aee91ac3b28ec24a", func := "roundhouse/roundhouselaw09.ClockNone", spec := "clockNone", unfollowed := true, recurses := true, apart := false, narrowed := true }
def ClockNoneUptoSaid : Prop := clockNoneUptoRow.holds Try.pinned (OpenSpec.upto clockNoneSpec)

/-- 'roundhouselaw09.ClockAgain', WHERE WHAT IT READS IS OF BULK AT MOST 1048576: true; the input reads as it did. -/
def clockAgainUptoRow : OpenClaim := { program := "ytinfeajbnhkkiaa", sum := "ad446a3bc514646774a05d31a7f5ab524af653789ed8f4a8aee91ac3b28ec24a", func := "roundhouse/roundhouselaw09.ClockAgain", spec := "clockAgain", unfollowed := true, recurses := true, apart := false, narrowed := true }
def ClockAgainUptoSaid : Prop := clockAgainUptoRow.holds Try.pinned (OpenSpec.upto clockAgainSpec)

end Rows
end Go.Proofs.Ytinfeajbnhkkiaa
