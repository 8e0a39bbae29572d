/-
  No cell of these rows narrows 'for every input' (looked for: loops, veiled, ifaces, maps, wideKeys, modest, calm, conditions, laid).
  DERIVED. THE GIVEN ROWS OF THIS SEAT. 5 by the template 'for every input the law returns true; each argument reads behind the call as it read before'; 0 by the template 'total and deterministic' (their statements: YtglllnpjedlmnaaTotals.lean).
  GIVEN WITH THE SEED: the statements are not yours to turn. If you find one false, say at which input.
  Laid BY PROGRAM, IN A SANDBOX (cutbox-rows.mjs): the forced cells as the released guide's own fill.sh prints them over the translation 7eeda4fae17f8b44… (all of the seat's roots in one cut). By AI agents, Wed Nov 11 2026. No macro, syntax, notation, axiom, sorry.
-/
import Derived.Test.YtglllnpjedlmnaaChecked
import GoSem.Claim
import GoSem.ClaimJoined
import GoSem.ClaimMapViews
import Derived.JoinedTies
import Derived.KernelRfl
namespace Go.Proofs.Ytglllnpjedlmnaa
/- THE CELL 'sum', in the pinned program and in every row, IS THE sha256 OF THE DUMP (.gsa) THAT YtglllnpjedlmnaaProg.lean LOADS. Nothing in Lean hashes anything: it is a label: what it is worth is what the hold of that sum in a sandbox is worth. -/
noncomputable def Try.pinned : Pinned := { name := "ytglllnpjedlmnaa", sum := "7eeda4fae17f8b4443db574b844722cf480309d4f23a2ac8761b35f8971b2543", checked := Try.checked }
namespace Rows
def none {H : Type} : Left H := { results := [], args := [] }

/-- 'roundhouselaw08.BagTwins': WHATEVER THE INPUT: true; the input reads as it did. -/
def bagTwinsSpec : ChangeSpec := { name := "bagTwins", fn := fun _ => fun
  | [d1, d2, d3] => { results := [.lit (.bool true)], args := [d1, d2, d3] }
  | _ => none }
def bagTwinsRow : OpenClaim := { program := "ytglllnpjedlmnaa", sum := "7eeda4fae17f8b4443db574b844722cf480309d4f23a2ac8761b35f8971b2543", func := "roundhouse/roundhouselaw08.BagTwins", spec := "bagTwins", apart := false }
def BagTwinsSaid : Prop := bagTwinsRow.holds Try.pinned (OpenSpec.ofChange bagTwinsSpec)

/-- ITS FALSE NEIGHBOUR: 'it returns false'. Refute it at one input. -/
def bagTwinsWrong : ChangeSpec := { name := "bagTwins", fn := fun _ => fun
  | [d1, d2, d3] => { results := [.lit (.bool false)], args := [d1, d2, d3] }
  | _ => none }
def BagTwinsWrongFalsely : Prop := bagTwinsRow.holds Try.pinned (OpenSpec.ofChange bagTwinsWrong)

/-- 'roundhouselaw08.BagOrder': WHATEVER THE INPUT: true; the input reads as it did. -/
def bagOrderSpec : ChangeSpec := { name := "bagOrder", fn := fun _ => fun
  | [d] => { results := [.lit (.bool true)], args := [d] }
  | _ => none }
def bagOrderRow : OpenClaim := { program := "ytglllnpjedlmnaa", sum := "7eeda4fae17f8b4443db574b844722cf480309d4f23a2ac8761b35f8971b2543", func := "roundhouse/roundhouselaw08.BagOrder", spec := "bagOrder", apart := false }
def BagOrderSaid : Prop := bagOrderRow.holds Try.pinned (OpenSpec.ofChange bagOrderSpec)

/-- ITS FALSE NEIGHBOUR: 'it returns false'. Refute it at one input. -/
def bagOrderWrong : ChangeSpec := { name := "bagOrder", fn := fun _ => fun
  | [d] => { results := [.lit (.bool false)], args := [d] }
  | _ => none }
def BagOrderWrongFalsely : Prop := bagOrderRow.holds Try.pinned (OpenSpec.ofChange bagOrderWrong)

/-- 'roundhouselaw08.BagRound': WHATEVER THE INPUT: true; the input reads as it did. -/
def bagRoundSpec : ChangeSpec := { name := "bagRound", fn := fun _ => fun
  | [d1, d2] => { results := [.lit (.bool true)], args := [d1, d2] }
  | _ => none }
def bagRoundRow : OpenClaim := { program := "ytglllnpjedlmnaa", sum := "7eeda4fae17f8b4443db574b844722cf480309d4f23a2ac8761b35f8971b2543", func := "roundhouse/roundhouselaw08.BagRound", spec := "bagRound", apart := false }
def BagRoundSaid : Prop := bagRoundRow.holds Try.pinned (OpenSpec.ofChange bagRoundSpec)

/-- ITS FALSE NEIGHBOUR: 'it returns false'. Refute it at one input. -/
def bagRoundWrong : ChangeSpec := { name := "bagRound", fn := fun _ => fun
  | [d1, d2] => { results := [.lit (.bool false)], args := [d1, d2] }
  | _ => none }
def BagRoundWrongFalsely : Prop := bagRoundRow.holds Try.pinned (OpenSpec.ofChange bagRoundWrong)

/-- 'roundhouselaw08.BagPlays': WHATEVER THE INPUT: true; the input reads as it did. -/
def bagPlaysSpec : ChangeSpec := { name := "bagPlays", fn := fun _ => fun
  | [d1, d2] => { results := [.lit (.bool true)], args := [d1, d2] }
  | _ => none }
def bagPlaysRow : OpenClaim := { program := "ytglllnpjedlmnaa", sum := "7eeda4fae17f8b4443db574b844722cf480309d4f23a2ac8761b35f8971b2543", func := "roundhouse/roundhouselaw08.BagPlays", spec := "bagPlays", apart := false }
def BagPlaysSaid : Prop := bagPlaysRow.holds Try.pinned (OpenSpec.ofChange bagPlaysSpec)

/-- ITS FALSE NEIGHBOUR: 'it returns false'. Refute it at one input. -/
def bagPlaysWrong : ChangeSpec := { name := "bagPlays", fn := fun _ => fun
  | [d1, d2] => { results := [.lit (.bool false)], args := [d1, d2] }
  | _ => none }
def BagPlaysWrongFalsely : Prop := bagPlaysRow.holds Try.pinned (OpenSpec.ofChange bagPlaysWrong)

/-- 'roundhouselaw08.BagNone': WHATEVER THE INPUT: true; the input reads as it did. -/
def bagNoneSpec : ChangeSpec := { name := "bagNone", fn := fun _ => fun
  | [d1, d2, d3] => { results := [.lit (.bool true)], args := [d1, d2, d3] }
  | _ => none }
def bagNoneRow : OpenClaim := { program := "ytglllnpjedlmnaa", sum := "7eeda4fae17f8b4443db574b844722cf480309d4f23a2ac8761b35f8971b2543", func := "roundhouse/roundhouselaw08.BagNone", spec := "bagNone", apart := false }
def BagNoneSaid : Prop := bagNoneRow.holds Try.pinned (OpenSpec.ofChange bagNoneSpec)

/-- ITS FALSE NEIGHBOUR: 'it returns false'. Refute it at one input. -/
def bagNoneWrong : ChangeSpec := { name := "bagNone", fn := fun _ => fun
  | [d1, d2, d3] => { results := [.lit (.bool false)], args := [d1, d2, d3] }
  | _ => none }
def BagNoneWrongFalsely : Prop := bagNoneRow.holds Try.pinned (OpenSpec.ofChange bagNoneWrong)

/- THE SECOND FORM. 'bulk': how many values and letters a reading holds, each counted each time it is reached (what is shared counts as often as it is met; a slice's spare places count too). A statement '..UptoSaid' is the law's where the arguments, and the package variables that the reading takes, are together of bulk at most 1048576: NARROWER than '..Said'. Prove '..Said' where nothing that the law and all that it calls make is longer than what came in: it says more and counts as full. Else prove '..UptoSaid'. A law counts once. -/
mutual
def uptoBulk {H : Type} : DataW H → Nat
  | .lit (.string bytes) => bytes.length + 1
  | .lit _ => 1
  | .nil => 1
  | .ptr d => uptoBulk d + 1
  | .slice elems spare => uptoBulkAll elems + uptoBulkAll spare + 1
  | .agg parts => uptoBulkAll parts + 1
  | .iface _ d => uptoBulk d + 1
  | .map entries => uptoBulkEntries entries + 1
  | .held _ => 1
def uptoBulkAll {H : Type} : List (DataW H) → Nat
  | [] => 0
  | d :: r => uptoBulk d + uptoBulkAll r
def uptoBulkEntries {H : Type} : List (Lit × DataW H) → Nat
  | [] => 0
  | x :: r => uptoBulkEntry x + uptoBulkEntries r
def uptoBulkEntry {H : Type} : Lit × DataW H → Nat
  | (.string bytes, d) => bytes.length + uptoBulk d + 1
  | (_, d) => uptoBulk d + 1
 end
def uptoSmall : (H : Type) → List (DataW H) → Bool := fun _ ds => decide (uptoBulkAll ds ≤ 1048576)
def OpenSpec.upto (s : _root_.Go.ChangeSpec) : _root_.Go.OpenSpec := { _root_.Go.OpenSpec.ofChange s with cond := some uptoSmall }

/-- 'roundhouselaw08.BagTwins', WHERE WHAT IT READS IS OF BULK AT MOST 1048576: true; the input reads as it did. -/
def bagTwinsUptoRow : OpenClaim := { program := "ytglllnpjedlmnaa", sum := "7eeda4fae17f8b4443db574b844722cf480309d4f23a2ac8761b35f8971b2543", func := "roundhouse/roundhouselaw08.BagTwins", spec := "bagTwins", apart := false, narrowed := true }
def BagTwinsUptoSaid : Prop := bagTwinsUptoRow.holds Try.pinned (OpenSpec.upto bagTwinsSpec)

/-- 'roundhouselaw08.BagOrder', WHERE WHAT IT READS IS OF BULK AT MOST 1048576: true; the input reads as it did. -/
def bagOrderUptoRow : OpenClaim := { program := "ytglllnpjedlmnaa", sum := "7eeda4fae17f8b4443db574b844722cf480309d4f23a2ac8761b35f8971b2543", func := "roundhouse/roundhouselaw08.BagOrder", spec := "bagOrder", apart := false, narrowed := true }
def BagOrderUptoSaid : Prop := bagOrderUptoRow.holds Try.pinned (OpenSpec.upto bagOrderSpec)

/-- 'roundhouselaw08.BagRound', WHERE WHAT IT READS IS OF BULK AT MOST 1048576: true; the input reads as it did. -/
def bagRoundUptoRow : OpenClaim := { program := "ytglllnpjedlmnaa", sum := "7eeda4fae17f8b4443db574b844722cf480309d4f23a2ac8761b35f8971b2543", func := "roundhouse/roundhouselaw08.BagRound", spec := "bagRound", apart := false, narrowed := true }
def BagRoundUptoSaid : Prop := bagRoundUptoRow.holds Try.pinned (OpenSpec.upto bagRoundSpec)

/-- 'roundhouselaw08.BagPlays', WHERE WHAT IT READS IS OF BULK AT MOST 1048576: true; the input reads as it did. -/
def bagPlaysUptoRow : OpenClaim := { program := "ytglllnpjedlmnaa", sum := "7eeda4fae17f8b4443db574b844722cf480309d4f23a2ac8761b35f8971b2543", func := "roundhouse/roundhouselaw08.BagPlays", spec := "bagPlays", apart := false, narrowed := true }
def BagPlaysUptoSaid : Prop := bagPlaysUptoRow.holds Try.pinned (OpenSpec.upto bagPlaysSpec)

/-- 'roundhouselaw08.BagNone', WHERE WHAT IT READS IS OF BULK AT MOST 1048576: true; the input reads as it did. -/
def bagNoneUptoRow : OpenClaim := { program := "ytglllnpjedlmnaa", sum := "7eeda4fae17f8b4443db574b844722cf480309d4f23a2ac8761b35f8971b2543", func := "roundhouse/roundhouselaw08.BagNone", spec := "bagNone", apart := false, narrowed := true }
def BagNoneUptoSaid : Prop := bagNoneUptoRow.holds Try.pinned (OpenSpec.upto bagNoneSpec)

end Rows
end Go.Proofs.Ytglllnpjedlmnaa
