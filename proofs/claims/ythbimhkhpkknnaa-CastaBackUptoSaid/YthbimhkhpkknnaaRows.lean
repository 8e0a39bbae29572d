/-
  No cell of these rows narrows 'for every input' (looked for: loops, veiled, ifaces, maps, wideKeys, modest, calm, conditions, laid).
  DERIVED. THE GIVEN ROWS OF THIS SEAT. 5 by the template 'for every input the law returns true; each argument reads behind the call as it read before'; 0 by the template 'total and deterministic' (their statements: YthbimhkhpkknnaaTotals.lean).
  GIVEN WITH THE SEED: the statements are not yours to turn. If you find one false, say at which input.
  Laid BY PROGRAM, IN A SANDBOX (cutbox-rows.mjs): the forced cells as the released guide's own fill.sh prints them over the translation 5cef90c77c4dd913… (all of the seat's roots in one cut). By AI agents, Wed Nov 11 2026. No macro, syntax, notation, axiom, sorry.
-/
import Derived.Test.YthbimhkhpkknnaaChecked
import GoSem.Claim
import GoSem.ClaimJoined
import GoSem.ClaimMapViews
import Derived.JoinedTies
import Derived.KernelRfl
namespace Go.Proofs.Ythbimhkhpkknnaa
/- THE CELL 'sum', in the pinned program and in every row, IS THE sha256 OF THE DUMP (.gsa) THAT YthbimhkhpkknnaaProg.lean LOADS. Nothing in Lean hashes anything: it is a label: what it is worth is what the hold of that sum in a sandbox is worth. -/
noncomputable def Try.pinned : Pinned := { name := "ythbimhkhpkknnaa", sum := "5cef90c77c4dd913caed119a67df8f58b61b0cd967267cc2de79142a05cefd68", checked := Try.checked }
namespace Rows
def none {H : Type} : Left H := { results := [], args := [] }

/-- 'roundhouselaw02.CastaSums': WHATEVER THE INPUT: true; the input reads as it did. -/
def castaSumsSpec : ChangeSpec := { name := "castaSums", fn := fun _ => fun
  | [d1, d2] => { results := [.lit (.bool true)], args := [d1, d2] }
  | _ => none }
def castaSumsRow : OpenClaim := { program := "ythbimhkhpkknnaa", sum := "5cef90c77c4dd913caed119a67df8f58b61b0cd967267cc2de79142a05cefd68", func := "roundhouse/roundhouselaw02.CastaSums", spec := "castaSums", apart := false }
def CastaSumsSaid : Prop := castaSumsRow.holds Try.pinned (OpenSpec.ofChange castaSumsSpec)

/-- ITS FALSE NEIGHBOUR: 'it returns false'. Refute it at one input. -/
def castaSumsWrong : ChangeSpec := { name := "castaSums", fn := fun _ => fun
  | [d1, d2] => { results := [.lit (.bool false)], args := [d1, d2] }
  | _ => none }
def CastaSumsWrongFalsely : Prop := castaSumsRow.holds Try.pinned (OpenSpec.ofChange castaSumsWrong)

/-- 'roundhouselaw02.CastaSeals': WHATEVER THE INPUT: true; the input reads as it did. -/
def castaSealsSpec : ChangeSpec := { name := "castaSeals", fn := fun _ => fun
  | [d] => { results := [.lit (.bool true)], args := [d] }
  | _ => none }
def castaSealsRow : OpenClaim := { program := "ythbimhkhpkknnaa", sum := "5cef90c77c4dd913caed119a67df8f58b61b0cd967267cc2de79142a05cefd68", func := "roundhouse/roundhouselaw02.CastaSeals", spec := "castaSeals", apart := false }
def CastaSealsSaid : Prop := castaSealsRow.holds Try.pinned (OpenSpec.ofChange castaSealsSpec)

/-- ITS FALSE NEIGHBOUR: 'it returns false'. Refute it at one input. -/
def castaSealsWrong : ChangeSpec := { name := "castaSeals", fn := fun _ => fun
  | [d] => { results := [.lit (.bool false)], args := [d] }
  | _ => none }
def CastaSealsWrongFalsely : Prop := castaSealsRow.holds Try.pinned (OpenSpec.ofChange castaSealsWrong)

/-- 'roundhouselaw02.CastaBack': WHATEVER THE INPUT: true; the input reads as it did. -/
def castaBackSpec : ChangeSpec := { name := "castaBack", fn := fun _ => fun
  | [d1, d2] => { results := [.lit (.bool true)], args := [d1, d2] }
  | _ => none }
def castaBackRow : OpenClaim := { program := "ythbimhkhpkknnaa", sum := "5cef90c77c4dd913caed119a67df8f58b61b0cd967267cc2de79142a05cefd68", func := "roundhouse/roundhouselaw02.CastaBack", spec := "castaBack", apart := false }
def CastaBackSaid : Prop := castaBackRow.holds Try.pinned (OpenSpec.ofChange castaBackSpec)

/-- ITS FALSE NEIGHBOUR: 'it returns false'. Refute it at one input. -/
def castaBackWrong : ChangeSpec := { name := "castaBack", fn := fun _ => fun
  | [d1, d2] => { results := [.lit (.bool false)], args := [d1, d2] }
  | _ => none }
def CastaBackWrongFalsely : Prop := castaBackRow.holds Try.pinned (OpenSpec.ofChange castaBackWrong)

/-- 'roundhouselaw02.CastaFinds': WHATEVER THE INPUT: true; the input reads as it did. -/
def castaFindsSpec : ChangeSpec := { name := "castaFinds", fn := fun _ => fun
  | [d1, d2, d3] => { results := [.lit (.bool true)], args := [d1, d2, d3] }
  | _ => none }
def castaFindsRow : OpenClaim := { program := "ythbimhkhpkknnaa", sum := "5cef90c77c4dd913caed119a67df8f58b61b0cd967267cc2de79142a05cefd68", func := "roundhouse/roundhouselaw02.CastaFinds", spec := "castaFinds", apart := false }
def CastaFindsSaid : Prop := castaFindsRow.holds Try.pinned (OpenSpec.ofChange castaFindsSpec)

/-- ITS FALSE NEIGHBOUR: 'it returns false'. Refute it at one input. -/
def castaFindsWrong : ChangeSpec := { name := "castaFinds", fn := fun _ => fun
  | [d1, d2, d3] => { results := [.lit (.bool false)], args := [d1, d2, d3] }
  | _ => none }
def CastaFindsWrongFalsely : Prop := castaFindsRow.holds Try.pinned (OpenSpec.ofChange castaFindsWrong)

/-- 'roundhouselaw02.CastaThree': WHATEVER THE INPUT: true; the input reads as it did. -/
def castaThreeSpec : ChangeSpec := { name := "castaThree", fn := fun _ => fun
  | [d1, d2, d3] => { results := [.lit (.bool true)], args := [d1, d2, d3] }
  | _ => none }
def castaThreeRow : OpenClaim := { program := "ythbimhkhpkknnaa", sum := "5cef90c77c4dd913caed119a67df8f58b61b0cd967267cc2de79142a05cefd68", func := "roundhouse/roundhouselaw02.CastaThree", spec := "castaThree", apart := false }
def CastaThreeSaid : Prop := castaThreeRow.holds Try.pinned (OpenSpec.ofChange castaThreeSpec)

/-- ITS FALSE NEIGHBOUR: 'it returns false'. Refute it at one input. -/
def castaThreeWrong : ChangeSpec := { name := "castaThree", fn := fun _ => fun
  | [d1, d2, d3] => { results := [.lit (.bool false)], args := [d1, d2, d3] }
  | _ => none }
def CastaThreeWrongFalsely : Prop := castaThreeRow.holds Try.pinned (OpenSpec.ofChange castaThreeWrong)

/- THE SECOND FORM. 'bulk': how many values and letters a reading holds, each counted each time it is reached (what is shared counts as often as it is met; a slice's spare places count too). A statement '..UptoSaid' is the law's where the arguments, and the package variables that the reading takes, are together of bulk at most 1048576: NARROWER than '..Said'. Prove '..Said' where nothing that the law and all that it calls make is longer than what came in: it says more and counts as full. Else prove '..UptoSaid'. A law counts once. -/
mutual
def uptoBulk {H : Type} : DataW H → Nat
  | .lit (.string bytes) => bytes.length + 1
  | .lit _ => 1
  | .nil => 1
  | .ptr d => uptoBulk d + 1
  | .slice elems spare => uptoBulkAll elems + uptoBulkAll spare + 1
  | .agg parts => uptoBulkAll parts + 1
  | .iface _ d => uptoBulk d + 1
  | .map entries => uptoBulkEntries entries + 1
  | .held _ => 1
def uptoBulkAll {H : Type} : List (DataW H) → Nat
  | [] => 0
  | d :: r => uptoBulk d + uptoBulkAll r
def uptoBulkEntries {H : Type} : List (Lit × DataW H) → Nat
  | [] => 0
  | x :: r => uptoBulkEntry x + uptoBulkEntries r
def uptoBulkEntry {H : Type} : Lit × DataW H → Nat
  | (.string bytes, d) => bytes.length + uptoBulk d + 1
  | (_, d) => uptoBulk d + 1
 end
def uptoSmall : (H : Type) → List (DataW H) → Bool := fun _ ds => decide (uptoBulkAll ds ≤ 1048576)
def OpenSpec.upto (s : _root_.Go.ChangeSpec) : _root_.Go.OpenSpec := { _root_.Go.OpenSpec.ofChange s with cond := some uptoSmall }

/-- 'roundhouselaw02.CastaSums', WHERE WHAT IT READS IS OF BULK AT MOST 1048576: true; the input reads as it did. -/
def castaSumsUptoRow : OpenClaim := { program := "ythbimhkhpkknnaa", sum := "5cef90c77c4dd913caed119a67df8f58b61b0cd967267cc2de79142a05cefd68", func := "roundhouse/roundhouselaw02.CastaSums", spec := "castaSums", apart := false, narrowed := true }
def CastaSumsUptoSaid : Prop := castaSumsUptoRow.holds Try.pinned (OpenSpec.upto castaSumsSpec)

/-- 'roundhouselaw02.CastaSeals', WHERE WHAT IT READS IS OF BULK AT MOST 1048576: true; the input reads as it did. -/
def castaSealsUptoRow : OpenClaim := { program := "ythbimhkhpkknnaa", sum := "5cef90c77c4dd913caed119a67df8f58b61b0cd967267cc2de79142a05cefd68", func := "roundhouse/roundhouselaw02.CastaSeals", spec := "castaSeals", apart := false, narrowed := true }
def CastaSealsUptoSaid : Prop := castaSealsUptoRow.holds Try.pinned (OpenSpec.upto castaSealsSpec)

/-- 'roundhouselaw02.CastaBack', WHERE WHAT IT READS IS OF BULK AT MOST 1048576: true; the input reads as it did. -/
def castaBackUptoRow : OpenClaim := { program := "ythbimhkhpkknnaa", sum := "5cef90c77c4dd913caed119a67df8f58b61b0cd967267cc2de79142a05cefd68", func := "roundhouse/roundhouselaw02.CastaBack", spec := "castaBack", apart := false, narrowed := true }
def CastaBackUptoSaid : Prop := castaBackUptoRow.holds Try.pinned (OpenSpec.upto castaBackSpec)

/-- 'roundhouselaw02.CastaFinds', WHERE WHAT IT READS IS OF BULK AT MOST 1048576: true; the input reads as it did. -/
def castaFindsUptoRow : OpenClaim := { program := "ythbimhkhpkknnaa", sum := "5cef90c77c4dd913caed119a67df8f58b61b0cd967267cc2de79142a05cefd68", func := "roundhouse/roundhouselaw02.CastaFinds", spec := "castaFinds", apart := false, narrowed := true }
def CastaFindsUptoSaid : Prop := castaFindsUptoRow.holds Try.pinned (OpenSpec.upto castaFindsSpec)

/-- 'roundhouselaw02.CastaThree', WHERE WHAT IT READS IS OF BULK AT MOST 1048576: true; the input reads as it did. -/
def castaThreeUptoRow : OpenClaim := { program := "ythbimhkhpkknnaa", sum := "5cef90c77c4dd913caed119a67df8f58b61b0cd967267cc2de79142a05cefd68", func := "roundhouse/roundhouselaw02.CastaThree", spec := "castaThree", apart := false, narrowed := true }
def CastaThreeUptoSaid : Prop := castaThreeUptoRow.holds Try.pinned (OpenSpec.upto castaThreeSpec)

end Rows
end Go.Proofs.Ythbimhkhpkknnaa
