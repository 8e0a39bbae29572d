/-
  NARROWER THAN 'FOR EVERY INPUT', by the rows' own cells (each row's printed sentence says how): FrontPlays: laid · FrontAnswers: laid · FrontArgs: laid · FrontStuck: laid.
  DERIVED. THE GIVEN ROWS OF THIS SEAT. 4 by the template 'for every input the law returns true; each argument reads behind the call as it read before'; 0 by the template 'total and deterministic' (their statements: YtcmollfhlillfaaGreatDoorTotals.lean).
  GIVEN WITH THE SEED: the statements are not yours to turn. If you find one false, say at which input.
  Laid BY PROGRAM, IN A SANDBOX (cutbox-rows.mjs): the forced cells as the released guide's own fill.sh prints them over the translation ce923e8632a04e99… (all of the seat's roots in one cut). By AI agents, Wed Nov 11 2026. No macro, syntax, notation, axiom, sorry.
-/
import Derived.Test.YtcmollfhlillfaaGreatDoorChecked
import GoSem.Claim
import GoSem.ClaimJoined
import GoSem.ClaimMapViews
import Derived.JoinedTies
import Derived.KernelRfl
namespace Go.Proofs.YtcmollfhlillfaaGreatDoor
/- THE CELL 'sum', in the pinned program and in every row, IS THE sha256 OF THE DUMP (.gsa) THAT YtcmollfhlillfaaGreatDoorProg.lean LOADS. Nothing in Lean hashes anything: it is a label: what it is worth is what the hold of that sum in a sandbox is worth. -/
noncomputable def Tryz.pinned : Pinned := { name := "ytcmollfhlillfaagreatdoor", sum := "ce923e8632a04e995b74209fc79440bf1becf7114ff43951cc732cf50bbb906e", checked := Tryz.checked }
namespace Rows
def none {H : Type} : Left H := { results := [], args := [] }

/- WHAT THE LISTED PACKAGE-LEVEL VARIABLES READ AS WHEN THE CALL BEGINS. Each datum BY PROGRAM (the guide's laid-datum.mjs) off the statement by which the dump's own 'gosem.cut.vars' lays the variable. In a bare row this is a premise. The card (YtcmollfhlillfaaGreatDoorCards.lean) ties it to the program's text. -/
def laid_roundhouse_front_own {H : Type} : DataW H := .agg [.lit (.int .i64 (-1)), .lit (.int .i64 0)]

/-- 'roundhouselaw19.FrontPlays': WHATEVER THE INPUT: true; the input reads as it did. -/
def frontPlaysSpec : ChangeSpec := { name := "frontPlays", fn := fun _ => fun
  | [d1, d2, d3] => { results := [.lit (.bool true)], args := [d1, d2, d3] }
  | _ => none }
def frontPlaysRow : OpenClaim := { program := "ytcmollfhlillfaagreatdoor", sum := "ce923e8632a04e995b74209fc79440bf1becf7114ff43951cc732cf50bbb906e", func := "roundhouse/roundhouselaw19.FrontPlays", spec := "frontPlays", inPlace := ["internal/abi.NoEscape", "internal/bytealg.MakeNoZero"], unfollowed := true, recurses := true, named := ["roundhouse/front.own"], apart := false, laid := [("roundhouse/front.own", laid_roundhouse_front_own)] }
def FrontPlaysSaid : Prop := frontPlaysRow.holds Tryz.pinned (OpenSpec.ofChange frontPlaysSpec)

/-- ITS FALSE NEIGHBOUR: 'it returns false'. Refute it at one input. -/
def frontPlaysWrong : ChangeSpec := { name := "frontPlays", fn := fun _ => fun
  | [d1, d2, d3] => { results := [.lit (.bool false)], args := [d1, d2, d3] }
  | _ => none }
def FrontPlaysWrongFalsely : Prop := frontPlaysRow.holds Tryz.pinned (OpenSpec.ofChange frontPlaysWrong)

/-- 'roundhouselaw19.FrontAnswers': WHATEVER THE INPUT: true; the input reads as it did. -/
def frontAnswersSpec : ChangeSpec := { name := "frontAnswers", fn := fun _ => fun
  | [d1, d2, d3] => { results := [.lit (.bool true)], args := [d1, d2, d3] }
  | _ => none }
def frontAnswersRow : OpenClaim := { program := "ytcmollfhlillfaagreatdoor", sum := "ce923e8632a04e995b74209fc79440bf1becf7114ff43951cc732cf50bbb906e", func := "roundhouse/roundhouselaw19.FrontAnswers", spec := "frontAnswers", inPlace := ["internal/abi.NoEscape", "internal/bytealg.MakeNoZero"], unfollowed := true, recurses := true, named := ["roundhouse/front.own"], apart := false, laid := [("roundhouse/front.own", laid_roundhouse_front_own)] }
def FrontAnswersSaid : Prop := frontAnswersRow.holds Tryz.pinned (OpenSpec.ofChange frontAnswersSpec)

/-- ITS FALSE NEIGHBOUR: 'it returns false'. Refute it at one input. -/
def frontAnswersWrong : ChangeSpec := { name := "frontAnswers", fn := fun _ => fun
  | [d1, d2, d3] => { results := [.lit (.bool false)], args := [d1, d2, d3] }
  | _ => none }
def FrontAnswersWrongFalsely : Prop := frontAnswersRow.holds Tryz.pinned (OpenSpec.ofChange frontAnswersWrong)

/-- 'roundhouselaw19.FrontArgs': WHATEVER THE INPUT: true; the input reads as it did. -/
def frontArgsSpec : ChangeSpec := { name := "frontArgs", fn := fun _ => fun
  | [d1, d2, d3, d4, d5, d6] => { results := [.lit (.bool true)], args := [d1, d2, d3, d4, d5, d6] }
  | _ => none }
def frontArgsRow : OpenClaim := { program := "ytcmollfhlillfaagreatdoor", sum := "ce923e8632a04e995b74209fc79440bf1becf7114ff43951cc732cf50bbb906e", func := "roundhouse/roundhouselaw19.FrontArgs", spec := "frontArgs", inPlace := ["internal/abi.NoEscape", "internal/bytealg.MakeNoZero"], unfollowed := true, recurses := true, named := ["roundhouse/front.own"], apart := false, laid := [("roundhouse/front.own", laid_roundhouse_front_own)] }
def FrontArgsSaid : Prop := frontArgsRow.holds Tryz.pinned (OpenSpec.ofChange frontArgsSpec)

/-- ITS FALSE NEIGHBOUR: 'it returns false'. Refute it at one input. -/
def frontArgsWrong : ChangeSpec := { name := "frontArgs", fn := fun _ => fun
  | [d1, d2, d3, d4, d5, d6] => { results := [.lit (.bool false)], args := [d1, d2, d3, d4, d5, d6] }
  | _ => none }
def FrontArgsWrongFalsely : Prop := frontArgsRow.holds Tryz.pinned (OpenSpec.ofChange frontArgsWrong)

/-- 'roundhouselaw19.FrontStuck': WHATEVER THE INPUT: true; the input reads as it did. -/
def frontStuckSpec : ChangeSpec := { name := "frontStuck", fn := fun _ => fun
  | [d] => { results := [.lit (.bool true)], args := [d] }
  | _ => none }
def frontStuckRow : OpenClaim := { program := "ytcmollfhlillfaagreatdoor", sum := "ce923e8632a04e995b74209fc79440bf1becf7114ff43951cc732cf50bbb906e", func := "roundhouse/roundhouselaw19.FrontStuck", spec := "frontStuck", inPlace := ["internal/abi.NoEscape", "internal/bytealg.MakeNoZero"], unfollowed := true, recurses := true, named := ["roundhouse/front.own"], apart := false, laid := [("roundhouse/front.own", laid_roundhouse_front_own)] }
def FrontStuckSaid : Prop := frontStuckRow.holds Tryz.pinned (OpenSpec.ofChange frontStuckSpec)

/-- ITS FALSE NEIGHBOUR: 'it returns false'. Refute it at one input. -/
def frontStuckWrong : ChangeSpec := { name := "frontStuck", fn := fun _ => fun
  | [d] => { results := [.lit (.bool false)], args := [d] }
  | _ => none }
def FrontStuckWrongFalsely : Prop := frontStuckRow.holds Tryz.pinned (OpenSpec.ofChange frontStuckWrong)

/- THE SECOND FORM. 'bulk': how many values and letters a reading holds, each counted each time it is reached (what is shared counts as often as it is met; a slice's spare places count too). A statement '..UptoSaid' is the law's where the arguments, and the package variables that the reading takes, are together of bulk at most 1048576: NARROWER than '..Said'. Prove '..Said' where nothing that the law and all that it calls make is longer than what came in: it says more and counts as full. Else prove '..UptoSaid'. A law counts once. -/
mutual
def uptoBulk {H : Type} : DataW H → Nat
  | .lit (.string bytes) => bytes.length + 1
  | .lit _ => 1
  | .nil => 1
  | .ptr d => uptoBulk d + 1
  | .slice elems spare => uptoBulkAll elems + uptoBulkAll spare + 1
  | .agg parts => uptoBulkAll parts + 1
  | .iface _ d => uptoBulk d + 1
  | .map entries => uptoBulkEntries entries + 1
  | .held _ => 1
def uptoBulkAll {H : Type} : List (DataW H) → Nat
  | [] => 0
  | d :: r => uptoBulk d + uptoBulkAll r
def uptoBulkEntries {H : Type} : List (Lit × DataW H) → Nat
  | [] => 0
  | x :: r => uptoBulkEntry x + uptoBulkEntries r
def uptoBulkEntry {H : Type} : Lit × DataW H → Nat
  | (.string bytes, d) => bytes.length + uptoBulk d + 1
  | (_, d) => uptoBulk d + 1
 end
def uptoSmall : (H : Type) → List (DataW H) → Bool := fun _ ds => decide (uptoBulkAll ds ≤ 1048576)
def OpenSpec.upto (s : _root_.Go.ChangeSpec) : _root_.Go.OpenSpec := { _root_.Go.OpenSpec.ofChange s with cond := some uptoSmall }

/-- 'roundhouselaw19.FrontPlays', WHERE WHAT IT READS IS OF BULK AT MOST 1048576: true; the input reads as it did. -/
def frontPlaysUptoRow : OpenClaim := { program := "ytcmollfhlillfaagreatdoor", sum := "ce923e8632a04e995b74209fc79440bf1becf7114ff43951cc732cf50bbb906e", func := "roundhouse/roundhouselaw19.FrontPlays", spec := "frontPlays", inPlace := ["internal/abi.NoEscape", "internal/bytealg.MakeNoZero"], unfollowed := true, recurses := true, named := ["roundhouse/front.own"], apart := false, laid := [("roundhouse/front.own", laid_roundhouse_front_own)], narrowed := true }
def FrontPlaysUptoSaid : Prop := frontPlaysUptoRow.holds Tryz.pinned (OpenSpec.upto frontPlaysSpec)

/-- 'roundhouselaw19.FrontAnswers', WHERE WHAT IT READS IS OF BULK AT MOST 1048576: true; the input reads as it did. -/
def frontAnswersUptoRow : OpenClaim := { program := "ytcmollfhlillfaagreatdoor", sum := "ce923e8632a04e995b74209fc79440bf1becf7114ff43951cc732cf50bbb906e", func := "roundhouse/roundhouselaw19.FrontAnswers", spec := "frontAnswers", inPlace := ["internal/abi.NoEscape", "internal/bytealg.MakeNoZero"], unfollowed := true, recurses := true, named := ["roundhouse/front.own"], apart := false, laid := [("roundhouse/front.own", laid_roundhouse_front_own)], narrowed := true }
def FrontAnswersUptoSaid : Prop := frontAnswersUptoRow.holds Tryz.pinned (OpenSpec.upto frontAnswersSpec)

/-- 'roundhouselaw19.FrontArgs', WHERE WHAT IT READS IS OF BULK AT MOST 1048576: true; the input reads as it did. -/
def frontArgsUptoRow : OpenClaim := { program := "ytcmollfhlillfaagreatdoor", sum := "ce923e8632a04e995b74209fc79440bf1becf7114ff43951cc732cf50bbb906e", func := "roundhouse/roundhouselaw19.FrontArgs", spec := "frontArgs", inPlace := ["internal/abi.NoEscape", "internal/bytealg.MakeNoZero"], unfollowed := true, recurses := true, named := ["roundhouse/front.own"], apart := false, laid := [("roundhouse/front.own", laid_roundhouse_front_own)], narrowed := true }
def FrontArgsUptoSaid : Prop := frontArgsUptoRow.holds Tryz.pinned (OpenSpec.upto frontArgsSpec)

/-- 'roundhouselaw19.FrontStuck', WHERE WHAT IT READS IS OF BULK AT MOST 1048576: true; the input reads as it did. -/
def frontStuckUptoRow : OpenClaim := { program := "ytcmollfhlillfaagreatdoor", sum := "ce923e8632a04e995b74209fc79440bf1becf7114ff43951cc732cf50bbb906e", func := "roundhouse/roundhouselaw19.FrontStuck", spec := "frontStuck", inPlace := ["internal/abi.NoEscape", "internal/bytealg.MakeNoZero"], unfollowed := true, recurses := true, named := ["roundhouse/front.own"], apart := false, laid := [("roundhouse/front.own", laid_roundhouse_front_own)], narrowed := true }
def FrontStuckUptoSaid : Prop := frontStuckUptoRow.holds Tryz.pinned (OpenSpec.upto frontStuckSpec)

end Rows
end Go.Proofs.YtcmollfhlillfaaGreatDoor
