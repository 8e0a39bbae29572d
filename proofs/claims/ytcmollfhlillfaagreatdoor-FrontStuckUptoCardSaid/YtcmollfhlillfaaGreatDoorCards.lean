/-
  DERIVED. GIVEN WITH THE SEED: THE CARDS: each row of YtcmollfhlillfaaGreatDoorRows.lean that lists a variable, with what it lists TIED to the program's text (the seventh form; the later family's looks); each row that meets fmt, with fmt's text TOLD by the authors' own Lean function (tested against real Go, not proved from fmt's source: count such statements apart). THE CARD IS WHAT COUNTS. Prove the row's statement (the work); the ties are given (YtcmollfhlillfaaGreatDoorTie.lean); close each card by the builder's one call (the guide's Derived/Test/ToyasCard.lean, 'card_holds'). Laid BY PROGRAM, IN A SANDBOX (cutbox-door.mjs). By AI agents, Wed Nov 11 2026. No macro, syntax, notation, axiom, sorry.
-/
import Derived.Test.YtcmollfhlillfaaGreatDoorRows
import GoSem.ClaimSeven
namespace Go.Proofs.YtcmollfhlillfaaGreatDoor
namespace Rows

/-- THE TIED CARD OF 'roundhouselaw19.FrontPlays'. -/
def frontPlaysCard : Claim7 := { stood := { row := frontPlaysRow, standIns := [], harness := (true, "6668da8348f65aab79b62945a59e64b9b91cfab40a4cdbd470e8331f0e3309b6"), looks := false }, kinds := [], alts := [], laidByText := true, laidKinds := [.data], laidTests := true, laidLooks := .later }
def FrontPlaysCardSaid : Prop := Claim7.holds Tryz.pinned (.plain (OpenSpec.ofChange frontPlaysSpec)) frontPlaysCard

/-- THE TIED CARD OF 'roundhouselaw19.FrontAnswers'. -/
def frontAnswersCard : Claim7 := { stood := { row := frontAnswersRow, standIns := [], harness := (true, "6668da8348f65aab79b62945a59e64b9b91cfab40a4cdbd470e8331f0e3309b6"), looks := false }, kinds := [], alts := [], laidByText := true, laidKinds := [.data], laidTests := true, laidLooks := .later }
def FrontAnswersCardSaid : Prop := Claim7.holds Tryz.pinned (.plain (OpenSpec.ofChange frontAnswersSpec)) frontAnswersCard

/-- THE TIED CARD OF 'roundhouselaw19.FrontArgs'. -/
def frontArgsCard : Claim7 := { stood := { row := frontArgsRow, standIns := [], harness := (true, "6668da8348f65aab79b62945a59e64b9b91cfab40a4cdbd470e8331f0e3309b6"), looks := false }, kinds := [], alts := [], laidByText := true, laidKinds := [.data], laidTests := true, laidLooks := .later }
def FrontArgsCardSaid : Prop := Claim7.holds Tryz.pinned (.plain (OpenSpec.ofChange frontArgsSpec)) frontArgsCard

/-- THE TIED CARD OF 'roundhouselaw19.FrontStuck'. -/
def frontStuckCard : Claim7 := { stood := { row := frontStuckRow, standIns := [], harness := (true, "6668da8348f65aab79b62945a59e64b9b91cfab40a4cdbd470e8331f0e3309b6"), looks := false }, kinds := [], alts := [], laidByText := true, laidKinds := [.data], laidTests := true, laidLooks := .later }
def FrontStuckCardSaid : Prop := Claim7.holds Tryz.pinned (.plain (OpenSpec.ofChange frontStuckSpec)) frontStuckCard

/-- THE SECOND FORM's CARD OF 'roundhouselaw19.FrontPlays'. -/
def frontPlaysUptoCard : Claim7 := { stood := { row := frontPlaysUptoRow, standIns := [], harness := (true, "6668da8348f65aab79b62945a59e64b9b91cfab40a4cdbd470e8331f0e3309b6"), looks := false }, kinds := [], alts := [], laidByText := true, laidKinds := [.data], laidTests := true, laidLooks := .later }
def FrontPlaysUptoCardSaid : Prop := Claim7.holds Tryz.pinned (.plain (OpenSpec.upto frontPlaysSpec)) frontPlaysUptoCard

/-- THE SECOND FORM's CARD OF 'roundhouselaw19.FrontAnswers'. -/
def frontAnswersUptoCard : Claim7 := { stood := { row := frontAnswersUptoRow, standIns := [], harness := (true, "6668da8348f65aab79b62945a59e64b9b91cfab40a4cdbd470e8331f0e3309b6"), looks := false }, kinds := [], alts := [], laidByText := true, laidKinds := [.data], laidTests := true, laidLooks := .later }
def FrontAnswersUptoCardSaid : Prop := Claim7.holds Tryz.pinned (.plain (OpenSpec.upto frontAnswersSpec)) frontAnswersUptoCard

/-- THE SECOND FORM's CARD OF 'roundhouselaw19.FrontArgs'. -/
def frontArgsUptoCard : Claim7 := { stood := { row := frontArgsUptoRow, standIns := [], harness := (true, "6668da8348f65aab79b62945a59e64b9b91cfab40a4cdbd470e8331f0e3309b6"), looks := false }, kinds := [], alts := [], laidByText := true, laidKinds := [.data], laidTests := true, laidLooks := .later }
def FrontArgsUptoCardSaid : Prop := Claim7.holds Tryz.pinned (.plain (OpenSpec.upto frontArgsSpec)) frontArgsUptoCard

/-- THE SECOND FORM's CARD OF 'roundhouselaw19.FrontStuck'. -/
def frontStuckUptoCard : Claim7 := { stood := { row := frontStuckUptoRow, standIns := [], harness := (true, "6668da8348f65aab79b62945a59e64b9b91cfab40a4cdbd470e8331f0e3309b6"), looks := false }, kinds := [], alts := [], laidByText := true, laidKinds := [.data], laidTests := true, laidLooks := .later }
def FrontStuckUptoCardSaid : Prop := Claim7.holds Tryz.pinned (.plain (OpenSpec.upto frontStuckSpec)) frontStuckUptoCard
end Rows
end Go.Proofs.YtcmollfhlillfaaGreatDoor
