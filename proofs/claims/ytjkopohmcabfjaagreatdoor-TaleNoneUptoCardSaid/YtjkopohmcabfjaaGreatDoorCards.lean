/-
  DERIVED. GIVEN WITH THE SEED: THE CARDS: each row of YtjkopohmcabfjaaGreatDoorRows.lean that lists a variable, with what it lists TIED to the program's text (the seventh form; the later family's looks); each row that meets fmt, with fmt's text TOLD by the authors' own Lean function (tested against real Go, not proved from fmt's source: count such statements apart). THE CARD IS WHAT COUNTS. Prove the row's statement (the work); the ties are given (YtjkopohmcabfjaaGreatDoorTie.lean); close each card by the builder's one call (the guide's Derived/Test/ToyasCard.lean, 'card_holds'). Laid BY PROGRAM, IN A SANDBOX (cutbox-door.mjs). By AI agents, Wed Nov 11 2026. No macro, syntax, notation, axiom, sorry.
-/
import Derived.Test.YtjkopohmcabfjaaGreatDoorRows
import GoSem.ClaimSeven
namespace Go.Proofs.YtjkopohmcabfjaaGreatDoor
namespace Rows

/-- THE TIED CARD OF 'roundhouselaw24.TaleNone'. -/
def taleNoneCard : Claim7 := { stood := { row := taleNoneRow, standIns := [], harness := (true, "3f47fff49db683758cedb61f527aa6288294f1e707108fee7f810bd8866278dd"), looks := true }, kinds := [], alts := [], laidByText := true, laidKinds := [.data, .data, .data, .data, .sentinel, .sentinel, .pinned], laidTests := true, laidLooks := .later }
def TaleNoneCardSaid : Prop := Claim7.holds Tryz.pinned (.plain (OpenSpec.ofChange taleNoneSpec)) taleNoneCard

/-- THE SECOND FORM's CARD OF 'roundhouselaw24.TaleNone'. -/
def taleNoneUptoCard : Claim7 := { stood := { row := taleNoneUptoRow, standIns := [], harness := (true, "3f47fff49db683758cedb61f527aa6288294f1e707108fee7f810bd8866278dd"), looks := true }, kinds := [], alts := [], laidByText := true, laidKinds := [.data, .data, .data, .data, .sentinel, .sentinel, .pinned], laidTests := true, laidLooks := .later }
def TaleNoneUptoCardSaid : Prop := Claim7.holds Tryz.pinned (.plain (OpenSpec.upto taleNoneSpec)) taleNoneUptoCard
end Rows
end Go.Proofs.YtjkopohmcabfjaaGreatDoor
