/-
  DERIVED. GIVEN WITH THE SEED: THE CARDS: each row of YtapiglfbkncahaaDoorRows.lean that lists a variable, with what it lists TIED to the program's text (the seventh form; the later family's looks); each row that meets fmt, with fmt's text TOLD by the authors' own Lean function (tested against real Go, not proved from fmt's source: count such statements apart). THE CARD IS WHAT COUNTS. Prove the row's statement (the work); the ties are given (YtapiglfbkncahaaDoorTie.lean); close each card by the builder's one call (the guide's Derived/Test/ToyasCard.lean, 'card_holds'). Laid BY PROGRAM, IN A SANDBOX (cutbox-door.mjs). By AI agents, Wed Nov 11 2026. No macro, syntax, notation, axiom, sorry.
-/
import Derived.Test.YtapiglfbkncahaaDoorRows
import GoSem.ClaimSeven
namespace Go.Proofs.YtapiglfbkncahaaDoor
namespace Rows

/-- THE TIED CARD OF 'roundhouselaw24.TaleLines'. -/
def taleLinesCard : Claim7 := { stood := { row := taleLinesRow, standIns := [], harness := (true, "111154a94a04e079e3453fb8aa1b0bde124780433c329f4c1b3b2a71cea320f3"), looks := true }, kinds := [], alts := [], laidByText := true, laidKinds := [.data, .data, .data, .data, .sentinel, .sentinel, .pinned], laidTests := true, laidLooks := .later }
def TaleLinesCardSaid : Prop := Claim7.holds Tryd.pinned (.plain (OpenSpec.ofChange taleLinesSpec)) taleLinesCard

/-- THE TIED CARD OF 'roundhouselaw24.TaleReads'. -/
def taleReadsCard : Claim7 := { stood := { row := taleReadsRow, standIns := [], harness := (true, "111154a94a04e079e3453fb8aa1b0bde124780433c329f4c1b3b2a71cea320f3"), looks := true }, kinds := [], alts := [], laidByText := true, laidKinds := [.data, .data, .data, .data, .sentinel, .sentinel, .pinned], laidTests := true, laidLooks := .later }
def TaleReadsCardSaid : Prop := Claim7.holds Tryd.pinned (.plain (OpenSpec.ofChange taleReadsSpec)) taleReadsCard

/-- THE TIED CARD OF 'roundhouselaw24.TaleScripts'. -/
def taleScriptsCard : Claim7 := { stood := { row := taleScriptsRow, standIns := [], harness := (true, "111154a94a04e079e3453fb8aa1b0bde124780433c329f4c1b3b2a71cea320f3"), looks := true }, kinds := [], alts := [], laidByText := true, laidKinds := [.data, .data, .data, .data, .sentinel, .sentinel, .pinned], laidTests := true, laidLooks := .later }
def TaleScriptsCardSaid : Prop := Claim7.holds Tryd.pinned (.plain (OpenSpec.ofChange taleScriptsSpec)) taleScriptsCard

/-- THE TIED CARD OF 'roundhouselaw24.TaleTexts'. -/
def taleTextsCard : Claim7 := { stood := { row := taleTextsRow, standIns := [], harness := (true, "111154a94a04e079e3453fb8aa1b0bde124780433c329f4c1b3b2a71cea320f3"), looks := true }, kinds := [], alts := [], laidByText := true, laidKinds := [.data, .data, .data, .data, .sentinel, .sentinel, .pinned], laidTests := true, laidLooks := .later }
def TaleTextsCardSaid : Prop := Claim7.holds Tryd.pinned (.plain (OpenSpec.ofChange taleTextsSpec)) taleTextsCard

/-- THE SECOND FORM's CARD OF 'roundhouselaw24.TaleLines'. -/
def taleLinesUptoCard : Claim7 := { stood := { row := taleLinesUptoRow, standIns := [], harness := (true, "111154a94a04e079e3453fb8aa1b0bde124780433c329f4c1b3b2a71cea320f3"), looks := true }, kinds := [], alts := [], laidByText := true, laidKinds := [.data, .data, .data, .data, .sentinel, .sentinel, .pinned], laidTests := true, laidLooks := .later }
def TaleLinesUptoCardSaid : Prop := Claim7.holds Tryd.pinned (.plain (OpenSpec.upto taleLinesSpec)) taleLinesUptoCard

/-- THE SECOND FORM's CARD OF 'roundhouselaw24.TaleReads'. -/
def taleReadsUptoCard : Claim7 := { stood := { row := taleReadsUptoRow, standIns := [], harness := (true, "111154a94a04e079e3453fb8aa1b0bde124780433c329f4c1b3b2a71cea320f3"), looks := true }, kinds := [], alts := [], laidByText := true, laidKinds := [.data, .data, .data, .data, .sentinel, .sentinel, .pinned], laidTests := true, laidLooks := .later }
def TaleReadsUptoCardSaid : Prop := Claim7.holds Tryd.pinned (.plain (OpenSpec.upto taleReadsSpec)) taleReadsUptoCard

/-- THE SECOND FORM's CARD OF 'roundhouselaw24.TaleScripts'. -/
def taleScriptsUptoCard : Claim7 := { stood := { row := taleScriptsUptoRow, standIns := [], harness := (true, "111154a94a04e079e3453fb8aa1b0bde124780433c329f4c1b3b2a71cea320f3"), looks := true }, kinds := [], alts := [], laidByText := true, laidKinds := [.data, .data, .data, .data, .sentinel, .sentinel, .pinned], laidTests := true, laidLooks := .later }
def TaleScriptsUptoCardSaid : Prop := Claim7.holds Tryd.pinned (.plain (OpenSpec.upto taleScriptsSpec)) taleScriptsUptoCard

/-- THE SECOND FORM's CARD OF 'roundhouselaw24.TaleTexts'. -/
def taleTextsUptoCard : Claim7 := { stood := { row := taleTextsUptoRow, standIns := [], harness := (true, "111154a94a04e079e3453fb8aa1b0bde124780433c329f4c1b3b2a71cea320f3"), looks := true }, kinds := [], alts := [], laidByText := true, laidKinds := [.data, .data, .data, .data, .sentinel, .sentinel, .pinned], laidTests := true, laidLooks := .later }
def TaleTextsUptoCardSaid : Prop := Claim7.holds Tryd.pinned (.plain (OpenSpec.upto taleTextsSpec)) taleTextsUptoCard
end Rows
end Go.Proofs.YtapiglfbkncahaaDoor
