/-
  DERIVED. GIVEN WITH THE SEED: THE CARDS: each row of YtljdphpbalioaaaGreatDoorRows.lean that lists a variable, with what it lists TIED to the program's text (the seventh form; the later family's looks); each row that meets fmt, with fmt's text TOLD by the authors' own Lean function (tested against real Go, not proved from fmt's source: count such statements apart). THE CARD IS WHAT COUNTS. Prove the row's statement (the work); the ties are given (YtljdphpbalioaaaGreatDoorTie.lean); close each card by the builder's one call (the guide's Derived/Test/ToyasCard.lean, 'card_holds'). Laid BY PROGRAM, IN A SANDBOX (cutbox-door.mjs). By AI agents, Wed Nov 11 2026. No macro, syntax, notation, axiom, sorry.
-/
import Derived.Test.YtljdphpbalioaaaGreatDoorRows
import GoSem.ClaimSeven
namespace Go.Proofs.YtljdphpbalioaaaGreatDoor
namespace Rows

/-- THE TIED CARD OF 'hourglasslaw09.GrammarParts'. -/
def grammarPartsCard : Claim7 := { stood := { row := grammarPartsRow, standIns := [], harness := (true, "96fb657a33dd4d46b6fc3924e3737865ef625cdb63a7941459ad119e1eb2bd21"), looks := true }, kinds := [], alts := [], laidByText := true, laidKinds := [.data, .data, .data, .sentinel, .sentinel, .listed, .data], laidTests := true, laidLooks := .later }
def GrammarPartsCardSaid : Prop := Claim7.holds Tryz.pinned (.plain (OpenSpec.ofChange grammarPartsSpec)) grammarPartsCard

/-- THE SECOND FORM's CARD OF 'hourglasslaw09.GrammarParts'. -/
def grammarPartsUptoCard : Claim7 := { stood := { row := grammarPartsUptoRow, standIns := [], harness := (true, "96fb657a33dd4d46b6fc3924e3737865ef625cdb63a7941459ad119e1eb2bd21"), looks := true }, kinds := [], alts := [], laidByText := true, laidKinds := [.data, .data, .data, .sentinel, .sentinel, .listed, .data], laidTests := true, laidLooks := .later }
def GrammarPartsUptoCardSaid : Prop := Claim7.holds Tryz.pinned (.plain (OpenSpec.upto grammarPartsSpec)) grammarPartsUptoCard
end Rows
end Go.Proofs.YtljdphpbalioaaaGreatDoor
