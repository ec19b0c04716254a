/-
  DERIVED. GIVEN WITH THE SEED: THE CARDS: each row of YtminfdlhbecnhaaGreatDoorRows.lean that lists a variable, with what it lists TIED to the program's text (the seventh form; the later family's looks); each row that meets fmt, with fmt's text TOLD by the authors' own Lean function (tested against real Go, not proved from fmt's source: count such statements apart). THE CARD IS WHAT COUNTS. Prove the row's statement (the work); the ties are given (YtminfdlhbecnhaaGreatDoorTie.lean); close each card by the builder's one call (the guide's Derived/Test/ToyasCard.lean, 'card_holds'). Laid BY PROGRAM, IN A SANDBOX (cutbox-door.mjs). By AI agents, Wed Nov 11 2026. No macro, syntax, notation, axiom, sorry.
-/
import Derived.Test.YtminfdlhbecnhaaGreatDoorRows
import GoSem.ClaimSeven
namespace Go.Proofs.YtminfdlhbecnhaaGreatDoor
namespace Rows

/-- THE TIED CARD OF 'hourglasslaw14.OpForms'. -/
def opFormsCard : Claim7 := { stood := { row := opFormsRow, standIns := [], harness := (true, "d3da38d0c27829f9328a4745f3d6eeebd9a01dd9ee06a97168e212c9764affc8"), looks := true }, kinds := [], alts := [], laidByText := true, laidKinds := [.data, .data, .data, .data, .sentinel, .sentinel, .listed, .data, .pinned], laidTests := true, laidLooks := .later }
def OpFormsCardSaid : Prop := Claim7.holds Tryz.pinned (.plain (OpenSpec.ofChange opFormsSpec)) opFormsCard

/-- THE SECOND FORM's CARD OF 'hourglasslaw14.OpForms'. -/
def opFormsUptoCard : Claim7 := { stood := { row := opFormsUptoRow, standIns := [], harness := (true, "d3da38d0c27829f9328a4745f3d6eeebd9a01dd9ee06a97168e212c9764affc8"), looks := true }, kinds := [], alts := [], laidByText := true, laidKinds := [.data, .data, .data, .data, .sentinel, .sentinel, .listed, .data, .pinned], laidTests := true, laidLooks := .later }
def OpFormsUptoCardSaid : Prop := Claim7.holds Tryz.pinned (.plain (OpenSpec.upto opFormsSpec)) opFormsUptoCard
end Rows
end Go.Proofs.YtminfdlhbecnhaaGreatDoor
