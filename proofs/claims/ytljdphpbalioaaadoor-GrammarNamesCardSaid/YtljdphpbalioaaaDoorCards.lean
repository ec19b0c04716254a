/-
  DERIVED. GIVEN WITH THE SEED: THE CARDS: each row of YtljdphpbalioaaaDoorRows.lean that lists a variable, with what it lists TIED to the program's text (the seventh form; the later family's looks); each row that meets fmt, with fmt's text TOLD by the authors' own Lean function (tested against real Go, not proved from fmt's source: count such statements apart). THE CARD IS WHAT COUNTS. Prove the row's statement (the work); the ties are given (YtljdphpbalioaaaDoorTie.lean); close each card by the builder's one call (the guide's Derived/Test/ToyasCard.lean, 'card_holds'). Laid BY PROGRAM, IN A SANDBOX (cutbox-door.mjs). By AI agents, Wed Nov 11 2026. No macro, syntax, notation, axiom, sorry.
-/
import Derived.Test.YtljdphpbalioaaaDoorRows
import GoSem.ClaimSeven
namespace Go.Proofs.YtljdphpbalioaaaDoor
namespace Rows

/-- THE TIED CARD OF 'hourglasslaw09.GrammarNames'. -/
def grammarNamesCard : Claim7 := { stood := { row := grammarNamesRow, standIns := [], harness := (true, "f05716cd5357efa4779644d66e2e1e354afdb175ee797ac417dcd541fb12fbbc"), looks := true }, kinds := [], alts := [], laidByText := true, laidKinds := [.data, .data, .data, .sentinel, .sentinel, .listed, .data], laidTests := true, laidLooks := .later }
def GrammarNamesCardSaid : Prop := Claim7.holds Tryd.pinned (.plain (OpenSpec.ofChange grammarNamesSpec)) grammarNamesCard

/-- THE TIED CARD OF 'hourglasslaw09.GrammarSigns'. -/
def grammarSignsCard : Claim7 := { stood := { row := grammarSignsRow, standIns := [], harness := (true, "f05716cd5357efa4779644d66e2e1e354afdb175ee797ac417dcd541fb12fbbc"), looks := true }, kinds := [], alts := [], laidByText := true, laidKinds := [.data, .data, .data, .sentinel, .sentinel, .listed, .data], laidTests := true, laidLooks := .later }
def GrammarSignsCardSaid : Prop := Claim7.holds Tryd.pinned (.plain (OpenSpec.ofChange grammarSignsSpec)) grammarSignsCard

/-- THE SECOND FORM's CARD OF 'hourglasslaw09.GrammarNames'. -/
def grammarNamesUptoCard : Claim7 := { stood := { row := grammarNamesUptoRow, standIns := [], harness := (true, "f05716cd5357efa4779644d66e2e1e354afdb175ee797ac417dcd541fb12fbbc"), looks := true }, kinds := [], alts := [], laidByText := true, laidKinds := [.data, .data, .data, .sentinel, .sentinel, .listed, .data], laidTests := true, laidLooks := .later }
def GrammarNamesUptoCardSaid : Prop := Claim7.holds Tryd.pinned (.plain (OpenSpec.upto grammarNamesSpec)) grammarNamesUptoCard

/-- THE SECOND FORM's CARD OF 'hourglasslaw09.GrammarSigns'. -/
def grammarSignsUptoCard : Claim7 := { stood := { row := grammarSignsUptoRow, standIns := [], harness := (true, "f05716cd5357efa4779644d66e2e1e354afdb175ee797ac417dcd541fb12fbbc"), looks := true }, kinds := [], alts := [], laidByText := true, laidKinds := [.data, .data, .data, .sentinel, .sentinel, .listed, .data], laidTests := true, laidLooks := .later }
def GrammarSignsUptoCardSaid : Prop := Claim7.holds Tryd.pinned (.plain (OpenSpec.upto grammarSignsSpec)) grammarSignsUptoCard
end Rows
end Go.Proofs.YtljdphpbalioaaaDoor
