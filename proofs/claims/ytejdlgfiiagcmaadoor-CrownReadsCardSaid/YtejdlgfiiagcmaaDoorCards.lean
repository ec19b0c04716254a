/-
  DERIVED. GIVEN WITH THE SEED: THE CARDS: each row of YtejdlgfiiagcmaaDoorRows.lean that lists a variable, with what it lists TIED to the program's text (the seventh form; the later family's looks); each row that meets fmt, with fmt's text TOLD by the authors' own Lean function (tested against real Go, not proved from fmt's source: count such statements apart). THE CARD IS WHAT COUNTS. Prove the row's statement (the work); the ties are given (YtejdlgfiiagcmaaDoorTie.lean); close each card by the builder's one call (the guide's Derived/Test/ToyasCard.lean, 'card_holds'). Laid BY PROGRAM, IN A SANDBOX (cutbox-door.mjs). By AI agents, Wed Nov 11 2026. No macro, syntax, notation, axiom, sorry.
-/
import Derived.Test.YtejdlgfiiagcmaaDoorRows
import GoSem.ClaimSeven
namespace Go.Proofs.YtejdlgfiiagcmaaDoor
namespace Rows

/-- THE TIED CARD OF 'hourglasslaw04.CrownReads'. -/
def crownReadsCard : Claim7 := { stood := { row := crownReadsRow, standIns := [], harness := (true, "12a2d8779c8e8cee855250db6f965641a1fe7977d4bd6132c6613c9685546959"), looks := false }, kinds := [], alts := [], laidByText := true, laidKinds := [.data, .pinned], laidTests := true, laidLooks := .later }
def CrownReadsCardSaid : Prop := Claim7.holds Tryd.pinned (.plain (OpenSpec.ofChange crownReadsSpec)) crownReadsCard

/-- THE TIED CARD OF 'hourglasslaw04.CrownHalves'. -/
def crownHalvesCard : Claim7 := { stood := { row := crownHalvesRow, standIns := [], harness := (true, "12a2d8779c8e8cee855250db6f965641a1fe7977d4bd6132c6613c9685546959"), looks := false }, kinds := [], alts := [], laidByText := true, laidKinds := [.data, .pinned], laidTests := true, laidLooks := .later }
def CrownHalvesCardSaid : Prop := Claim7.holds Tryd.pinned (.plain (OpenSpec.ofChange crownHalvesSpec)) crownHalvesCard

/-- THE TIED CARD OF 'hourglasslaw04.CrownFormats'. -/
def crownFormatsCard : Claim7 := { stood := { row := crownFormatsRow, standIns := [], harness := (true, "12a2d8779c8e8cee855250db6f965641a1fe7977d4bd6132c6613c9685546959"), looks := false }, kinds := [], alts := [], laidByText := true, laidKinds := [.data, .pinned], laidTests := true, laidLooks := .later }
def CrownFormatsCardSaid : Prop := Claim7.holds Tryd.pinned (.plain (OpenSpec.ofChange crownFormatsSpec)) crownFormatsCard

/-- THE TIED CARD OF 'hourglasslaw04.CrownRots'. -/
def crownRotsCard : Claim7 := { stood := { row := crownRotsRow, standIns := [], harness := (true, "12a2d8779c8e8cee855250db6f965641a1fe7977d4bd6132c6613c9685546959"), looks := false }, kinds := [], alts := [], laidByText := true, laidKinds := [.data, .pinned], laidTests := true, laidLooks := .later }
def CrownRotsCardSaid : Prop := Claim7.holds Tryd.pinned (.plain (OpenSpec.ofChange crownRotsSpec)) crownRotsCard

/-- THE TIED CARD OF 'hourglasslaw04.CrownHolds'. -/
def crownHoldsCard : Claim7 := { stood := { row := crownHoldsRow, standIns := [], harness := (true, "12a2d8779c8e8cee855250db6f965641a1fe7977d4bd6132c6613c9685546959"), looks := false }, kinds := [], alts := [], laidByText := true, laidKinds := [.data, .pinned], laidTests := true, laidLooks := .later }
def CrownHoldsCardSaid : Prop := Claim7.holds Tryd.pinned (.plain (OpenSpec.ofChange crownHoldsSpec)) crownHoldsCard

/-- THE SECOND FORM's CARD OF 'hourglasslaw04.CrownReads'. -/
def crownReadsUptoCard : Claim7 := { stood := { row := crownReadsUptoRow, standIns := [], harness := (true, "12a2d8779c8e8cee855250db6f965641a1fe7977d4bd6132c6613c9685546959"), looks := false }, kinds := [], alts := [], laidByText := true, laidKinds := [.data, .pinned], laidTests := true, laidLooks := .later }
def CrownReadsUptoCardSaid : Prop := Claim7.holds Tryd.pinned (.plain (OpenSpec.upto crownReadsSpec)) crownReadsUptoCard

/-- THE SECOND FORM's CARD OF 'hourglasslaw04.CrownHalves'. -/
def crownHalvesUptoCard : Claim7 := { stood := { row := crownHalvesUptoRow, standIns := [], harness := (true, "12a2d8779c8e8cee855250db6f965641a1fe7977d4bd6132c6613c9685546959"), looks := false }, kinds := [], alts := [], laidByText := true, laidKinds := [.data, .pinned], laidTests := true, laidLooks := .later }
def CrownHalvesUptoCardSaid : Prop := Claim7.holds Tryd.pinned (.plain (OpenSpec.upto crownHalvesSpec)) crownHalvesUptoCard

/-- THE SECOND FORM's CARD OF 'hourglasslaw04.CrownFormats'. -/
def crownFormatsUptoCard : Claim7 := { stood := { row := crownFormatsUptoRow, standIns := [], harness := (true, "12a2d8779c8e8cee855250db6f965641a1fe7977d4bd6132c6613c9685546959"), looks := false }, kinds := [], alts := [], laidByText := true, laidKinds := [.data, .pinned], laidTests := true, laidLooks := .later }
def CrownFormatsUptoCardSaid : Prop := Claim7.holds Tryd.pinned (.plain (OpenSpec.upto crownFormatsSpec)) crownFormatsUptoCard

/-- THE SECOND FORM's CARD OF 'hourglasslaw04.CrownRots'. -/
def crownRotsUptoCard : Claim7 := { stood := { row := crownRotsUptoRow, standIns := [], harness := (true, "12a2d8779c8e8cee855250db6f965641a1fe7977d4bd6132c6613c9685546959"), looks := false }, kinds := [], alts := [], laidByText := true, laidKinds := [.data, .pinned], laidTests := true, laidLooks := .later }
def CrownRotsUptoCardSaid : Prop := Claim7.holds Tryd.pinned (.plain (OpenSpec.upto crownRotsSpec)) crownRotsUptoCard

/-- THE SECOND FORM's CARD OF 'hourglasslaw04.CrownHolds'. -/
def crownHoldsUptoCard : Claim7 := { stood := { row := crownHoldsUptoRow, standIns := [], harness := (true, "12a2d8779c8e8cee855250db6f965641a1fe7977d4bd6132c6613c9685546959"), looks := false }, kinds := [], alts := [], laidByText := true, laidKinds := [.data, .pinned], laidTests := true, laidLooks := .later }
def CrownHoldsUptoCardSaid : Prop := Claim7.holds Tryd.pinned (.plain (OpenSpec.upto crownHoldsSpec)) crownHoldsUptoCard
end Rows
end Go.Proofs.YtejdlgfiiagcmaaDoor
