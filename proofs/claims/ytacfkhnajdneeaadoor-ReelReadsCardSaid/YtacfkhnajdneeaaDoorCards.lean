/-
  DERIVED. GIVEN WITH THE SEED: THE CARDS: each row of YtacfkhnajdneeaaDoorRows.lean that lists a variable, with what it lists TIED to the program's text (the seventh form; the later family's looks); each row that meets fmt, with fmt's text TOLD by the authors' own Lean function (tested against real Go, not proved from fmt's source: count such statements apart). THE CARD IS WHAT COUNTS. Prove the row's statement (the work); the ties are given (YtacfkhnajdneeaaDoorTie.lean); close each card by the builder's one call (the guide's Derived/Test/ToyasCard.lean, 'card_holds'). Laid BY PROGRAM, IN A SANDBOX (cutbox-door.mjs). By AI agents, Wed Nov 11 2026. No macro, syntax, notation, axiom, sorry.
-/
import Derived.Test.YtacfkhnajdneeaaDoorRows
import GoSem.ClaimSeven
namespace Go.Proofs.YtacfkhnajdneeaaDoor
namespace Rows

/-- THE TIED CARD OF 'hourglasslaw06.ReelRows'. -/
def reelRowsCard : Claim7 := { stood := { row := reelRowsRow, standIns := [], harness := (true, "5250e3e154b81acab8c743e2d5422f89ad1e660cdd0e750c7b53b21cd0ca8812"), looks := false }, kinds := [], alts := [], laidByText := true, laidKinds := [.data, .pinned], laidTests := true, laidLooks := .later }
def ReelRowsCardSaid : Prop := Claim7.holds Tryd.pinned (.plain (OpenSpec.ofChange reelRowsSpec)) reelRowsCard

/-- THE TIED CARD OF 'hourglasslaw06.ReelGoes'. -/
def reelGoesCard : Claim7 := { stood := { row := reelGoesRow, standIns := [], harness := (true, "5250e3e154b81acab8c743e2d5422f89ad1e660cdd0e750c7b53b21cd0ca8812"), looks := false }, kinds := [], alts := [], laidByText := true, laidKinds := [.data, .pinned], laidTests := true, laidLooks := .later }
def ReelGoesCardSaid : Prop := Claim7.holds Tryd.pinned (.plain (OpenSpec.ofChange reelGoesSpec)) reelGoesCard

/-- THE TIED CARD OF 'hourglasslaw06.ReelFull'. -/
def reelFullCard : Claim7 := { stood := { row := reelFullRow, standIns := [], harness := (true, "5250e3e154b81acab8c743e2d5422f89ad1e660cdd0e750c7b53b21cd0ca8812"), looks := false }, kinds := [], alts := [], laidByText := true, laidKinds := [.data, .pinned], laidTests := true, laidLooks := .later }
def ReelFullCardSaid : Prop := Claim7.holds Tryd.pinned (.plain (OpenSpec.ofChange reelFullSpec)) reelFullCard

/-- THE TIED CARD OF 'hourglasslaw06.ReelHolds'. -/
def reelHoldsCard : Claim7 := { stood := { row := reelHoldsRow, standIns := [], harness := (true, "5250e3e154b81acab8c743e2d5422f89ad1e660cdd0e750c7b53b21cd0ca8812"), looks := false }, kinds := [], alts := [], laidByText := true, laidKinds := [.data, .pinned], laidTests := true, laidLooks := .later }
def ReelHoldsCardSaid : Prop := Claim7.holds Tryd.pinned (.plain (OpenSpec.ofChange reelHoldsSpec)) reelHoldsCard

/-- THE TIED CARD OF 'hourglasslaw06.ReelArgs'. -/
def reelArgsCard : Claim7 := { stood := { row := reelArgsRow, standIns := [], harness := (true, "5250e3e154b81acab8c743e2d5422f89ad1e660cdd0e750c7b53b21cd0ca8812"), looks := false }, kinds := [], alts := [], laidByText := true, laidKinds := [.data, .pinned], laidTests := true, laidLooks := .later }
def ReelArgsCardSaid : Prop := Claim7.holds Tryd.pinned (.plain (OpenSpec.ofChange reelArgsSpec)) reelArgsCard

/-- THE TIED CARD OF 'hourglasslaw06.ReelReads'. -/
def reelReadsCard : Claim7 := { stood := { row := reelReadsRow, standIns := [], harness := (true, "5250e3e154b81acab8c743e2d5422f89ad1e660cdd0e750c7b53b21cd0ca8812"), looks := false }, kinds := [], alts := [], laidByText := true, laidKinds := [.data, .pinned], laidTests := true, laidLooks := .later }
def ReelReadsCardSaid : Prop := Claim7.holds Tryd.pinned (.plain (OpenSpec.ofChange reelReadsSpec)) reelReadsCard

/-- THE TIED CARD OF 'hourglasslaw06.ReelRots'. -/
def reelRotsCard : Claim7 := { stood := { row := reelRotsRow, standIns := [], harness := (true, "5250e3e154b81acab8c743e2d5422f89ad1e660cdd0e750c7b53b21cd0ca8812"), looks := false }, kinds := [], alts := [], laidByText := true, laidKinds := [.data, .pinned], laidTests := true, laidLooks := .later }
def ReelRotsCardSaid : Prop := Claim7.holds Tryd.pinned (.plain (OpenSpec.ofChange reelRotsSpec)) reelRotsCard

/-- THE SECOND FORM's CARD OF 'hourglasslaw06.ReelRows'. -/
def reelRowsUptoCard : Claim7 := { stood := { row := reelRowsUptoRow, standIns := [], harness := (true, "5250e3e154b81acab8c743e2d5422f89ad1e660cdd0e750c7b53b21cd0ca8812"), looks := false }, kinds := [], alts := [], laidByText := true, laidKinds := [.data, .pinned], laidTests := true, laidLooks := .later }
def ReelRowsUptoCardSaid : Prop := Claim7.holds Tryd.pinned (.plain (OpenSpec.upto reelRowsSpec)) reelRowsUptoCard

/-- THE SECOND FORM's CARD OF 'hourglasslaw06.ReelGoes'. -/
def reelGoesUptoCard : Claim7 := { stood := { row := reelGoesUptoRow, standIns := [], harness := (true, "5250e3e154b81acab8c743e2d5422f89ad1e660cdd0e750c7b53b21cd0ca8812"), looks := false }, kinds := [], alts := [], laidByText := true, laidKinds := [.data, .pinned], laidTests := true, laidLooks := .later }
def ReelGoesUptoCardSaid : Prop := Claim7.holds Tryd.pinned (.plain (OpenSpec.upto reelGoesSpec)) reelGoesUptoCard

/-- THE SECOND FORM's CARD OF 'hourglasslaw06.ReelFull'. -/
def reelFullUptoCard : Claim7 := { stood := { row := reelFullUptoRow, standIns := [], harness := (true, "5250e3e154b81acab8c743e2d5422f89ad1e660cdd0e750c7b53b21cd0ca8812"), looks := false }, kinds := [], alts := [], laidByText := true, laidKinds := [.data, .pinned], laidTests := true, laidLooks := .later }
def ReelFullUptoCardSaid : Prop := Claim7.holds Tryd.pinned (.plain (OpenSpec.upto reelFullSpec)) reelFullUptoCard

/-- THE SECOND FORM's CARD OF 'hourglasslaw06.ReelHolds'. -/
def reelHoldsUptoCard : Claim7 := { stood := { row := reelHoldsUptoRow, standIns := [], harness := (true, "5250e3e154b81acab8c743e2d5422f89ad1e660cdd0e750c7b53b21cd0ca8812"), looks := false }, kinds := [], alts := [], laidByText := true, laidKinds := [.data, .pinned], laidTests := true, laidLooks := .later }
def ReelHoldsUptoCardSaid : Prop := Claim7.holds Tryd.pinned (.plain (OpenSpec.upto reelHoldsSpec)) reelHoldsUptoCard

/-- THE SECOND FORM's CARD OF 'hourglasslaw06.ReelArgs'. -/
def reelArgsUptoCard : Claim7 := { stood := { row := reelArgsUptoRow, standIns := [], harness := (true, "5250e3e154b81acab8c743e2d5422f89ad1e660cdd0e750c7b53b21cd0ca8812"), looks := false }, kinds := [], alts := [], laidByText := true, laidKinds := [.data, .pinned], laidTests := true, laidLooks := .later }
def ReelArgsUptoCardSaid : Prop := Claim7.holds Tryd.pinned (.plain (OpenSpec.upto reelArgsSpec)) reelArgsUptoCard

/-- THE SECOND FORM's CARD OF 'hourglasslaw06.ReelReads'. -/
def reelReadsUptoCard : Claim7 := { stood := { row := reelReadsUptoRow, standIns := [], harness := (true, "5250e3e154b81acab8c743e2d5422f89ad1e660cdd0e750c7b53b21cd0ca8812"), looks := false }, kinds := [], alts := [], laidByText := true, laidKinds := [.data, .pinned], laidTests := true, laidLooks := .later }
def ReelReadsUptoCardSaid : Prop := Claim7.holds Tryd.pinned (.plain (OpenSpec.upto reelReadsSpec)) reelReadsUptoCard

/-- THE SECOND FORM's CARD OF 'hourglasslaw06.ReelRots'. -/
def reelRotsUptoCard : Claim7 := { stood := { row := reelRotsUptoRow, standIns := [], harness := (true, "5250e3e154b81acab8c743e2d5422f89ad1e660cdd0e750c7b53b21cd0ca8812"), looks := false }, kinds := [], alts := [], laidByText := true, laidKinds := [.data, .pinned], laidTests := true, laidLooks := .later }
def ReelRotsUptoCardSaid : Prop := Claim7.holds Tryd.pinned (.plain (OpenSpec.upto reelRotsSpec)) reelRotsUptoCard
end Rows
end Go.Proofs.YtacfkhnajdneeaaDoor
