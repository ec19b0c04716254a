/-
  DERIVED. GIVEN WITH THE SEED: THE CARDS: each row of YtminfdlhbecnhaaDoorRows.lean that lists a variable, with what it lists TIED to the program's text (the seventh form; the later family's looks); each row that meets fmt, with fmt's text TOLD by the authors' own Lean function (tested against real Go, not proved from fmt's source: count such statements apart). THE CARD IS WHAT COUNTS. Prove the row's statement (the work); the ties are given (YtminfdlhbecnhaaDoorTie.lean); close each card by the builder's one call (the guide's Derived/Test/ToyasCard.lean, 'card_holds'). Laid BY PROGRAM, IN A SANDBOX (cutbox-door.mjs). By AI agents, Wed Nov 11 2026. No macro, syntax, notation, axiom, sorry.
-/
import Derived.Test.YtminfdlhbecnhaaDoorRows
import GoSem.ClaimSeven
namespace Go.Proofs.YtminfdlhbecnhaaDoor
namespace Rows

/-- THE TIED CARD OF 'hourglasslaw14.OpWords'. -/
def opWordsCard : Claim7 := { stood := { row := opWordsRow, standIns := [], harness := (true, "837791d7e183bb2beb91288d6f2400f34aa04b6955dbd712960f39266996ec03"), looks := true }, kinds := [], alts := [], laidByText := true, laidKinds := [.data, .data, .data, .listed, .data], laidTests := true, laidLooks := .later }
def OpWordsCardSaid : Prop := Claim7.holds Tryd.pinned (.plain (OpenSpec.ofChange opWordsSpec)) opWordsCard

/-- THE TIED CARD OF 'hourglasslaw14.OpFresh'. -/
def opFreshCard : Claim7 := { stood := { row := opFreshRow, standIns := [], harness := (true, "837791d7e183bb2beb91288d6f2400f34aa04b6955dbd712960f39266996ec03"), looks := true }, kinds := [], alts := [], laidByText := true, laidKinds := [.data, .data, .data, .listed, .data], laidTests := true, laidLooks := .later }
def OpFreshCardSaid : Prop := Claim7.holds Tryd.pinned (.plain (OpenSpec.ofChange opFreshSpec)) opFreshCard

/-- THE TIED CARD OF 'hourglasslaw14.OpApart'. -/
def opApartCard : Claim7 := { stood := { row := opApartRow, standIns := [], harness := (true, "837791d7e183bb2beb91288d6f2400f34aa04b6955dbd712960f39266996ec03"), looks := true }, kinds := [], alts := [], laidByText := true, laidKinds := [.data, .data, .data, .listed, .data], laidTests := true, laidLooks := .later }
def OpApartCardSaid : Prop := Claim7.holds Tryd.pinned (.plain (OpenSpec.ofChange opApartSpec)) opApartCard

/-- THE TIED CARD OF 'hourglasslaw14.OpReads'. -/
def opReadsCard : Claim7 := { stood := { row := opReadsRow, standIns := [], harness := (true, "837791d7e183bb2beb91288d6f2400f34aa04b6955dbd712960f39266996ec03"), looks := true }, kinds := [], alts := [], laidByText := true, laidKinds := [.data, .data, .data, .data, .sentinel, .sentinel, .listed, .data, .pinned], laidTests := true, laidLooks := .later }
def OpReadsCardSaid : Prop := Claim7.holds Tryd.pinned (.plain (OpenSpec.ofChange opReadsSpec)) opReadsCard

/-- THE SECOND FORM's CARD OF 'hourglasslaw14.OpWords'. -/
def opWordsUptoCard : Claim7 := { stood := { row := opWordsUptoRow, standIns := [], harness := (true, "837791d7e183bb2beb91288d6f2400f34aa04b6955dbd712960f39266996ec03"), looks := true }, kinds := [], alts := [], laidByText := true, laidKinds := [.data, .data, .data, .listed, .data], laidTests := true, laidLooks := .later }
def OpWordsUptoCardSaid : Prop := Claim7.holds Tryd.pinned (.plain (OpenSpec.upto opWordsSpec)) opWordsUptoCard

/-- THE SECOND FORM's CARD OF 'hourglasslaw14.OpFresh'. -/
def opFreshUptoCard : Claim7 := { stood := { row := opFreshUptoRow, standIns := [], harness := (true, "837791d7e183bb2beb91288d6f2400f34aa04b6955dbd712960f39266996ec03"), looks := true }, kinds := [], alts := [], laidByText := true, laidKinds := [.data, .data, .data, .listed, .data], laidTests := true, laidLooks := .later }
def OpFreshUptoCardSaid : Prop := Claim7.holds Tryd.pinned (.plain (OpenSpec.upto opFreshSpec)) opFreshUptoCard

/-- THE SECOND FORM's CARD OF 'hourglasslaw14.OpApart'. -/
def opApartUptoCard : Claim7 := { stood := { row := opApartUptoRow, standIns := [], harness := (true, "837791d7e183bb2beb91288d6f2400f34aa04b6955dbd712960f39266996ec03"), looks := true }, kinds := [], alts := [], laidByText := true, laidKinds := [.data, .data, .data, .listed, .data], laidTests := true, laidLooks := .later }
def OpApartUptoCardSaid : Prop := Claim7.holds Tryd.pinned (.plain (OpenSpec.upto opApartSpec)) opApartUptoCard

/-- THE SECOND FORM's CARD OF 'hourglasslaw14.OpReads'. -/
def opReadsUptoCard : Claim7 := { stood := { row := opReadsUptoRow, standIns := [], harness := (true, "837791d7e183bb2beb91288d6f2400f34aa04b6955dbd712960f39266996ec03"), looks := true }, kinds := [], alts := [], laidByText := true, laidKinds := [.data, .data, .data, .data, .sentinel, .sentinel, .listed, .data, .pinned], laidTests := true, laidLooks := .later }
def OpReadsUptoCardSaid : Prop := Claim7.holds Tryd.pinned (.plain (OpenSpec.upto opReadsSpec)) opReadsUptoCard
end Rows
end Go.Proofs.YtminfdlhbecnhaaDoor
