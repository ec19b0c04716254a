/-
  DERIVED. GIVEN WITH THE SEED: THE CARDS: each row of YtbdjjjnajkeceaaDoorRows.lean that lists a variable, with what it lists TIED to the program's text (the seventh form; the later family's looks); each row that meets fmt, with fmt's text TOLD by the authors' own Lean function (tested against real Go, not proved from fmt's source: count such statements apart). THE CARD IS WHAT COUNTS. Prove the row's statement (the work); the ties are given (YtbdjjjnajkeceaaDoorTie.lean); close each card by the builder's one call (the guide's Derived/Test/ToyasCard.lean, 'card_holds'). Laid BY PROGRAM, IN A SANDBOX (cutbox-door.mjs). By AI agents, Wed Nov 11 2026. No macro, syntax, notation, axiom, sorry.
-/
import Derived.Test.YtbdjjjnajkeceaaDoorRows
import GoSem.ClaimSeven
namespace Go.Proofs.YtbdjjjnajkeceaaDoor
namespace Rows

/-- THE TIED CARD OF 'hourglasslaw03.PageForms'. -/
def pageFormsCard : Claim7 := { stood := { row := pageFormsRow, standIns := [], harness := (true, "1b96313f1df27fe7a72beb96b50cb820f5548bf07a7888be5e30b26468cdc5b0"), looks := false }, kinds := [], alts := [], laidByText := true, laidKinds := [.data, .pinned], laidTests := true, laidLooks := .later }
def PageFormsCardSaid : Prop := Claim7.holds Tryd.pinned (.plain (OpenSpec.ofChange pageFormsSpec)) pageFormsCard

/-- THE TIED CARD OF 'hourglasslaw03.PageShows'. -/
def pageShowsCard : Claim7 := { stood := { row := pageShowsRow, standIns := [], harness := (true, "1b96313f1df27fe7a72beb96b50cb820f5548bf07a7888be5e30b26468cdc5b0"), looks := false }, kinds := [], alts := [], laidByText := true, laidKinds := [.data, .pinned], laidTests := true, laidLooks := .later }
def PageShowsCardSaid : Prop := Claim7.holds Tryd.pinned (.plain (OpenSpec.ofChange pageShowsSpec)) pageShowsCard

/-- THE TIED CARD OF 'hourglasslaw03.PageSame'. -/
def pageSameCard : Claim7 := { stood := { row := pageSameRow, standIns := [], harness := (true, "1b96313f1df27fe7a72beb96b50cb820f5548bf07a7888be5e30b26468cdc5b0"), looks := false }, kinds := [], alts := [], laidByText := true, laidKinds := [.data, .pinned], laidTests := true, laidLooks := .later }
def PageSameCardSaid : Prop := Claim7.holds Tryd.pinned (.plain (OpenSpec.ofChange pageSameSpec)) pageSameCard

/-- THE TIED CARD OF 'hourglasslaw03.PageApart'. -/
def pageApartCard : Claim7 := { stood := { row := pageApartRow, standIns := [], harness := (true, "1b96313f1df27fe7a72beb96b50cb820f5548bf07a7888be5e30b26468cdc5b0"), looks := false }, kinds := [], alts := [], laidByText := true, laidKinds := [.data, .pinned], laidTests := true, laidLooks := .later }
def PageApartCardSaid : Prop := Claim7.holds Tryd.pinned (.plain (OpenSpec.ofChange pageApartSpec)) pageApartCard

/-- THE TIED CARD OF 'hourglasslaw03.PageRooms'. -/
def pageRoomsCard : Claim7 := { stood := { row := pageRoomsRow, standIns := [], harness := (true, "1b96313f1df27fe7a72beb96b50cb820f5548bf07a7888be5e30b26468cdc5b0"), looks := false }, kinds := [], alts := [], laidByText := true, laidKinds := [.data, .pinned], laidTests := true, laidLooks := .later }
def PageRoomsCardSaid : Prop := Claim7.holds Tryd.pinned (.plain (OpenSpec.ofChange pageRoomsSpec)) pageRoomsCard

/-- THE SECOND FORM's CARD OF 'hourglasslaw03.PageForms'. -/
def pageFormsUptoCard : Claim7 := { stood := { row := pageFormsUptoRow, standIns := [], harness := (true, "1b96313f1df27fe7a72beb96b50cb820f5548bf07a7888be5e30b26468cdc5b0"), looks := false }, kinds := [], alts := [], laidByText := true, laidKinds := [.data, .pinned], laidTests := true, laidLooks := .later }
def PageFormsUptoCardSaid : Prop := Claim7.holds Tryd.pinned (.plain (OpenSpec.upto pageFormsSpec)) pageFormsUptoCard

/-- THE SECOND FORM's CARD OF 'hourglasslaw03.PageShows'. -/
def pageShowsUptoCard : Claim7 := { stood := { row := pageShowsUptoRow, standIns := [], harness := (true, "1b96313f1df27fe7a72beb96b50cb820f5548bf07a7888be5e30b26468cdc5b0"), looks := false }, kinds := [], alts := [], laidByText := true, laidKinds := [.data, .pinned], laidTests := true, laidLooks := .later }
def PageShowsUptoCardSaid : Prop := Claim7.holds Tryd.pinned (.plain (OpenSpec.upto pageShowsSpec)) pageShowsUptoCard

/-- THE SECOND FORM's CARD OF 'hourglasslaw03.PageSame'. -/
def pageSameUptoCard : Claim7 := { stood := { row := pageSameUptoRow, standIns := [], harness := (true, "1b96313f1df27fe7a72beb96b50cb820f5548bf07a7888be5e30b26468cdc5b0"), looks := false }, kinds := [], alts := [], laidByText := true, laidKinds := [.data, .pinned], laidTests := true, laidLooks := .later }
def PageSameUptoCardSaid : Prop := Claim7.holds Tryd.pinned (.plain (OpenSpec.upto pageSameSpec)) pageSameUptoCard

/-- THE SECOND FORM's CARD OF 'hourglasslaw03.PageApart'. -/
def pageApartUptoCard : Claim7 := { stood := { row := pageApartUptoRow, standIns := [], harness := (true, "1b96313f1df27fe7a72beb96b50cb820f5548bf07a7888be5e30b26468cdc5b0"), looks := false }, kinds := [], alts := [], laidByText := true, laidKinds := [.data, .pinned], laidTests := true, laidLooks := .later }
def PageApartUptoCardSaid : Prop := Claim7.holds Tryd.pinned (.plain (OpenSpec.upto pageApartSpec)) pageApartUptoCard

/-- THE SECOND FORM's CARD OF 'hourglasslaw03.PageRooms'. -/
def pageRoomsUptoCard : Claim7 := { stood := { row := pageRoomsUptoRow, standIns := [], harness := (true, "1b96313f1df27fe7a72beb96b50cb820f5548bf07a7888be5e30b26468cdc5b0"), looks := false }, kinds := [], alts := [], laidByText := true, laidKinds := [.data, .pinned], laidTests := true, laidLooks := .later }
def PageRoomsUptoCardSaid : Prop := Claim7.holds Tryd.pinned (.plain (OpenSpec.upto pageRoomsSpec)) pageRoomsUptoCard
end Rows
end Go.Proofs.YtbdjjjnajkeceaaDoor
