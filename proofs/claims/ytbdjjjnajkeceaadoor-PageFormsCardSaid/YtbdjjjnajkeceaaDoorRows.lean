/-
  NARROWER THAN 'FOR EVERY INPUT', by the rows' own cells (each row's printed sentence says how): PageForms: laid · PageShows: laid · PageSame: laid · PageApart: laid · PageRooms: laid.
  DERIVED. THE GIVEN ROWS OF THIS SEAT. 5 by the template 'for every input the law returns true; each argument reads behind the call as it read before'; 0 by the template 'total and deterministic' (their statements: YtbdjjjnajkeceaaDoorTotals.lean).
  GIVEN WITH THE SEED: the statements are not yours to turn. If you find one false, say at which input.
  Laid BY PROGRAM, IN A SANDBOX (cutbox-rows.mjs): the forced cells as the released guide's own fill.sh prints them over the translation 148babcc478f7ccd… (all of the seat's roots in one cut). By AI agents, Wed Nov 11 2026. No macro, syntax, notation, axiom, sorry.
-/
import Derived.Test.YtbdjjjnajkeceaaDoorChecked
import GoSem.PinnedTables
import GoSem.Claim
import GoSem.ClaimJoined
import GoSem.ClaimMapViews
import Derived.JoinedTies
import Derived.KernelRfl
namespace Go.Proofs.YtbdjjjnajkeceaaDoor
/- THE CELL 'sum', in the pinned program and in every row, IS THE sha256 OF THE DUMP (.gsa) THAT YtbdjjjnajkeceaaDoorProg.lean LOADS. Nothing in Lean hashes anything: it is a label: what it is worth is what the hold of that sum in a sandbox is worth. -/
noncomputable def Tryd.pinned : Pinned := { name := "ytbdjjjnajkeceaadoor", sum := "148babcc478f7ccd00fdf0fc9bbec9f79c23a1c1f3774b4f58a3b1e3536c45f3", checked := Tryd.checked }
namespace Rows
def none {H : Type} : Left H := { results := [], args := [] }

/- WHAT THE LISTED PACKAGE-LEVEL VARIABLES READ AS WHEN THE CALL BEGINS. Each datum BY PROGRAM (the guide's laid-datum.mjs) off the statement by which the dump's own 'gosem.cut.vars' lays the variable. In a bare row this is a premise. The card (YtbdjjjnajkeceaaDoorCards.lean) ties it to the program's text. -/
def laid_unicode_utf8_acceptRanges {H : Type} : DataW H := .agg [.agg [.lit (.int .u8 128), .lit (.int .u8 191)], .agg [.lit (.int .u8 160), .lit (.int .u8 191)], .agg [.lit (.int .u8 128), .lit (.int .u8 159)], .agg [.lit (.int .u8 144), .lit (.int .u8 191)], .agg [.lit (.int .u8 128), .lit (.int .u8 143)], .agg [.lit (.int .u8 0), .lit (.int .u8 0)], .agg [.lit (.int .u8 0), .lit (.int .u8 0)], .agg [.lit (.int .u8 0), .lit (.int .u8 0)], .agg [.lit (.int .u8 0), .lit (.int .u8 0)], .agg [.lit (.int .u8 0), .lit (.int .u8 0)], .agg [.lit (.int .u8 0), .lit (.int .u8 0)], .agg [.lit (.int .u8 0), .lit (.int .u8 0)], .agg [.lit (.int .u8 0), .lit (.int .u8 0)], .agg [.lit (.int .u8 0), .lit (.int .u8 0)], .agg [.lit (.int .u8 0), .lit (.int .u8 0)], .agg [.lit (.int .u8 0), .lit (.int .u8 0)]]
/-- One of Go's own tables, pinned by name: the form's constant. -/
def laid_unicode_utf8_first : DataW Unit := Go.Pinned.utf8First

/-- 'hourglasslaw03.PageForms': WHATEVER THE INPUT: true; the input reads as it did. -/
def pageFormsSpec : ChangeSpec := { name := "pageForms", fn := fun _ => fun
  | [d1, d2, d3, d4, d5] => { results := [.lit (.bool true)], args := [d1, d2, d3, d4, d5] }
  | _ => none }
def pageFormsRow : OpenClaim := { program := "ytbdjjjnajkeceaadoor", sum := "148babcc478f7ccd00fdf0fc9bbec9f79c23a1c1f3774b4f58a3b1e3536c45f3", func := "hourglass/hourglasslaw03.PageForms", spec := "pageForms", inPlace := ["internal/bytealg.MakeNoZero"], named := ["unicode/utf8.first", "unicode/utf8.acceptRanges"], apart := false, laid := [("unicode/utf8.acceptRanges", laid_unicode_utf8_acceptRanges), ("unicode/utf8.first", laid_unicode_utf8_first)] }
def PageFormsSaid : Prop := pageFormsRow.holds Tryd.pinned (OpenSpec.ofChange pageFormsSpec)

/-- ITS FALSE NEIGHBOUR: 'it returns false'. Refute it at one input. -/
def pageFormsWrong : ChangeSpec := { name := "pageForms", fn := fun _ => fun
  | [d1, d2, d3, d4, d5] => { results := [.lit (.bool false)], args := [d1, d2, d3, d4, d5] }
  | _ => none }
def PageFormsWrongFalsely : Prop := pageFormsRow.holds Tryd.pinned (OpenSpec.ofChange pageFormsWrong)

/-- 'hourglasslaw03.PageShows': WHATEVER THE INPUT: true; the input reads as it did. -/
def pageShowsSpec : ChangeSpec := { name := "pageShows", fn := fun _ => fun
  | [d1, d2, d3] => { results := [.lit (.bool true)], args := [d1, d2, d3] }
  | _ => none }
def pageShowsRow : OpenClaim := { program := "ytbdjjjnajkeceaadoor", sum := "148babcc478f7ccd00fdf0fc9bbec9f79c23a1c1f3774b4f58a3b1e3536c45f3", func := "hourglass/hourglasslaw03.PageShows", spec := "pageShows", inPlace := ["internal/bytealg.MakeNoZero"], named := ["unicode/utf8.first", "unicode/utf8.acceptRanges"], apart := false, laid := [("unicode/utf8.acceptRanges", laid_unicode_utf8_acceptRanges), ("unicode/utf8.first", laid_unicode_utf8_first)] }
def PageShowsSaid : Prop := pageShowsRow.holds Tryd.pinned (OpenSpec.ofChange pageShowsSpec)

/-- ITS FALSE NEIGHBOUR: 'it returns false'. Refute it at one input. -/
def pageShowsWrong : ChangeSpec := { name := "pageShows", fn := fun _ => fun
  | [d1, d2, d3] => { results := [.lit (.bool false)], args := [d1, d2, d3] }
  | _ => none }
def PageShowsWrongFalsely : Prop := pageShowsRow.holds Tryd.pinned (OpenSpec.ofChange pageShowsWrong)

/-- 'hourglasslaw03.PageSame': WHATEVER THE INPUT: true; the input reads as it did. -/
def pageSameSpec : ChangeSpec := { name := "pageSame", fn := fun _ => fun
  | [d1, d2] => { results := [.lit (.bool true)], args := [d1, d2] }
  | _ => none }
def pageSameRow : OpenClaim := { program := "ytbdjjjnajkeceaadoor", sum := "148babcc478f7ccd00fdf0fc9bbec9f79c23a1c1f3774b4f58a3b1e3536c45f3", func := "hourglass/hourglasslaw03.PageSame", spec := "pageSame", inPlace := ["internal/bytealg.MakeNoZero"], named := ["unicode/utf8.first", "unicode/utf8.acceptRanges"], apart := false, laid := [("unicode/utf8.acceptRanges", laid_unicode_utf8_acceptRanges), ("unicode/utf8.first", laid_unicode_utf8_first)] }
def PageSameSaid : Prop := pageSameRow.holds Tryd.pinned (OpenSpec.ofChange pageSameSpec)

/-- ITS FALSE NEIGHBOUR: 'it returns false'. Refute it at one input. -/
def pageSameWrong : ChangeSpec := { name := "pageSame", fn := fun _ => fun
  | [d1, d2] => { results := [.lit (.bool false)], args := [d1, d2] }
  | _ => none }
def PageSameWrongFalsely : Prop := pageSameRow.holds Tryd.pinned (OpenSpec.ofChange pageSameWrong)

/-- 'hourglasslaw03.PageApart': WHATEVER THE INPUT: true; the input reads as it did. -/
def pageApartSpec : ChangeSpec := { name := "pageApart", fn := fun _ => fun
  | [d1, d2] => { results := [.lit (.bool true)], args := [d1, d2] }
  | _ => none }
def pageApartRow : OpenClaim := { program := "ytbdjjjnajkeceaadoor", sum := "148babcc478f7ccd00fdf0fc9bbec9f79c23a1c1f3774b4f58a3b1e3536c45f3", func := "hourglass/hourglasslaw03.PageApart", spec := "pageApart", inPlace := ["internal/bytealg.MakeNoZero"], named := ["unicode/utf8.first", "unicode/utf8.acceptRanges"], apart := false, laid := [("unicode/utf8.acceptRanges", laid_unicode_utf8_acceptRanges), ("unicode/utf8.first", laid_unicode_utf8_first)] }
def PageApartSaid : Prop := pageApartRow.holds Tryd.pinned (OpenSpec.ofChange pageApartSpec)

/-- ITS FALSE NEIGHBOUR: 'it returns false'. Refute it at one input. -/
def pageApartWrong : ChangeSpec := { name := "pageApart", fn := fun _ => fun
  | [d1, d2] => { results := [.lit (.bool false)], args := [d1, d2] }
  | _ => none }
def PageApartWrongFalsely : Prop := pageApartRow.holds Tryd.pinned (OpenSpec.ofChange pageApartWrong)

/-- 'hourglasslaw03.PageRooms': WHATEVER THE INPUT: true; the input reads as it did. -/
def pageRoomsSpec : ChangeSpec := { name := "pageRooms", fn := fun _ => fun
  | [d1, d2, d3] => { results := [.lit (.bool true)], args := [d1, d2, d3] }
  | _ => none }
def pageRoomsRow : OpenClaim := { program := "ytbdjjjnajkeceaadoor", sum := "148babcc478f7ccd00fdf0fc9bbec9f79c23a1c1f3774b4f58a3b1e3536c45f3", func := "hourglass/hourglasslaw03.PageRooms", spec := "pageRooms", inPlace := ["internal/bytealg.MakeNoZero"], named := ["unicode/utf8.first", "unicode/utf8.acceptRanges"], apart := false, laid := [("unicode/utf8.acceptRanges", laid_unicode_utf8_acceptRanges), ("unicode/utf8.first", laid_unicode_utf8_first)] }
def PageRoomsSaid : Prop := pageRoomsRow.holds Tryd.pinned (OpenSpec.ofChange pageRoomsSpec)

/-- ITS FALSE NEIGHBOUR: 'it returns false'. Refute it at one input. -/
def pageRoomsWrong : ChangeSpec := { name := "pageRooms", fn := fun _ => fun
  | [d1, d2, d3] => { results := [.lit (.bool false)], args := [d1, d2, d3] }
  | _ => none }
def PageRoomsWrongFalsely : Prop := pageRoomsRow.holds Tryd.pinned (OpenSpec.ofChange pageRoomsWrong)

/- THE SECOND FORM. 'bulk': how many values and letters a reading holds, each counted each time it is reached (what is shared counts as often as it is met; a slice's spare places count too). A statement '..UptoSaid' is the law's where the arguments, and the package variables that the reading takes, are together of bulk at most 1048576: NARROWER than '..Said'. Prove '..Said' where nothing that the law and all that it calls make is longer than what came in: it says more and counts as full. Else prove '..UptoSaid'. A law counts once. -/
mutual
def uptoBulk {H : Type} : DataW H → Nat
  | .lit (.string bytes) => bytes.length + 1
  | .lit _ => 1
  | .nil => 1
  | .ptr d => uptoBulk d + 1
  | .slice elems spare => uptoBulkAll elems + uptoBulkAll spare + 1
  | .agg parts => uptoBulkAll parts + 1
  | .iface _ d => uptoBulk d + 1
  | .map entries => uptoBulkEntries entries + 1
  | .held _ => 1
def uptoBulkAll {H : Type} : List (DataW H) → Nat
  | [] => 0
  | d :: r => uptoBulk d + uptoBulkAll r
def uptoBulkEntries {H : Type} : List (Lit × DataW H) → Nat
  | [] => 0
  | x :: r => uptoBulkEntry x + uptoBulkEntries r
def uptoBulkEntry {H : Type} : Lit × DataW H → Nat
  | (.string bytes, d) => bytes.length + uptoBulk d + 1
  | (_, d) => uptoBulk d + 1
 end
def uptoSmall : (H : Type) → List (DataW H) → Bool := fun _ ds => decide (uptoBulkAll ds ≤ 1048576)
def OpenSpec.upto (s : _root_.Go.ChangeSpec) : _root_.Go.OpenSpec := { _root_.Go.OpenSpec.ofChange s with cond := some uptoSmall }

/-- 'hourglasslaw03.PageForms', WHERE WHAT IT READS IS OF BULK AT MOST 1048576: true; the input reads as it did. -/
def pageFormsUptoRow : OpenClaim := { program := "ytbdjjjnajkeceaadoor", sum := "148babcc478f7ccd00fdf0fc9bbec9f79c23a1c1f3774b4f58a3b1e3536c45f3", func := "hourglass/hourglasslaw03.PageForms", spec := "pageForms", inPlace := ["internal/bytealg.MakeNoZero"], named := ["unicode/utf8.first", "unicode/utf8.acceptRanges"], apart := false, laid := [("unicode/utf8.acceptRanges", laid_unicode_utf8_acceptRanges), ("unicode/utf8.first", laid_unicode_utf8_first)], narrowed := true }
def PageFormsUptoSaid : Prop := pageFormsUptoRow.holds Tryd.pinned (OpenSpec.upto pageFormsSpec)

/-- 'hourglasslaw03.PageShows', WHERE WHAT IT READS IS OF BULK AT MOST 1048576: true; the input reads as it did. -/
def pageShowsUptoRow : OpenClaim := { program := "ytbdjjjnajkeceaadoor", sum := "148babcc478f7ccd00fdf0fc9bbec9f79c23a1c1f3774b4f58a3b1e3536c45f3", func := "hourglass/hourglasslaw03.PageShows", spec := "pageShows", inPlace := ["internal/bytealg.MakeNoZero"], named := ["unicode/utf8.first", "unicode/utf8.acceptRanges"], apart := false, laid := [("unicode/utf8.acceptRanges", laid_unicode_utf8_acceptRanges), ("unicode/utf8.first", laid_unicode_utf8_first)], narrowed := true }
def PageShowsUptoSaid : Prop := pageShowsUptoRow.holds Tryd.pinned (OpenSpec.upto pageShowsSpec)

/-- 'hourglasslaw03.PageSame', WHERE WHAT IT READS IS OF BULK AT MOST 1048576: true; the input reads as it did. -/
def pageSameUptoRow : OpenClaim := { program := "ytbdjjjnajkeceaadoor", sum := "148babcc478f7ccd00fdf0fc9bbec9f79c23a1c1f3774b4f58a3b1e3536c45f3", func := "hourglass/hourglasslaw03.PageSame", spec := "pageSame", inPlace := ["internal/bytealg.MakeNoZero"], named := ["unicode/utf8.first", "unicode/utf8.acceptRanges"], apart := false, laid := [("unicode/utf8.acceptRanges", laid_unicode_utf8_acceptRanges), ("unicode/utf8.first", laid_unicode_utf8_first)], narrowed := true }
def PageSameUptoSaid : Prop := pageSameUptoRow.holds Tryd.pinned (OpenSpec.upto pageSameSpec)

/-- 'hourglasslaw03.PageApart', WHERE WHAT IT READS IS OF BULK AT MOST 1048576: true; the input reads as it did. -/
def pageApartUptoRow : OpenClaim := { program := "ytbdjjjnajkeceaadoor", sum := "148babcc478f7ccd00fdf0fc9bbec9f79c23a1c1f3774b4f58a3b1e3536c45f3", func := "hourglass/hourglasslaw03.PageApart", spec := "pageApart", inPlace := ["internal/bytealg.MakeNoZero"], named := ["unicode/utf8.first", "unicode/utf8.acceptRanges"], apart := false, laid := [("unicode/utf8.acceptRanges", laid_unicode_utf8_acceptRanges), ("unicode/utf8.first", laid_unicode_utf8_first)], narrowed := true }
def PageApartUptoSaid : Prop := pageApartUptoRow.holds Tryd.pinned (OpenSpec.upto pageApartSpec)

/-- 'hourglasslaw03.PageRooms', WHERE WHAT IT READS IS OF BULK AT MOST 1048576: true; the input reads as it did. -/
def pageRoomsUptoRow : OpenClaim := { program := "ytbdjjjnajkeceaadoor", sum := "148babcc478f7ccd00fdf0fc9bbec9f79c23a1c1f3774b4f58a3b1e3536c45f3", func := "hourglass/hourglasslaw03.PageRooms", spec := "pageRooms", inPlace := ["internal/bytealg.MakeNoZero"], named := ["unicode/utf8.first", "unicode/utf8.acceptRanges"], apart := false, laid := [("unicode/utf8.acceptRanges", laid_unicode_utf8_acceptRanges), ("unicode/utf8.first", laid_unicode_utf8_first)], narrowed := true }
def PageRoomsUptoSaid : Prop := pageRoomsUptoRow.holds Tryd.pinned (OpenSpec.upto pageRoomsSpec)

end Rows
end Go.Proofs.YtbdjjjnajkeceaaDoor
