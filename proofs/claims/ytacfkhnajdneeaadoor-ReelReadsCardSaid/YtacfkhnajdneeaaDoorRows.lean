/-
  NARROWER THAN 'FOR EVERY INPUT', by the rows' own cells (each row's printed sentence says how): ReelRows: laid · ReelGoes: laid · ReelFull: laid · ReelHolds: laid · ReelArgs: laid · ReelReads: laid · ReelRots: laid.
  DERIVED. THE GIVEN ROWS OF THIS SEAT. 7 by the template 'for every input the law returns true; each argument reads behind the call as it read before'; 0 by the template 'total and deterministic' (their statements: YtacfkhnajdneeaaDoorTotals.lean).
  GIVEN WITH THE SEED: the statements are not yours to turn. If you find one false, say at which input.
  Laid BY PROGRAM, IN A SANDBOX (cutbox-rows.mjs): the forced cells as the released guide's own fill.sh prints them over the translation 4f973c578e353816… (all of the seat's roots in one cut). By AI agents, Wed Nov 11 2026. No macro, syntax, notation, axiom, sorry.
-/
import Derived.Test.YtacfkhnajdneeaaDoorChecked
import GoSem.PinnedTables
import GoSem.Claim
import GoSem.ClaimJoined
import GoSem.ClaimMapViews
import Derived.JoinedTies
import Derived.KernelRfl
namespace Go.Proofs.YtacfkhnajdneeaaDoor
/- THE CELL 'sum', in the pinned program and in every row, IS THE sha256 OF THE DUMP (.gsa) THAT YtacfkhnajdneeaaDoorProg.lean LOADS. Nothing in Lean hashes anything: it is a label: what it is worth is what the hold of that sum in a sandbox is worth. -/
noncomputable def Tryd.pinned : Pinned := { name := "ytacfkhnajdneeaadoor", sum := "4f973c578e353816a6a4a6e99b5840f588115dcf20dfc1a294ed071f46139f86", checked := Tryd.checked }
namespace Rows
def none {H : Type} : Left H := { results := [], args := [] }

/- WHAT THE LISTED PACKAGE-LEVEL VARIABLES READ AS WHEN THE CALL BEGINS. Each datum BY PROGRAM (the guide's laid-datum.mjs) off the statement by which the dump's own 'gosem.cut.vars' lays the variable. In a bare row this is a premise. The card (YtacfkhnajdneeaaDoorCards.lean) ties it to the program's text. -/
def laid_unicode_utf8_acceptRanges {H : Type} : DataW H := .agg [.agg [.lit (.int .u8 128), .lit (.int .u8 191)], .agg [.lit (.int .u8 160), .lit (.int .u8 191)], .agg [.lit (.int .u8 128), .lit (.int .u8 159)], .agg [.lit (.int .u8 144), .lit (.int .u8 191)], .agg [.lit (.int .u8 128), .lit (.int .u8 143)], .agg [.lit (.int .u8 0), .lit (.int .u8 0)], .agg [.lit (.int .u8 0), .lit (.int .u8 0)], .agg [.lit (.int .u8 0), .lit (.int .u8 0)], .agg [.lit (.int .u8 0), .lit (.int .u8 0)], .agg [.lit (.int .u8 0), .lit (.int .u8 0)], .agg [.lit (.int .u8 0), .lit (.int .u8 0)], .agg [.lit (.int .u8 0), .lit (.int .u8 0)], .agg [.lit (.int .u8 0), .lit (.int .u8 0)], .agg [.lit (.int .u8 0), .lit (.int .u8 0)], .agg [.lit (.int .u8 0), .lit (.int .u8 0)], .agg [.lit (.int .u8 0), .lit (.int .u8 0)]]
/-- One of Go's own tables, pinned by name: the form's constant. -/
def laid_unicode_utf8_first : DataW Unit := Go.Pinned.utf8First

/-- 'hourglasslaw06.ReelRows': WHATEVER THE INPUT: true; the input reads as it did. -/
def reelRowsSpec : ChangeSpec := { name := "reelRows", fn := fun _ => fun
  | [d1, d2, d3] => { results := [.lit (.bool true)], args := [d1, d2, d3] }
  | _ => none }
def reelRowsRow : OpenClaim := { program := "ytacfkhnajdneeaadoor", sum := "4f973c578e353816a6a4a6e99b5840f588115dcf20dfc1a294ed071f46139f86", func := "hourglass/hourglasslaw06.ReelRows", spec := "reelRows", inPlace := ["internal/bytealg.MakeNoZero"], recurses := true, named := ["unicode/utf8.first", "unicode/utf8.acceptRanges"], apart := false, laid := [("unicode/utf8.acceptRanges", laid_unicode_utf8_acceptRanges), ("unicode/utf8.first", laid_unicode_utf8_first)] }
def ReelRowsSaid : Prop := reelRowsRow.holds Tryd.pinned (OpenSpec.ofChange reelRowsSpec)

/-- ITS FALSE NEIGHBOUR: 'it returns false'. Refute it at one input. -/
def reelRowsWrong : ChangeSpec := { name := "reelRows", fn := fun _ => fun
  | [d1, d2, d3] => { results := [.lit (.bool false)], args := [d1, d2, d3] }
  | _ => none }
def ReelRowsWrongFalsely : Prop := reelRowsRow.holds Tryd.pinned (OpenSpec.ofChange reelRowsWrong)

/-- 'hourglasslaw06.ReelGoes': WHATEVER THE INPUT: true; the input reads as it did. -/
def reelGoesSpec : ChangeSpec := { name := "reelGoes", fn := fun _ => fun
  | [d1, d2, d3] => { results := [.lit (.bool true)], args := [d1, d2, d3] }
  | _ => none }
def reelGoesRow : OpenClaim := { program := "ytacfkhnajdneeaadoor", sum := "4f973c578e353816a6a4a6e99b5840f588115dcf20dfc1a294ed071f46139f86", func := "hourglass/hourglasslaw06.ReelGoes", spec := "reelGoes", inPlace := ["internal/bytealg.MakeNoZero"], recurses := true, named := ["unicode/utf8.first", "unicode/utf8.acceptRanges"], apart := false, laid := [("unicode/utf8.acceptRanges", laid_unicode_utf8_acceptRanges), ("unicode/utf8.first", laid_unicode_utf8_first)] }
def ReelGoesSaid : Prop := reelGoesRow.holds Tryd.pinned (OpenSpec.ofChange reelGoesSpec)

/-- ITS FALSE NEIGHBOUR: 'it returns false'. Refute it at one input. -/
def reelGoesWrong : ChangeSpec := { name := "reelGoes", fn := fun _ => fun
  | [d1, d2, d3] => { results := [.lit (.bool false)], args := [d1, d2, d3] }
  | _ => none }
def ReelGoesWrongFalsely : Prop := reelGoesRow.holds Tryd.pinned (OpenSpec.ofChange reelGoesWrong)

/-- 'hourglasslaw06.ReelFull': WHATEVER THE INPUT: true; the input reads as it did. -/
def reelFullSpec : ChangeSpec := { name := "reelFull", fn := fun _ => fun
  | [d1, d2, d3] => { results := [.lit (.bool true)], args := [d1, d2, d3] }
  | _ => none }
def reelFullRow : OpenClaim := { program := "ytacfkhnajdneeaadoor", sum := "4f973c578e353816a6a4a6e99b5840f588115dcf20dfc1a294ed071f46139f86", func := "hourglass/hourglasslaw06.ReelFull", spec := "reelFull", inPlace := ["internal/bytealg.MakeNoZero"], recurses := true, named := ["unicode/utf8.first", "unicode/utf8.acceptRanges"], apart := false, laid := [("unicode/utf8.acceptRanges", laid_unicode_utf8_acceptRanges), ("unicode/utf8.first", laid_unicode_utf8_first)] }
def ReelFullSaid : Prop := reelFullRow.holds Tryd.pinned (OpenSpec.ofChange reelFullSpec)

/-- ITS FALSE NEIGHBOUR: 'it returns false'. Refute it at one input. -/
def reelFullWrong : ChangeSpec := { name := "reelFull", fn := fun _ => fun
  | [d1, d2, d3] => { results := [.lit (.bool false)], args := [d1, d2, d3] }
  | _ => none }
def ReelFullWrongFalsely : Prop := reelFullRow.holds Tryd.pinned (OpenSpec.ofChange reelFullWrong)

/-- 'hourglasslaw06.ReelHolds': WHATEVER THE INPUT: true; the input reads as it did. -/
def reelHoldsSpec : ChangeSpec := { name := "reelHolds", fn := fun _ => fun
  | [d1, d2, d3] => { results := [.lit (.bool true)], args := [d1, d2, d3] }
  | _ => none }
def reelHoldsRow : OpenClaim := { program := "ytacfkhnajdneeaadoor", sum := "4f973c578e353816a6a4a6e99b5840f588115dcf20dfc1a294ed071f46139f86", func := "hourglass/hourglasslaw06.ReelHolds", spec := "reelHolds", inPlace := ["internal/bytealg.MakeNoZero"], recurses := true, named := ["unicode/utf8.first", "unicode/utf8.acceptRanges"], apart := false, laid := [("unicode/utf8.acceptRanges", laid_unicode_utf8_acceptRanges), ("unicode/utf8.first", laid_unicode_utf8_first)] }
def ReelHoldsSaid : Prop := reelHoldsRow.holds Tryd.pinned (OpenSpec.ofChange reelHoldsSpec)

/-- ITS FALSE NEIGHBOUR: 'it returns false'. Refute it at one input. -/
def reelHoldsWrong : ChangeSpec := { name := "reelHolds", fn := fun _ => fun
  | [d1, d2, d3] => { results := [.lit (.bool false)], args := [d1, d2, d3] }
  | _ => none }
def ReelHoldsWrongFalsely : Prop := reelHoldsRow.holds Tryd.pinned (OpenSpec.ofChange reelHoldsWrong)

/-- 'hourglasslaw06.ReelArgs': WHATEVER THE INPUT: true; the input reads as it did. -/
def reelArgsSpec : ChangeSpec := { name := "reelArgs", fn := fun _ => fun
  | [d1, d2, d3] => { results := [.lit (.bool true)], args := [d1, d2, d3] }
  | _ => none }
def reelArgsRow : OpenClaim := { program := "ytacfkhnajdneeaadoor", sum := "4f973c578e353816a6a4a6e99b5840f588115dcf20dfc1a294ed071f46139f86", func := "hourglass/hourglasslaw06.ReelArgs", spec := "reelArgs", inPlace := ["internal/bytealg.MakeNoZero"], named := ["unicode/utf8.first", "unicode/utf8.acceptRanges"], apart := false, laid := [("unicode/utf8.acceptRanges", laid_unicode_utf8_acceptRanges), ("unicode/utf8.first", laid_unicode_utf8_first)] }
def ReelArgsSaid : Prop := reelArgsRow.holds Tryd.pinned (OpenSpec.ofChange reelArgsSpec)

/-- ITS FALSE NEIGHBOUR: 'it returns false'. Refute it at one input. -/
def reelArgsWrong : ChangeSpec := { name := "reelArgs", fn := fun _ => fun
  | [d1, d2, d3] => { results := [.lit (.bool false)], args := [d1, d2, d3] }
  | _ => none }
def ReelArgsWrongFalsely : Prop := reelArgsRow.holds Tryd.pinned (OpenSpec.ofChange reelArgsWrong)

/-- 'hourglasslaw06.ReelReads': WHATEVER THE INPUT: true; the input reads as it did. -/
def reelReadsSpec : ChangeSpec := { name := "reelReads", fn := fun _ => fun
  | [d1, d2, d3, d4] => { results := [.lit (.bool true)], args := [d1, d2, d3, d4] }
  | _ => none }
def reelReadsRow : OpenClaim := { program := "ytacfkhnajdneeaadoor", sum := "4f973c578e353816a6a4a6e99b5840f588115dcf20dfc1a294ed071f46139f86", func := "hourglass/hourglasslaw06.ReelReads", spec := "reelReads", inPlace := ["internal/bytealg.MakeNoZero"], named := ["unicode/utf8.first", "unicode/utf8.acceptRanges"], apart := false, laid := [("unicode/utf8.acceptRanges", laid_unicode_utf8_acceptRanges), ("unicode/utf8.first", laid_unicode_utf8_first)] }
def ReelReadsSaid : Prop := reelReadsRow.holds Tryd.pinned (OpenSpec.ofChange reelReadsSpec)

/-- ITS FALSE NEIGHBOUR: 'it returns false'. Refute it at one input. -/
def reelReadsWrong : ChangeSpec := { name := "reelReads", fn := fun _ => fun
  | [d1, d2, d3, d4] => { results := [.lit (.bool false)], args := [d1, d2, d3, d4] }
  | _ => none }
def ReelReadsWrongFalsely : Prop := reelReadsRow.holds Tryd.pinned (OpenSpec.ofChange reelReadsWrong)

/-- 'hourglasslaw06.ReelRots': WHATEVER THE INPUT: true; the input reads as it did. -/
def reelRotsSpec : ChangeSpec := { name := "reelRots", fn := fun _ => fun
  | [d1, d2, d3, d4, d5] => { results := [.lit (.bool true)], args := [d1, d2, d3, d4, d5] }
  | _ => none }
def reelRotsRow : OpenClaim := { program := "ytacfkhnajdneeaadoor", sum := "4f973c578e353816a6a4a6e99b5840f588115dcf20dfc1a294ed071f46139f86", func := "hourglass/hourglasslaw06.ReelRots", spec := "reelRots", inPlace := ["internal/bytealg.MakeNoZero"], named := ["unicode/utf8.first", "unicode/utf8.acceptRanges"], apart := false, laid := [("unicode/utf8.acceptRanges", laid_unicode_utf8_acceptRanges), ("unicode/utf8.first", laid_unicode_utf8_first)] }
def ReelRotsSaid : Prop := reelRotsRow.holds Tryd.pinned (OpenSpec.ofChange reelRotsSpec)

/-- ITS FALSE NEIGHBOUR: 'it returns false'. Refute it at one input. -/
def reelRotsWrong : ChangeSpec := { name := "reelRots", fn := fun _ => fun
  | [d1, d2, d3, d4, d5] => { results := [.lit (.bool false)], args := [d1, d2, d3, d4, d5] }
  | _ => none }
def ReelRotsWrongFalsely : Prop := reelRotsRow.holds Tryd.pinned (OpenSpec.ofChange reelRotsWrong)

/- THE SECOND FORM. 'bulk': how many values and letters a reading holds, each counted each time it is reached (what is shared counts as often as it is met; a slice's spare places count too). A statement '..UptoSaid' is the law's where the arguments, and the package variables that the reading takes, are together of bulk at most 1048576: NARROWER than '..Said'. Prove '..Said' where nothing that the law and all that it calls make is longer than what came in: it says more and counts as full. Else prove '..UptoSaid'. A law counts once. -/
mutual
def uptoBulk {H : Type} : DataW H → Nat
  | .lit (.string bytes) => bytes.length + 1
  | .lit _ => 1
  | .nil => 1
  | .ptr d => uptoBulk d + 1
  | .slice elems spare => uptoBulkAll elems + uptoBulkAll spare + 1
  | .agg parts => uptoBulkAll parts + 1
  | .iface _ d => uptoBulk d + 1
  | .map entries => uptoBulkEntries entries + 1
  | .held _ => 1
def uptoBulkAll {H : Type} : List (DataW H) → Nat
  | [] => 0
  | d :: r => uptoBulk d + uptoBulkAll r
def uptoBulkEntries {H : Type} : List (Lit × DataW H) → Nat
  | [] => 0
  | x :: r => uptoBulkEntry x + uptoBulkEntries r
def uptoBulkEntry {H : Type} : Lit × DataW H → Nat
  | (.string bytes, d) => bytes.length + uptoBulk d + 1
  | (_, d) => uptoBulk d + 1
 end
def uptoSmall : (H : Type) → List (DataW H) → Bool := fun _ ds => decide (uptoBulkAll ds ≤ 1048576)
def OpenSpec.upto (s : _root_.Go.ChangeSpec) : _root_.Go.OpenSpec := { _root_.Go.OpenSpec.ofChange s with cond := some uptoSmall }

/-- 'hourglasslaw06.ReelRows', WHERE WHAT IT READS IS OF BULK AT MOST 1048576: true; the input reads as it did. -/
def reelRowsUptoRow : OpenClaim := { program := "ytacfkhnajdneeaadoor", sum := "4f973c578e353816a6a4a6e99b5840f588115dcf20dfc1a294ed071f46139f86", func := "hourglass/hourglasslaw06.ReelRows", spec := "reelRows", inPlace := ["internal/bytealg.MakeNoZero"], recurses := true, named := ["unicode/utf8.first", "unicode/utf8.acceptRanges"], apart := false, laid := [("unicode/utf8.acceptRanges", laid_unicode_utf8_acceptRanges), ("unicode/utf8.first", laid_unicode_utf8_first)], narrowed := true }
def ReelRowsUptoSaid : Prop := reelRowsUptoRow.holds Tryd.pinned (OpenSpec.upto reelRowsSpec)

/-- 'hourglasslaw06.ReelGoes', WHERE WHAT IT READS IS OF BULK AT MOST 1048576: true; the input reads as it did. -/
def reelGoesUptoRow : OpenClaim := { program := "ytacfkhnajdneeaadoor", sum := "4f973c578e353816a6a4a6e99b5840f588115dcf20dfc1a294ed071f46139f86", func := "hourglass/hourglasslaw06.ReelGoes", spec := "reelGoes", inPlace := ["internal/bytealg.MakeNoZero"], recurses := true, named := ["unicode/utf8.first", "unicode/utf8.acceptRanges"], apart := false, laid := [("unicode/utf8.acceptRanges", laid_unicode_utf8_acceptRanges), ("unicode/utf8.first", laid_unicode_utf8_first)], narrowed := true }
def ReelGoesUptoSaid : Prop := reelGoesUptoRow.holds Tryd.pinned (OpenSpec.upto reelGoesSpec)

/-- 'hourglasslaw06.ReelFull', WHERE WHAT IT READS IS OF BULK AT MOST 1048576: true; the input reads as it did. -/
def reelFullUptoRow : OpenClaim := { program := "ytacfkhnajdneeaadoor", sum := "4f973c578e353816a6a4a6e99b5840f588115dcf20dfc1a294ed071f46139f86", func := "hourglass/hourglasslaw06.ReelFull", spec := "reelFull", inPlace := ["internal/bytealg.MakeNoZero"], recurses := true, named := ["unicode/utf8.first", "unicode/utf8.acceptRanges"], apart := false, laid := [("unicode/utf8.acceptRanges", laid_unicode_utf8_acceptRanges), ("unicode/utf8.first", laid_unicode_utf8_first)], narrowed := true }
def ReelFullUptoSaid : Prop := reelFullUptoRow.holds Tryd.pinned (OpenSpec.upto reelFullSpec)

/-- 'hourglasslaw06.ReelHolds', WHERE WHAT IT READS IS OF BULK AT MOST 1048576: true; the input reads as it did. -/
def reelHoldsUptoRow : OpenClaim := { program := "ytacfkhnajdneeaadoor", sum := "4f973c578e353816a6a4a6e99b5840f588115dcf20dfc1a294ed071f46139f86", func := "hourglass/hourglasslaw06.ReelHolds", spec := "reelHolds", inPlace := ["internal/bytealg.MakeNoZero"], recurses := true, named := ["unicode/utf8.first", "unicode/utf8.acceptRanges"], apart := false, laid := [("unicode/utf8.acceptRanges", laid_unicode_utf8_acceptRanges), ("unicode/utf8.first", laid_unicode_utf8_first)], narrowed := true }
def ReelHoldsUptoSaid : Prop := reelHoldsUptoRow.holds Tryd.pinned (OpenSpec.upto reelHoldsSpec)

/-- 'hourglasslaw06.ReelArgs', WHERE WHAT IT READS IS OF BULK AT MOST 1048576: true; the input reads as it did. -/
def reelArgsUptoRow : OpenClaim := { program := "ytacfkhnajdneeaadoor", sum := "4f973c578e353816a6a4a6e99b5840f588115dcf20dfc1a294ed071f46139f86", func := "hourglass/hourglasslaw06.ReelArgs", spec := "reelArgs", inPlace := ["internal/bytealg.MakeNoZero"], named := ["unicode/utf8.first", "unicode/utf8.acceptRanges"], apart := false, laid := [("unicode/utf8.acceptRanges", laid_unicode_utf8_acceptRanges), ("unicode/utf8.first", laid_unicode_utf8_first)], narrowed := true }
def ReelArgsUptoSaid : Prop := reelArgsUptoRow.holds Tryd.pinned (OpenSpec.upto reelArgsSpec)

/-- 'hourglasslaw06.ReelReads', WHERE WHAT IT READS IS OF BULK AT MOST 1048576: true; the input reads as it did. -/
def reelReadsUptoRow : OpenClaim := { program := "ytacfkhnajdneeaadoor", sum := "4f973c578e353816a6a4a6e99b5840f588115dcf20dfc1a294ed071f46139f86", func := "hourglass/hourglasslaw06.ReelReads", spec := "reelReads", inPlace := ["internal/bytealg.MakeNoZero"], named := ["unicode/utf8.first", "unicode/utf8.acceptRanges"], apart := false, laid := [("unicode/utf8.acceptRanges", laid_unicode_utf8_acceptRanges), ("unicode/utf8.first", laid_unicode_utf8_first)], narrowed := true }
def ReelReadsUptoSaid : Prop := reelReadsUptoRow.holds Tryd.pinned (OpenSpec.upto reelReadsSpec)

/-- 'hourglasslaw06.ReelRots', WHERE WHAT IT READS IS OF BULK AT MOST 1048576: true; the input reads as it did. -/
def reelRotsUptoRow : OpenClaim := { program := "ytacfkhnajdneeaadoor", sum := "4f973c578e353816a6a4a6e99b5840f588115dcf20dfc1a294ed071f46139f86", func := "hourglass/hourglasslaw06.ReelRots", spec := "reelRots", inPlace := ["internal/bytealg.MakeNoZero"], named := ["unicode/utf8.first", "unicode/utf8.acceptRanges"], apart := false, laid := [("unicode/utf8.acceptRanges", laid_unicode_utf8_acceptRanges), ("unicode/utf8.first", laid_unicode_utf8_first)], narrowed := true }
def ReelRotsUptoSaid : Prop := reelRotsUptoRow.holds Tryd.pinned (OpenSpec.upto reelRotsSpec)

end Rows
end Go.Proofs.YtacfkhnajdneeaaDoor
