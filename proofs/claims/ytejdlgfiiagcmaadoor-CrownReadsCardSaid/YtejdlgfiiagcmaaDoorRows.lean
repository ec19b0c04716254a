/-
  NARROWER THAN 'FOR EVERY INPUT', by the rows' own cells (each row's printed sentence says how): CrownReads: laid · CrownHalves: laid · CrownFormats: laid · CrownRots: laid · CrownHolds: laid.
  DERIVED. THE GIVEN ROWS OF THIS SEAT. 5 by the template 'for every input the law returns true; each argument reads behind the call as it read before'; 0 by the template 'total and deterministic' (their statements: YtejdlgfiiagcmaaDoorTotals.lean).
  GIVEN WITH THE SEED: the statements are not yours to turn. If you find one false, say at which input.
  Laid BY PROGRAM, IN A SANDBOX (cutbox-rows.mjs): the forced cells as the released guide's own fill.sh prints them over the translation 160793f943e7016c… (all of the seat's roots in one cut). By AI agents, Wed Nov 11 2026. No macro, syntax, notation, axiom, sorry.
-/
import Derived.Test.YtejdlgfiiagcmaaDoorChecked
import GoSem.PinnedTables
import GoSem.Claim
import GoSem.ClaimJoined
import GoSem.ClaimMapViews
import Derived.JoinedTies
import Derived.KernelRfl
namespace Go.Proofs.YtejdlgfiiagcmaaDoor
/- THE CELL 'sum', in the pinned program and in every row, IS THE sha256 OF THE DUMP (.gsa) THAT YtejdlgfiiagcmaaDoorProg.lean LOADS. Nothing in Lean hashes anything: it is a label: what it is worth is what the hold of that sum in a sandbox is worth. -/
noncomputable def Tryd.pinned : Pinned := { name := "ytejdlgfiiagcmaadoor", sum := "160793f943e7016c8949eb18bd1fd4b823ff5b2ff160e49de9700cdb9b2f7a0d", checked := Tryd.checked }
namespace Rows
def none {H : Type} : Left H := { results := [], args := [] }

/- WHAT THE LISTED PACKAGE-LEVEL VARIABLES READ AS WHEN THE CALL BEGINS. Each datum BY PROGRAM (the guide's laid-datum.mjs) off the statement by which the dump's own 'gosem.cut.vars' lays the variable. In a bare row this is a premise. The card (YtejdlgfiiagcmaaDoorCards.lean) ties it to the program's text. -/
def laid_unicode_utf8_acceptRanges {H : Type} : DataW H := .agg [.agg [.lit (.int .u8 128), .lit (.int .u8 191)], .agg [.lit (.int .u8 160), .lit (.int .u8 191)], .agg [.lit (.int .u8 128), .lit (.int .u8 159)], .agg [.lit (.int .u8 144), .lit (.int .u8 191)], .agg [.lit (.int .u8 128), .lit (.int .u8 143)], .agg [.lit (.int .u8 0), .lit (.int .u8 0)], .agg [.lit (.int .u8 0), .lit (.int .u8 0)], .agg [.lit (.int .u8 0), .lit (.int .u8 0)], .agg [.lit (.int .u8 0), .lit (.int .u8 0)], .agg [.lit (.int .u8 0), .lit (.int .u8 0)], .agg [.lit (.int .u8 0), .lit (.int .u8 0)], .agg [.lit (.int .u8 0), .lit (.int .u8 0)], .agg [.lit (.int .u8 0), .lit (.int .u8 0)], .agg [.lit (.int .u8 0), .lit (.int .u8 0)], .agg [.lit (.int .u8 0), .lit (.int .u8 0)], .agg [.lit (.int .u8 0), .lit (.int .u8 0)]]
/-- One of Go's own tables, pinned by name: the form's constant. -/
def laid_unicode_utf8_first : DataW Unit := Go.Pinned.utf8First

/-- 'hourglasslaw04.CrownReads': WHATEVER THE INPUT: true; the input reads as it did. -/
def crownReadsSpec : ChangeSpec := { name := "crownReads", fn := fun _ => fun
  | [d1, d2, d3, d4, d5, d6] => { results := [.lit (.bool true)], args := [d1, d2, d3, d4, d5, d6] }
  | _ => none }
def crownReadsRow : OpenClaim := { program := "ytejdlgfiiagcmaadoor", sum := "160793f943e7016c8949eb18bd1fd4b823ff5b2ff160e49de9700cdb9b2f7a0d", func := "hourglass/hourglasslaw04.CrownReads", spec := "crownReads", inPlace := ["internal/bytealg.MakeNoZero"], named := ["unicode/utf8.first", "unicode/utf8.acceptRanges"], apart := false, laid := [("unicode/utf8.acceptRanges", laid_unicode_utf8_acceptRanges), ("unicode/utf8.first", laid_unicode_utf8_first)] }
def CrownReadsSaid : Prop := crownReadsRow.holds Tryd.pinned (OpenSpec.ofChange crownReadsSpec)

/-- ITS FALSE NEIGHBOUR: 'it returns false'. Refute it at one input. -/
def crownReadsWrong : ChangeSpec := { name := "crownReads", fn := fun _ => fun
  | [d1, d2, d3, d4, d5, d6] => { results := [.lit (.bool false)], args := [d1, d2, d3, d4, d5, d6] }
  | _ => none }
def CrownReadsWrongFalsely : Prop := crownReadsRow.holds Tryd.pinned (OpenSpec.ofChange crownReadsWrong)

/-- 'hourglasslaw04.CrownHalves': WHATEVER THE INPUT: true; the input reads as it did. -/
def crownHalvesSpec : ChangeSpec := { name := "crownHalves", fn := fun _ => fun
  | [d1, d2] => { results := [.lit (.bool true)], args := [d1, d2] }
  | _ => none }
def crownHalvesRow : OpenClaim := { program := "ytejdlgfiiagcmaadoor", sum := "160793f943e7016c8949eb18bd1fd4b823ff5b2ff160e49de9700cdb9b2f7a0d", func := "hourglass/hourglasslaw04.CrownHalves", spec := "crownHalves", inPlace := ["internal/bytealg.MakeNoZero"], named := ["unicode/utf8.first", "unicode/utf8.acceptRanges"], apart := false, laid := [("unicode/utf8.acceptRanges", laid_unicode_utf8_acceptRanges), ("unicode/utf8.first", laid_unicode_utf8_first)] }
def CrownHalvesSaid : Prop := crownHalvesRow.holds Tryd.pinned (OpenSpec.ofChange crownHalvesSpec)

/-- ITS FALSE NEIGHBOUR: 'it returns false'. Refute it at one input. -/
def crownHalvesWrong : ChangeSpec := { name := "crownHalves", fn := fun _ => fun
  | [d1, d2] => { results := [.lit (.bool false)], args := [d1, d2] }
  | _ => none }
def CrownHalvesWrongFalsely : Prop := crownHalvesRow.holds Tryd.pinned (OpenSpec.ofChange crownHalvesWrong)

/-- 'hourglasslaw04.CrownFormats': WHATEVER THE INPUT: true; the input reads as it did. -/
def crownFormatsSpec : ChangeSpec := { name := "crownFormats", fn := fun _ => fun
  | [d1, d2, d3] => { results := [.lit (.bool true)], args := [d1, d2, d3] }
  | _ => none }
def crownFormatsRow : OpenClaim := { program := "ytejdlgfiiagcmaadoor", sum := "160793f943e7016c8949eb18bd1fd4b823ff5b2ff160e49de9700cdb9b2f7a0d", func := "hourglass/hourglasslaw04.CrownFormats", spec := "crownFormats", inPlace := ["internal/bytealg.MakeNoZero"], named := ["unicode/utf8.first", "unicode/utf8.acceptRanges"], apart := false, laid := [("unicode/utf8.acceptRanges", laid_unicode_utf8_acceptRanges), ("unicode/utf8.first", laid_unicode_utf8_first)] }
def CrownFormatsSaid : Prop := crownFormatsRow.holds Tryd.pinned (OpenSpec.ofChange crownFormatsSpec)

/-- ITS FALSE NEIGHBOUR: 'it returns false'. Refute it at one input. -/
def crownFormatsWrong : ChangeSpec := { name := "crownFormats", fn := fun _ => fun
  | [d1, d2, d3] => { results := [.lit (.bool false)], args := [d1, d2, d3] }
  | _ => none }
def CrownFormatsWrongFalsely : Prop := crownFormatsRow.holds Tryd.pinned (OpenSpec.ofChange crownFormatsWrong)

/-- 'hourglasslaw04.CrownRots': WHATEVER THE INPUT: true; the input reads as it did. -/
def crownRotsSpec : ChangeSpec := { name := "crownRots", fn := fun _ => fun
  | [d1, d2, d3, d4] => { results := [.lit (.bool true)], args := [d1, d2, d3, d4] }
  | _ => none }
def crownRotsRow : OpenClaim := { program := "ytejdlgfiiagcmaadoor", sum := "160793f943e7016c8949eb18bd1fd4b823ff5b2ff160e49de9700cdb9b2f7a0d", func := "hourglass/hourglasslaw04.CrownRots", spec := "crownRots", inPlace := ["internal/bytealg.MakeNoZero"], named := ["unicode/utf8.first", "unicode/utf8.acceptRanges"], apart := false, laid := [("unicode/utf8.acceptRanges", laid_unicode_utf8_acceptRanges), ("unicode/utf8.first", laid_unicode_utf8_first)] }
def CrownRotsSaid : Prop := crownRotsRow.holds Tryd.pinned (OpenSpec.ofChange crownRotsSpec)

/-- ITS FALSE NEIGHBOUR: 'it returns false'. Refute it at one input. -/
def crownRotsWrong : ChangeSpec := { name := "crownRots", fn := fun _ => fun
  | [d1, d2, d3, d4] => { results := [.lit (.bool false)], args := [d1, d2, d3, d4] }
  | _ => none }
def CrownRotsWrongFalsely : Prop := crownRotsRow.holds Tryd.pinned (OpenSpec.ofChange crownRotsWrong)

/-- 'hourglasslaw04.CrownHolds': WHATEVER THE INPUT: true; the input reads as it did. -/
def crownHoldsSpec : ChangeSpec := { name := "crownHolds", fn := fun _ => fun
  | [d1, d2, d3] => { results := [.lit (.bool true)], args := [d1, d2, d3] }
  | _ => none }
def crownHoldsRow : OpenClaim := { program := "ytejdlgfiiagcmaadoor", sum := "160793f943e7016c8949eb18bd1fd4b823ff5b2ff160e49de9700cdb9b2f7a0d", func := "hourglass/hourglasslaw04.CrownHolds", spec := "crownHolds", inPlace := ["internal/bytealg.MakeNoZero"], named := ["unicode/utf8.first", "unicode/utf8.acceptRanges"], apart := false, laid := [("unicode/utf8.acceptRanges", laid_unicode_utf8_acceptRanges), ("unicode/utf8.first", laid_unicode_utf8_first)] }
def CrownHoldsSaid : Prop := crownHoldsRow.holds Tryd.pinned (OpenSpec.ofChange crownHoldsSpec)

/-- ITS FALSE NEIGHBOUR: 'it returns false'. Refute it at one input. -/
def crownHoldsWrong : ChangeSpec := { name := "crownHolds", fn := fun _ => fun
  | [d1, d2, d3] => { results := [.lit (.bool false)], args := [d1, d2, d3] }
  | _ => none }
def CrownHoldsWrongFalsely : Prop := crownHoldsRow.holds Tryd.pinned (OpenSpec.ofChange crownHoldsWrong)

/- THE SECOND FORM. 'bulk': how many values and letters a reading holds, each counted each time it is reached (what is shared counts as often as it is met; a slice's spare places count too). A statement '..UptoSaid' is the law's where the arguments, and the package variables that the reading takes, are together of bulk at most 1048576: NARROWER than '..Said'. Prove '..Said' where nothing that the law and all that it calls make is longer than what came in: it says more and counts as full. Else prove '..UptoSaid'. A law counts once. -/
mutual
def uptoBulk {H : Type} : DataW H → Nat
  | .lit (.string bytes) => bytes.length + 1
  | .lit _ => 1
  | .nil => 1
  | .ptr d => uptoBulk d + 1
  | .slice elems spare => uptoBulkAll elems + uptoBulkAll spare + 1
  | .agg parts => uptoBulkAll parts + 1
  | .iface _ d => uptoBulk d + 1
  | .map entries => uptoBulkEntries entries + 1
  | .held _ => 1
def uptoBulkAll {H : Type} : List (DataW H) → Nat
  | [] => 0
  | d :: r => uptoBulk d + uptoBulkAll r
def uptoBulkEntries {H : Type} : List (Lit × DataW H) → Nat
  | [] => 0
  | x :: r => uptoBulkEntry x + uptoBulkEntries r
def uptoBulkEntry {H : Type} : Lit × DataW H → Nat
  | (.string bytes, d) => bytes.length + uptoBulk d + 1
  | (_, d) => uptoBulk d + 1
 end
def uptoSmall : (H : Type) → List (DataW H) → Bool := fun _ ds => decide (uptoBulkAll ds ≤ 1048576)
def OpenSpec.upto (s : _root_.Go.ChangeSpec) : _root_.Go.OpenSpec := { _root_.Go.OpenSpec.ofChange s with cond := some uptoSmall }

/-- 'hourglasslaw04.CrownReads', WHERE WHAT IT READS IS OF BULK AT MOST 1048576: true; the input reads as it did. -/
def crownReadsUptoRow : OpenClaim := { program := "ytejdlgfiiagcmaadoor", sum := "160793f943e7016c8949eb18bd1fd4b823ff5b2ff160e49de9700cdb9b2f7a0d", func := "hourglass/hourglasslaw04.CrownReads", spec := "crownReads", inPlace := ["internal/bytealg.MakeNoZero"], named := ["unicode/utf8.first", "unicode/utf8.acceptRanges"], apart := false, laid := [("unicode/utf8.acceptRanges", laid_unicode_utf8_acceptRanges), ("unicode/utf8.first", laid_unicode_utf8_first)], narrowed := true }
def CrownReadsUptoSaid : Prop := crownReadsUptoRow.holds Tryd.pinned (OpenSpec.upto crownReadsSpec)

/-- 'hourglasslaw04.CrownHalves', WHERE WHAT IT READS IS OF BULK AT MOST 1048576: true; the input reads as it did. -/
def crownHalvesUptoRow : OpenClaim := { program := "ytejdlgfiiagcmaadoor", sum := "160793f943e7016c8949eb18bd1fd4b823ff5b2ff160e49de9700cdb9b2f7a0d", func := "hourglass/hourglasslaw04.CrownHalves", spec := "crownHalves", inPlace := ["internal/bytealg.MakeNoZero"], named := ["unicode/utf8.first", "unicode/utf8.acceptRanges"], apart := false, laid := [("unicode/utf8.acceptRanges", laid_unicode_utf8_acceptRanges), ("unicode/utf8.first", laid_unicode_utf8_first)], narrowed := true }
def CrownHalvesUptoSaid : Prop := crownHalvesUptoRow.holds Tryd.pinned (OpenSpec.upto crownHalvesSpec)

/-- 'hourglasslaw04.CrownFormats', WHERE WHAT IT READS IS OF BULK AT MOST 1048576: true; the input reads as it did. -/
def crownFormatsUptoRow : OpenClaim := { program := "ytejdlgfiiagcmaadoor", sum := "160793f943e7016c8949eb18bd1fd4b823ff5b2ff160e49de9700cdb9b2f7a0d", func := "hourglass/hourglasslaw04.CrownFormats", spec := "crownFormats", inPlace := ["internal/bytealg.MakeNoZero"], named := ["unicode/utf8.first", "unicode/utf8.acceptRanges"], apart := false, laid := [("unicode/utf8.acceptRanges", laid_unicode_utf8_acceptRanges), ("unicode/utf8.first", laid_unicode_utf8_first)], narrowed := true }
def CrownFormatsUptoSaid : Prop := crownFormatsUptoRow.holds Tryd.pinned (OpenSpec.upto crownFormatsSpec)

/-- 'hourglasslaw04.CrownRots', WHERE WHAT IT READS IS OF BULK AT MOST 1048576: true; the input reads as it did. -/
def crownRotsUptoRow : OpenClaim := { program := "ytejdlgfiiagcmaadoor", sum := "160793f943e7016c8949eb18bd1fd4b823ff5b2ff160e49de9700cdb9b2f7a0d", func := "hourglass/hourglasslaw04.CrownRots", spec := "crownRots", inPlace := ["internal/bytealg.MakeNoZero"], named := ["unicode/utf8.first", "unicode/utf8.acceptRanges"], apart := false, laid := [("unicode/utf8.acceptRanges", laid_unicode_utf8_acceptRanges), ("unicode/utf8.first", laid_unicode_utf8_first)], narrowed := true }
def CrownRotsUptoSaid : Prop := crownRotsUptoRow.holds Tryd.pinned (OpenSpec.upto crownRotsSpec)

/-- 'hourglasslaw04.CrownHolds', WHERE WHAT IT READS IS OF BULK AT MOST 1048576: true; the input reads as it did. -/
def crownHoldsUptoRow : OpenClaim := { program := "ytejdlgfiiagcmaadoor", sum := "160793f943e7016c8949eb18bd1fd4b823ff5b2ff160e49de9700cdb9b2f7a0d", func := "hourglass/hourglasslaw04.CrownHolds", spec := "crownHolds", inPlace := ["internal/bytealg.MakeNoZero"], named := ["unicode/utf8.first", "unicode/utf8.acceptRanges"], apart := false, laid := [("unicode/utf8.acceptRanges", laid_unicode_utf8_acceptRanges), ("unicode/utf8.first", laid_unicode_utf8_first)], narrowed := true }
def CrownHoldsUptoSaid : Prop := crownHoldsUptoRow.holds Tryd.pinned (OpenSpec.upto crownHoldsSpec)

end Rows
end Go.Proofs.YtejdlgfiiagcmaaDoor
