/-
  No cell of these rows narrows 'for every input' (looked for: loops, veiled, ifaces, maps, wideKeys, modest, calm, conditions, laid).
  DERIVED. THE GIVEN ROWS OF THIS SEAT. 5 by the template 'for every input the law returns true; each argument reads behind the call as it read before'; 0 by the template 'total and deterministic' (their statements: YtddhnenlfdpomaaTotals.lean).
  GIVEN WITH THE SEED: the statements are not yours to turn. If you find one false, say at which input.
  Laid BY PROGRAM, IN A SANDBOX (cutbox-rows.mjs): the forced cells as the released guide's own fill.sh prints them over the translation b0d38cf06556fb55… (all of the seat's roots in one cut). By AI agents, Wed Nov 11 2026. No macro, syntax, notation, axiom, sorry.
-/
import Derived.Test.YtddhnenlfdpomaaChecked
import GoSem.Claim
import GoSem.ClaimJoined
import GoSem.ClaimMapViews
import Derived.JoinedTies
import Derived.KernelRfl
namespace Go.Proofs.Ytddhnenlfdpomaa
/- THE CELL 'sum', in the pinned program and in every row, IS THE sha256 OF THE DUMP (.gsa) THAT YtddhnenlfdpomaaProg.lean LOADS. Nothing in Lean hashes anything: it is a label: what it is worth is what the hold of that sum in a sandbox is worth. -/
noncomputable def Try.pinned : Pinned := { name := "ytddhnenlfdpomaa", sum := "b0d38cf06556fb554d63a1bbbd0231b84c026ba265f9c500aa447d8216c4a107", checked := Try.checked }
namespace Rows
def none {H : Type} : Left H := { results := [], args := [] }

/-- 'hourglasslaw05.TapeSizes': WHATEVER THE INPUT: true; the input reads as it did. -/
def tapeSizesSpec : ChangeSpec := { name := "tapeSizes", fn := fun _ => fun
  | [d1, d2, d3] => { results := [.lit (.bool true)], args := [d1, d2, d3] }
  | _ => none }
def tapeSizesRow : OpenClaim := { program := "ytddhnenlfdpomaa", sum := "b0d38cf06556fb554d63a1bbbd0231b84c026ba265f9c500aa447d8216c4a107", func := "hourglass/hourglasslaw05.TapeSizes", spec := "tapeSizes", apart := false }
def TapeSizesSaid : Prop := tapeSizesRow.holds Try.pinned (OpenSpec.ofChange tapeSizesSpec)

/-- ITS FALSE NEIGHBOUR: 'it returns false'. Refute it at one input. -/
def tapeSizesWrong : ChangeSpec := { name := "tapeSizes", fn := fun _ => fun
  | [d1, d2, d3] => { results := [.lit (.bool false)], args := [d1, d2, d3] }
  | _ => none }
def TapeSizesWrongFalsely : Prop := tapeSizesRow.holds Try.pinned (OpenSpec.ofChange tapeSizesWrong)

/-- 'hourglasslaw05.TapeTakes': WHATEVER THE INPUT: true; the input reads as it did. -/
def tapeTakesSpec : ChangeSpec := { name := "tapeTakes", fn := fun _ => fun
  | [d1, d2] => { results := [.lit (.bool true)], args := [d1, d2] }
  | _ => none }
def tapeTakesRow : OpenClaim := { program := "ytddhnenlfdpomaa", sum := "b0d38cf06556fb554d63a1bbbd0231b84c026ba265f9c500aa447d8216c4a107", func := "hourglass/hourglasslaw05.TapeTakes", spec := "tapeTakes", apart := false }
def TapeTakesSaid : Prop := tapeTakesRow.holds Try.pinned (OpenSpec.ofChange tapeTakesSpec)

/-- ITS FALSE NEIGHBOUR: 'it returns false'. Refute it at one input. -/
def tapeTakesWrong : ChangeSpec := { name := "tapeTakes", fn := fun _ => fun
  | [d1, d2] => { results := [.lit (.bool false)], args := [d1, d2] }
  | _ => none }
def TapeTakesWrongFalsely : Prop := tapeTakesRow.holds Try.pinned (OpenSpec.ofChange tapeTakesWrong)

/-- 'hourglasslaw05.TapeOne': WHATEVER THE INPUT: true; the input reads as it did. -/
def tapeOneSpec : ChangeSpec := { name := "tapeOne", fn := fun _ => fun
  | [d1, d2] => { results := [.lit (.bool true)], args := [d1, d2] }
  | _ => none }
def tapeOneRow : OpenClaim := { program := "ytddhnenlfdpomaa", sum := "b0d38cf06556fb554d63a1bbbd0231b84c026ba265f9c500aa447d8216c4a107", func := "hourglass/hourglasslaw05.TapeOne", spec := "tapeOne", apart := false }
def TapeOneSaid : Prop := tapeOneRow.holds Try.pinned (OpenSpec.ofChange tapeOneSpec)

/-- ITS FALSE NEIGHBOUR: 'it returns false'. Refute it at one input. -/
def tapeOneWrong : ChangeSpec := { name := "tapeOne", fn := fun _ => fun
  | [d1, d2] => { results := [.lit (.bool false)], args := [d1, d2] }
  | _ => none }
def TapeOneWrongFalsely : Prop := tapeOneRow.holds Try.pinned (OpenSpec.ofChange tapeOneWrong)

/-- 'hourglasslaw05.TapeLays': WHATEVER THE INPUT: true; the input reads as it did. -/
def tapeLaysSpec : ChangeSpec := { name := "tapeLays", fn := fun _ => fun
  | [d] => { results := [.lit (.bool true)], args := [d] }
  | _ => none }
def tapeLaysRow : OpenClaim := { program := "ytddhnenlfdpomaa", sum := "b0d38cf06556fb554d63a1bbbd0231b84c026ba265f9c500aa447d8216c4a107", func := "hourglass/hourglasslaw05.TapeLays", spec := "tapeLays", recurses := true, apart := false }
def TapeLaysSaid : Prop := tapeLaysRow.holds Try.pinned (OpenSpec.ofChange tapeLaysSpec)

/-- ITS FALSE NEIGHBOUR: 'it returns false'. Refute it at one input. -/
def tapeLaysWrong : ChangeSpec := { name := "tapeLays", fn := fun _ => fun
  | [d] => { results := [.lit (.bool false)], args := [d] }
  | _ => none }
def TapeLaysWrongFalsely : Prop := tapeLaysRow.holds Try.pinned (OpenSpec.ofChange tapeLaysWrong)

/-- 'hourglasslaw05.TapeNil': WHATEVER THE INPUT: true; the input reads as it did. -/
def tapeNilSpec : ChangeSpec := { name := "tapeNil", fn := fun _ => fun
  | [d1, d2] => { results := [.lit (.bool true)], args := [d1, d2] }
  | _ => none }
def tapeNilRow : OpenClaim := { program := "ytddhnenlfdpomaa", sum := "b0d38cf06556fb554d63a1bbbd0231b84c026ba265f9c500aa447d8216c4a107", func := "hourglass/hourglasslaw05.TapeNil", spec := "tapeNil", recurses := true, apart := false }
def TapeNilSaid : Prop := tapeNilRow.holds Try.pinned (OpenSpec.ofChange tapeNilSpec)

/-- ITS FALSE NEIGHBOUR: 'it returns false'. Refute it at one input. -/
def tapeNilWrong : ChangeSpec := { name := "tapeNil", fn := fun _ => fun
  | [d1, d2] => { results := [.lit (.bool false)], args := [d1, d2] }
  | _ => none }
def TapeNilWrongFalsely : Prop := tapeNilRow.holds Try.pinned (OpenSpec.ofChange tapeNilWrong)

/- THE SECOND FORM. 'bulk': how many values and letters a reading holds, each counted each time it is reached (what is shared counts as often as it is met; a slice's spare places count too). A statement '..UptoSaid' is the law's where the arguments, and the package variables that the reading takes, are together of bulk at most 1048576: NARROWER than '..Said'. Prove '..Said' where nothing that the law and all that it calls make is longer than what came in: it says more and counts as full. Else prove '..UptoSaid'. A law counts once. -/
mutual
def uptoBulk {H : Type} : DataW H → Nat
  | .lit (.string bytes) => bytes.length + 1
  | .lit _ => 1
  | .nil => 1
  | .ptr d => uptoBulk d + 1
  | .slice elems spare => uptoBulkAll elems + uptoBulkAll spare + 1
  | .agg parts => uptoBulkAll parts + 1
  | .iface _ d => uptoBulk d + 1
  | .map entries => uptoBulkEntries entries + 1
  | .held _ => 1
def uptoBulkAll {H : Type} : List (DataW H) → Nat
  | [] => 0
  | d :: r => uptoBulk d + uptoBulkAll r
def uptoBulkEntries {H : Type} : List (Lit × DataW H) → Nat
  | [] => 0
  | x :: r => uptoBulkEntry x + uptoBulkEntries r
def uptoBulkEntry {H : Type} : Lit × DataW H → Nat
  | (.string bytes, d) => bytes.length + uptoBulk d + 1
  | (_, d) => uptoBulk d + 1
 end
def uptoSmall : (H : Type) → List (DataW H) → Bool := fun _ ds => decide (uptoBulkAll ds ≤ 1048576)
def OpenSpec.upto (s : _root_.Go.ChangeSpec) : _root_.Go.OpenSpec := { _root_.Go.OpenSpec.ofChange s with cond := some uptoSmall }

/-- 'hourglasslaw05.TapeSizes', WHERE WHAT IT READS IS OF BULK AT MOST 1048576: true; the input reads as it did. -/
def tapeSizesUptoRow : OpenClaim := { program := "ytddhnenlfdpomaa", sum := "b0d38cf06556fb554d63a1bbbd0231b84c026ba265f9c500aa447d8216c4a107", func := "hourglass/hourglasslaw05.TapeSizes", spec := "tapeSizes", apart := false, narrowed := true }
def TapeSizesUptoSaid : Prop := tapeSizesUptoRow.holds Try.pinned (OpenSpec.upto tapeSizesSpec)

/-- 'hourglasslaw05.TapeTakes', WHERE WHAT IT READS IS OF BULK AT MOST 1048576: true; the input reads as it did. -/
def tapeTakesUptoRow : OpenClaim := { program := "ytddhnenlfdpomaa", sum := "b0d38cf06556fb554d63a1bbbd0231b84c026ba265f9c500aa447d8216c4a107", func := "hourglass/hourglasslaw05.TapeTakes", spec := "tapeTakes", apart := false, narrowed := true }
def TapeTakesUptoSaid : Prop := tapeTakesUptoRow.holds Try.pinned (OpenSpec.upto tapeTakesSpec)

/-- 'hourglasslaw05.TapeOne', WHERE WHAT IT READS IS OF BULK AT MOST 1048576: true; the input reads as it did. -/
def tapeOneUptoRow : OpenClaim := { program := "ytddhnenlfdpomaa", sum := "b0d38cf06556fb554d63a1bbbd0231b84c026ba265f9c500aa447d8216c4a107", func := "hourglass/hourglasslaw05.TapeOne", spec := "tapeOne", apart := false, narrowed := true }
def TapeOneUptoSaid : Prop := tapeOneUptoRow.holds Try.pinned (OpenSpec.upto tapeOneSpec)

/-- 'hourglasslaw05.TapeLays', WHERE WHAT IT READS IS OF BULK AT MOST 1048576: true; the input reads as it did. -/
def tapeLaysUptoRow : OpenClaim := { program := "ytddhnenlfdpomaa", sum := "b0d38cf06556fb554d63a1bbbd0231b84c026ba265f9c500aa447d8216c4a107", func := "hourglass/hourglasslaw05.TapeLays", spec := "tapeLays", recurses := true, apart := false, narrowed := true }
def TapeLaysUptoSaid : Prop := tapeLaysUptoRow.holds Try.pinned (OpenSpec.upto tapeLaysSpec)

/-- 'hourglasslaw05.TapeNil', WHERE WHAT IT READS IS OF BULK AT MOST 1048576: true; the input reads as it did. -/
def tapeNilUptoRow : OpenClaim := { program := "ytddhnenlfdpomaa", sum := "b0d38cf06556fb554d63a1bbbd0231b84c026ba265f9c500aa447d8216c4a107", func := "hourglass/hourglasslaw05.TapeNil", spec := "tapeNil", recurses := true, apart := false, narrowed := true }
def TapeNilUptoSaid : Prop := tapeNilUptoRow.holds Try.pinned (OpenSpec.upto tapeNilSpec)

end Rows
end Go.Proofs.Ytddhnenlfdpomaa
