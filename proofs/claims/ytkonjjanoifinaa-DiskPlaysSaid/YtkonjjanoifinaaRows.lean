/-
  No cell of these rows narrows 'for every input' (looked for: loops, veiled, ifaces, maps, wideKeys, modest, calm, conditions, laid).
  DERIVED. THE GIVEN ROWS OF THIS SEAT. 6 by the template 'for every input the law returns true; each argument reads behind the call as it read before'; 0 by the template 'total and deterministic' (their statements: YtkonjjanoifinaaTotals.lean).
  GIVEN WITH THE SEED: the statements are not yours to turn. If you find one false, say at which input.
  Laid BY PROGRAM, IN A SANDBOX (cutbox-rows.mjs): the forced cells as the released guide's own fill.sh prints them over the translation cf15632c379ff1df… (all of the seat's roots in one cut). By AI agents, Wed Nov 11 2026. No macro, syntax, notation, axiom, sorry.
-/
import Derived.Test.YtkonjjanoifinaaChecked
import GoSem.Claim
import GoSem.ClaimJoined
import GoSem.ClaimMapViews
import Derived.JoinedTies
import Derived.KernelRfl
namespace Go.Proofs.Ytkonjjanoifinaa
/- THE CELL 'sum', in the pinned program and in every row, IS THE sha256 OF THE DUMP (.gsa) THAT YtkonjjanoifinaaProg.lean LOADS. Nothing in Lean hashes anything: it is a label: what it is worth is what the hold of that sum in a sandbox is worth. -/
noncomputable def Try.pinned : Pinned := { name := "ytkonjjanoifinaa", sum := "cf15632c379ff1dfce5f10b7471cfbcf7a75cbc3c9a85b3a91b32847cce69f50", checked := Try.checked }
namespace Rows
def none {H : Type} : Left H := { results := [], args := [] }

/-- 'hourglasslaw01.DiskLimits': WHATEVER THE INPUT: true; the input reads as it did. -/
def diskLimitsSpec : ChangeSpec := { name := "diskLimits", fn := fun _ => fun
  | [d1, d2, d3] => { results := [.lit (.bool true)], args := [d1, d2, d3] }
  | _ => none }
def diskLimitsRow : OpenClaim := { program := "ytkonjjanoifinaa", sum := "cf15632c379ff1dfce5f10b7471cfbcf7a75cbc3c9a85b3a91b32847cce69f50", func := "hourglass/hourglasslaw01.DiskLimits", spec := "diskLimits", apart := false }
def DiskLimitsSaid : Prop := diskLimitsRow.holds Try.pinned (OpenSpec.ofChange diskLimitsSpec)

/-- ITS FALSE NEIGHBOUR: 'it returns false'. Refute it at one input. -/
def diskLimitsWrong : ChangeSpec := { name := "diskLimits", fn := fun _ => fun
  | [d1, d2, d3] => { results := [.lit (.bool false)], args := [d1, d2, d3] }
  | _ => none }
def DiskLimitsWrongFalsely : Prop := diskLimitsRow.holds Try.pinned (OpenSpec.ofChange diskLimitsWrong)

/-- 'hourglasslaw01.DiskKeeps': WHATEVER THE INPUT: true; the input reads as it did. -/
def diskKeepsSpec : ChangeSpec := { name := "diskKeeps", fn := fun _ => fun
  | [d1, d2, d3, d4, d5] => { results := [.lit (.bool true)], args := [d1, d2, d3, d4, d5] }
  | _ => none }
def diskKeepsRow : OpenClaim := { program := "ytkonjjanoifinaa", sum := "cf15632c379ff1dfce5f10b7471cfbcf7a75cbc3c9a85b3a91b32847cce69f50", func := "hourglass/hourglasslaw01.DiskKeeps", spec := "diskKeeps", apart := false }
def DiskKeepsSaid : Prop := diskKeepsRow.holds Try.pinned (OpenSpec.ofChange diskKeepsSpec)

/-- ITS FALSE NEIGHBOUR: 'it returns false'. Refute it at one input. -/
def diskKeepsWrong : ChangeSpec := { name := "diskKeeps", fn := fun _ => fun
  | [d1, d2, d3, d4, d5] => { results := [.lit (.bool false)], args := [d1, d2, d3, d4, d5] }
  | _ => none }
def DiskKeepsWrongFalsely : Prop := diskKeepsRow.holds Try.pinned (OpenSpec.ofChange diskKeepsWrong)

/-- 'hourglasslaw01.DiskOrders': WHATEVER THE INPUT: true; the input reads as it did. -/
def diskOrdersSpec : ChangeSpec := { name := "diskOrders", fn := fun _ => fun
  | [d1, d2] => { results := [.lit (.bool true)], args := [d1, d2] }
  | _ => none }
def diskOrdersRow : OpenClaim := { program := "ytkonjjanoifinaa", sum := "cf15632c379ff1dfce5f10b7471cfbcf7a75cbc3c9a85b3a91b32847cce69f50", func := "hourglass/hourglasslaw01.DiskOrders", spec := "diskOrders", apart := false }
def DiskOrdersSaid : Prop := diskOrdersRow.holds Try.pinned (OpenSpec.ofChange diskOrdersSpec)

/-- ITS FALSE NEIGHBOUR: 'it returns false'. Refute it at one input. -/
def diskOrdersWrong : ChangeSpec := { name := "diskOrders", fn := fun _ => fun
  | [d1, d2] => { results := [.lit (.bool false)], args := [d1, d2] }
  | _ => none }
def DiskOrdersWrongFalsely : Prop := diskOrdersRow.holds Try.pinned (OpenSpec.ofChange diskOrdersWrong)

/-- 'hourglasslaw01.DiskOwns': WHATEVER THE INPUT: true; the input reads as it did. -/
def diskOwnsSpec : ChangeSpec := { name := "diskOwns", fn := fun _ => fun
  | [d1, d2] => { results := [.lit (.bool true)], args := [d1, d2] }
  | _ => none }
def diskOwnsRow : OpenClaim := { program := "ytkonjjanoifinaa", sum := "cf15632c379ff1dfce5f10b7471cfbcf7a75cbc3c9a85b3a91b32847cce69f50", func := "hourglass/hourglasslaw01.DiskOwns", spec := "diskOwns", apart := false }
def DiskOwnsSaid : Prop := diskOwnsRow.holds Try.pinned (OpenSpec.ofChange diskOwnsSpec)

/-- ITS FALSE NEIGHBOUR: 'it returns false'. Refute it at one input. -/
def diskOwnsWrong : ChangeSpec := { name := "diskOwns", fn := fun _ => fun
  | [d1, d2] => { results := [.lit (.bool false)], args := [d1, d2] }
  | _ => none }
def DiskOwnsWrongFalsely : Prop := diskOwnsRow.holds Try.pinned (OpenSpec.ofChange diskOwnsWrong)

/-- 'hourglasslaw01.DiskPlays': WHATEVER THE INPUT: true; the input reads as it did. -/
def diskPlaysSpec : ChangeSpec := { name := "diskPlays", fn := fun _ => fun
  | [d1, d2] => { results := [.lit (.bool true)], args := [d1, d2] }
  | _ => none }
def diskPlaysRow : OpenClaim := { program := "ytkonjjanoifinaa", sum := "cf15632c379ff1dfce5f10b7471cfbcf7a75cbc3c9a85b3a91b32847cce69f50", func := "hourglass/hourglasslaw01.DiskPlays", spec := "diskPlays", apart := false }
def DiskPlaysSaid : Prop := diskPlaysRow.holds Try.pinned (OpenSpec.ofChange diskPlaysSpec)

/-- ITS FALSE NEIGHBOUR: 'it returns false'. Refute it at one input. -/
def diskPlaysWrong : ChangeSpec := { name := "diskPlays", fn := fun _ => fun
  | [d1, d2] => { results := [.lit (.bool false)], args := [d1, d2] }
  | _ => none }
def DiskPlaysWrongFalsely : Prop := diskPlaysRow.holds Try.pinned (OpenSpec.ofChange diskPlaysWrong)

/-- 'hourglasslaw01.DiskArgs': WHATEVER THE INPUT: true; the input reads as it did. -/
def diskArgsSpec : ChangeSpec := { name := "diskArgs", fn := fun _ => fun
  | [d1, d2, d3, d4, d5] => { results := [.lit (.bool true)], args := [d1, d2, d3, d4, d5] }
  | _ => none }
def diskArgsRow : OpenClaim := { program := "ytkonjjanoifinaa", sum := "cf15632c379ff1dfce5f10b7471cfbcf7a75cbc3c9a85b3a91b32847cce69f50", func := "hourglass/hourglasslaw01.DiskArgs", spec := "diskArgs", apart := false }
def DiskArgsSaid : Prop := diskArgsRow.holds Try.pinned (OpenSpec.ofChange diskArgsSpec)

/-- ITS FALSE NEIGHBOUR: 'it returns false'. Refute it at one input. -/
def diskArgsWrong : ChangeSpec := { name := "diskArgs", fn := fun _ => fun
  | [d1, d2, d3, d4, d5] => { results := [.lit (.bool false)], args := [d1, d2, d3, d4, d5] }
  | _ => none }
def DiskArgsWrongFalsely : Prop := diskArgsRow.holds Try.pinned (OpenSpec.ofChange diskArgsWrong)

/- THE SECOND FORM. 'bulk': how many values and letters a reading holds, each counted each time it is reached (what is shared counts as often as it is met; a slice's spare places count too). A statement '..UptoSaid' is the law's where the arguments, and the package variables that the reading takes, are together of bulk at most 1048576: NARROWER than '..Said'. Prove '..Said' where nothing that the law and all that it calls make is longer than what came in: it says more and counts as full. Else prove '..UptoSaid'. A law counts once. -/
mutual
def uptoBulk {H : Type} : DataW H → Nat
  | .lit (.string bytes) => bytes.length + 1
  | .lit _ => 1
  | .nil => 1
  | .ptr d => uptoBulk d + 1
  | .slice elems spare => uptoBulkAll elems + uptoBulkAll spare + 1
  | .agg parts => uptoBulkAll parts + 1
  | .iface _ d => uptoBulk d + 1
  | .map entries => uptoBulkEntries entries + 1
  | .held _ => 1
def uptoBulkAll {H : Type} : List (DataW H) → Nat
  | [] => 0
  | d :: r => uptoBulk d + uptoBulkAll r
def uptoBulkEntries {H : Type} : List (Lit × DataW H) → Nat
  | [] => 0
  | x :: r => uptoBulkEntry x + uptoBulkEntries r
def uptoBulkEntry {H : Type} : Lit × DataW H → Nat
  | (.string bytes, d) => bytes.length + uptoBulk d + 1
  | (_, d) => uptoBulk d + 1
 end
def uptoSmall : (H : Type) → List (DataW H) → Bool := fun _ ds => decide (uptoBulkAll ds ≤ 1048576)
def OpenSpec.upto (s : _root_.Go.ChangeSpec) : _root_.Go.OpenSpec := { _root_.Go.OpenSpec.ofChange s with cond := some uptoSmall }

/-- 'hourglasslaw01.DiskLimits', WHERE WHAT IT READS IS OF BULK AT MOST 1048576: true; the input reads as it did. -/
def diskLimitsUptoRow : OpenClaim := { program := "ytkonjjanoifinaa", sum := "cf15632c379ff1dfce5f10b7471cfbcf7a75cbc3c9a85b3a91b32847cce69f50", func := "hourglass/hourglasslaw01.DiskLimits", spec := "diskLimits", apart := false, narrowed := true }
def DiskLimitsUptoSaid : Prop := diskLimitsUptoRow.holds Try.pinned (OpenSpec.upto diskLimitsSpec)

/-- 'hourglasslaw01.DiskKeeps', WHERE WHAT IT READS IS OF BULK AT MOST 1048576: true; the input reads as it did. -/
def diskKeepsUptoRow : OpenClaim := { program := "ytkonjjanoifinaa", sum := "cf15632c379ff1dfce5f10b7471cfbcf7a75cbc3c9a85b3a91b32847cce69f50", func := "hourglass/hourglasslaw01.DiskKeeps", spec := "diskKeeps", apart := false, narrowed := true }
def DiskKeepsUptoSaid : Prop := diskKeepsUptoRow.holds Try.pinned (OpenSpec.upto diskKeepsSpec)

/-- 'hourglasslaw01.DiskOrders', WHERE WHAT IT READS IS OF BULK AT MOST 1048576: true; the input reads as it did. -/
def diskOrdersUptoRow : OpenClaim := { program := "ytkonjjanoifinaa", sum := "cf15632c379ff1dfce5f10b7471cfbcf7a75cbc3c9a85b3a91b32847cce69f50", func := "hourglass/hourglasslaw01.DiskOrders", spec := "diskOrders", apart := false, narrowed := true }
def DiskOrdersUptoSaid : Prop := diskOrdersUptoRow.holds Try.pinned (OpenSpec.upto diskOrdersSpec)

/-- 'hourglasslaw01.DiskOwns', WHERE WHAT IT READS IS OF BULK AT MOST 1048576: true; the input reads as it did. -/
def diskOwnsUptoRow : OpenClaim := { program := "ytkonjjanoifinaa", sum := "cf15632c379ff1dfce5f10b7471cfbcf7a75cbc3c9a85b3a91b32847cce69f50", func := "hourglass/hourglasslaw01.DiskOwns", spec := "diskOwns", apart := false, narrowed := true }
def DiskOwnsUptoSaid : Prop := diskOwnsUptoRow.holds Try.pinned (OpenSpec.upto diskOwnsSpec)

/-- 'hourglasslaw01.DiskPlays', WHERE WHAT IT READS IS OF BULK AT MOST 1048576: true; the input reads as it did. -/
def diskPlaysUptoRow : OpenClaim := { program := "ytkonjjanoifinaa", sum := "cf15632c379ff1dfce5f10b7471cfbcf7a75cbc3c9a85b3a91b32847cce69f50", func := "hourglass/hourglasslaw01.DiskPlays", spec := "diskPlays", apart := false, narrowed := true }
def DiskPlaysUptoSaid : Prop := diskPlaysUptoRow.holds Try.pinned (OpenSpec.upto diskPlaysSpec)

/-- 'hourglasslaw01.DiskArgs', WHERE WHAT IT READS IS OF BULK AT MOST 1048576: true; the input reads as it did. -/
def diskArgsUptoRow : OpenClaim := { program := "ytkonjjanoifinaa", sum := "cf15632c379ff1dfce5f10b7471cfbcf7a75cbc3c9a85b3a91b32847cce69f50", func := "hourglass/hourglasslaw01.DiskArgs", spec := "diskArgs", apart := false, narrowed := true }
def DiskArgsUptoSaid : Prop := diskArgsUptoRow.holds Try.pinned (OpenSpec.upto diskArgsSpec)

end Rows
end Go.Proofs.Ytkonjjanoifinaa
