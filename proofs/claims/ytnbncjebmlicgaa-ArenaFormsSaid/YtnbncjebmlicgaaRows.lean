/-
  No cell of these rows narrows 'for every input' (looked for: loops, veiled, ifaces, maps, wideKeys, modest, calm, conditions, laid).
  DERIVED. THE GIVEN ROWS OF THIS SEAT. 5 by the template 'for every input the law returns true; each argument reads behind the call as it read before'; 0 by the template 'total and deterministic' (their statements: YtnbncjebmlicgaaTotals.lean).
  GIVEN WITH THE SEED: the statements are not yours to turn. If you find one false, say at which input.
  Laid BY PROGRAM, IN A SANDBOX (cutbox-rows.mjs): the forced cells as the released guide's own fill.sh prints them over the translation 0e02b58260f7105a… (all of the seat's roots in one cut). By AI agents, Wed Nov 11 2026. No macro, syntax, notation, axiom, sorry.
-/
import Derived.Test.YtnbncjebmlicgaaChecked
import GoSem.Claim
import GoSem.ClaimJoined
import GoSem.ClaimMapViews
import Derived.JoinedTies
import Derived.KernelRfl
namespace Go.Proofs.Ytnbncjebmlicgaa
/- THE CELL 'sum', in the pinned program and in every row, IS THE sha256 OF THE DUMP (.gsa) THAT YtnbncjebmlicgaaProg.lean LOADS. Nothing in Lean hashes anything: it is a label: what it is worth is what the hold of that sum in a sandbox is worth. -/
noncomputable def Try.pinned : Pinned := { name := "ytnbncjebmlicgaa", sum := "0e02b58260f7105a3edf844b9d87e535b96b184d99c62c69a9979973d8bcc681", checked := Try.checked }
namespace Rows
def none {H : Type} : Left H := { results := [], args := [] }

/-- 'hourglasslaw07.ArenaDeep': WHATEVER THE INPUT: true; the input reads as it did. -/
def arenaDeepSpec : ChangeSpec := { name := "arenaDeep", fn := fun _ => fun
  | [d1, d2] => { results := [.lit (.bool true)], args := [d1, d2] }
  | _ => none }
def arenaDeepRow : OpenClaim := { program := "ytnbncjebmlicgaa", sum := "0e02b58260f7105a3edf844b9d87e535b96b184d99c62c69a9979973d8bcc681", func := "hourglass/hourglasslaw07.ArenaDeep", spec := "arenaDeep", inPlace := ["maps.clone"], unfollowed := true, recurses := true, apart := false }
def ArenaDeepSaid : Prop := arenaDeepRow.holds Try.pinned (OpenSpec.ofChange arenaDeepSpec)

/-- ITS FALSE NEIGHBOUR: 'it returns false'. Refute it at one input. -/
def arenaDeepWrong : ChangeSpec := { name := "arenaDeep", fn := fun _ => fun
  | [d1, d2] => { results := [.lit (.bool false)], args := [d1, d2] }
  | _ => none }
def ArenaDeepWrongFalsely : Prop := arenaDeepRow.holds Try.pinned (OpenSpec.ofChange arenaDeepWrong)

/-- 'hourglasslaw07.ArenaPuts': WHATEVER THE INPUT: true; the input reads as it did. -/
def arenaPutsSpec : ChangeSpec := { name := "arenaPuts", fn := fun _ => fun
  | [d1, d2, d3] => { results := [.lit (.bool true)], args := [d1, d2, d3] }
  | _ => none }
def arenaPutsRow : OpenClaim := { program := "ytnbncjebmlicgaa", sum := "0e02b58260f7105a3edf844b9d87e535b96b184d99c62c69a9979973d8bcc681", func := "hourglass/hourglasslaw07.ArenaPuts", spec := "arenaPuts", unfollowed := true, recurses := true, apart := false }
def ArenaPutsSaid : Prop := arenaPutsRow.holds Try.pinned (OpenSpec.ofChange arenaPutsSpec)

/-- ITS FALSE NEIGHBOUR: 'it returns false'. Refute it at one input. -/
def arenaPutsWrong : ChangeSpec := { name := "arenaPuts", fn := fun _ => fun
  | [d1, d2, d3] => { results := [.lit (.bool false)], args := [d1, d2, d3] }
  | _ => none }
def ArenaPutsWrongFalsely : Prop := arenaPutsRow.holds Try.pinned (OpenSpec.ofChange arenaPutsWrong)

/-- 'hourglasslaw07.ArenaDrops': WHATEVER THE INPUT: true; the input reads as it did. -/
def arenaDropsSpec : ChangeSpec := { name := "arenaDrops", fn := fun _ => fun
  | [d1, d2] => { results := [.lit (.bool true)], args := [d1, d2] }
  | _ => none }
def arenaDropsRow : OpenClaim := { program := "ytnbncjebmlicgaa", sum := "0e02b58260f7105a3edf844b9d87e535b96b184d99c62c69a9979973d8bcc681", func := "hourglass/hourglasslaw07.ArenaDrops", spec := "arenaDrops", inPlace := ["maps.clone"], unfollowed := true, recurses := true, apart := false }
def ArenaDropsSaid : Prop := arenaDropsRow.holds Try.pinned (OpenSpec.ofChange arenaDropsSpec)

/-- ITS FALSE NEIGHBOUR: 'it returns false'. Refute it at one input. -/
def arenaDropsWrong : ChangeSpec := { name := "arenaDrops", fn := fun _ => fun
  | [d1, d2] => { results := [.lit (.bool false)], args := [d1, d2] }
  | _ => none }
def ArenaDropsWrongFalsely : Prop := arenaDropsRow.holds Try.pinned (OpenSpec.ofChange arenaDropsWrong)

/-- 'hourglasslaw07.ArenaSame': WHATEVER THE INPUT: true; the input reads as it did. -/
def arenaSameSpec : ChangeSpec := { name := "arenaSame", fn := fun _ => fun
  | [d1, d2, d3] => { results := [.lit (.bool true)], args := [d1, d2, d3] }
  | _ => none }
def arenaSameRow : OpenClaim := { program := "ytnbncjebmlicgaa", sum := "0e02b58260f7105a3edf844b9d87e535b96b184d99c62c69a9979973d8bcc681", func := "hourglass/hourglasslaw07.ArenaSame", spec := "arenaSame", inPlace := ["maps.clone"], unfollowed := true, recurses := true, apart := false }
def ArenaSameSaid : Prop := arenaSameRow.holds Try.pinned (OpenSpec.ofChange arenaSameSpec)

/-- ITS FALSE NEIGHBOUR: 'it returns false'. Refute it at one input. -/
def arenaSameWrong : ChangeSpec := { name := "arenaSame", fn := fun _ => fun
  | [d1, d2, d3] => { results := [.lit (.bool false)], args := [d1, d2, d3] }
  | _ => none }
def ArenaSameWrongFalsely : Prop := arenaSameRow.holds Try.pinned (OpenSpec.ofChange arenaSameWrong)

/-- 'hourglasslaw07.ArenaForms': WHATEVER THE INPUT: true; the input reads as it did. -/
def arenaFormsSpec : ChangeSpec := { name := "arenaForms", fn := fun _ => fun
  | [d1, d2, d3, d4] => { results := [.lit (.bool true)], args := [d1, d2, d3, d4] }
  | _ => none }
def arenaFormsRow : OpenClaim := { program := "ytnbncjebmlicgaa", sum := "0e02b58260f7105a3edf844b9d87e535b96b184d99c62c69a9979973d8bcc681", func := "hourglass/hourglasslaw07.ArenaForms", spec := "arenaForms", unfollowed := true, recurses := true, apart := false }
def ArenaFormsSaid : Prop := arenaFormsRow.holds Try.pinned (OpenSpec.ofChange arenaFormsSpec)

/-- ITS FALSE NEIGHBOUR: 'it returns false'. Refute it at one input. -/
def arenaFormsWrong : ChangeSpec := { name := "arenaForms", fn := fun _ => fun
  | [d1, d2, d3, d4] => { results := [.lit (.bool false)], args := [d1, d2, d3, d4] }
  | _ => none }
def ArenaFormsWrongFalsely : Prop := arenaFormsRow.holds Try.pinned (OpenSpec.ofChange arenaFormsWrong)

/- THE SECOND FORM. 'bulk': how many values and letters a reading holds, each counted each time it is reached (what is shared counts as often as it is met; a slice's spare places count too). A statement '..UptoSaid' is the law's where the arguments, and the package variables that the reading takes, are together of bulk at most 1048576: NARROWER than '..Said'. Prove '..Said' where nothing that the law and all that it calls make is longer than what came in: it says more and counts as full. Else prove '..UptoSaid'. A law counts once. -/
mutual
def uptoBulk {H : Type} : DataW H → Nat
  | .lit (.string bytes) => bytes.length + 1
  | .lit _ => 1
  | .nil => 1
  | .ptr d => uptoBulk d + 1
  | .slice elems spare => uptoBulkAll elems + uptoBulkAll spare + 1
  | .agg parts => uptoBulkAll parts + 1
  | .iface _ d => uptoBulk d + 1
  | .map entries => uptoBulkEntries entries + 1
  | .held _ => 1
def uptoBulkAll {H : Type} : List (DataW H) → Nat
  | [] => 0
  | d :: r => uptoBulk d + uptoBulkAll r
def uptoBulkEntries {H : Type} : List (Lit × DataW H) → Nat
  | [] => 0
  | x :: r => uptoBulkEntry x + uptoBulkEntries r
def uptoBulkEntry {H : Type} : Lit × DataW H → Nat
  | (.string bytes, d) => bytes.length + uptoBulk d + 1
  | (_, d) => uptoBulk d + 1
 end
def uptoSmall : (H : Type) → List (DataW H) → Bool := fun _ ds => decide (uptoBulkAll ds ≤ 1048576)
def OpenSpec.upto (s : _root_.Go.ChangeSpec) : _root_.Go.OpenSpec := { _root_.Go.OpenSpec.ofChange s with cond := some uptoSmall }

/-- 'hourglasslaw07.ArenaDeep', WHERE WHAT IT READS IS OF BULK AT MOST 1048576: true; the input reads as it did. -/
def arenaDeepUptoRow : OpenClaim := { program := "ytnbncjebmlicgaa", sum := "0e02b58260f7105a3edf844b9d87e535b96b184d99c62c69a9979973d8bcc681", func := "hourglass/hourglasslaw07.ArenaDeep", spec := "arenaDeep", inPlace := ["maps.clone"], unfollowed := true, recurses := true, apart := false, narrowed := true }
def ArenaDeepUptoSaid : Prop := arenaDeepUptoRow.holds Try.pinned (OpenSpec.upto arenaDeepSpec)

/-- 'hourglasslaw07.ArenaPuts', WHERE WHAT IT READS IS OF BULK AT MOST 1048576: true; the input reads as it did. -/
def arenaPutsUptoRow : OpenClaim := { program := "ytnbncjebmlicgaa", sum := "0e02b58260f7105a3edf844b9d87e535b96b184d99c62c69a9979973d8bcc681", func := "hourglass/hourglasslaw07.ArenaPuts", spec := "arenaPuts", unfollowed := true, recurses := true, apart := false, narrowed := true }
def ArenaPutsUptoSaid : Prop := arenaPutsUptoRow.holds Try.pinned (OpenSpec.upto arenaPutsSpec)

/-- 'hourglasslaw07.ArenaDrops', WHERE WHAT IT READS IS OF BULK AT MOST 1048576: true; the input reads as it did. -/
def arenaDropsUptoRow : OpenClaim := { program := "ytnbncjebmlicgaa", sum := "0e02b58260f7105a3edf844b9d87e535b96b184d99c62c69a9979973d8bcc681", func := "hourglass/hourglasslaw07.ArenaDrops", spec := "arenaDrops", inPlace := ["maps.clone"], unfollowed := true, recurses := true, apart := false, narrowed := true }
def ArenaDropsUptoSaid : Prop := arenaDropsUptoRow.holds Try.pinned (OpenSpec.upto arenaDropsSpec)

/-- 'hourglasslaw07.ArenaSame', WHERE WHAT IT READS IS OF BULK AT MOST 1048576: true; the input reads as it did. -/
def arenaSameUptoRow : OpenClaim := { program := "ytnbncjebmlicgaa", sum := "0e02b58260f7105a3edf844b9d87e535b96b184d99c62c69a9979973d8bcc681", func := "hourglass/hourglasslaw07.ArenaSame", spec := "arenaSame", inPlace := ["maps.clone"], unfollowed := true, recurses := true, apart := false, narrowed := true }
def ArenaSameUptoSaid : Prop := arenaSameUptoRow.holds Try.pinned (OpenSpec.upto arenaSameSpec)

/-- 'hourglasslaw07.ArenaForms', WHERE WHAT IT READS IS OF BULK AT MOST 1048576: true; the input reads as it did. -/
def arenaFormsUptoRow : OpenClaim := { program := "ytnbncjebmlicgaa", sum := "0e02b58260f7105a3edf844b9d87e535b96b184d99c62c69a9979973d8bcc681", func := "hourglass/hourglasslaw07.ArenaForms", spec := "arenaForms", unfollowed := true, recurses := true, apart := false, narrowed := true }
def ArenaFormsUptoSaid : Prop := arenaFormsUptoRow.holds Try.pinned (OpenSpec.upto arenaFormsSpec)

end Rows
end Go.Proofs.Ytnbncjebmlicgaa
