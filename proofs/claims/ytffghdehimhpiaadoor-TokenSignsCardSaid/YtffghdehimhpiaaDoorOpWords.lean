/- The words: of the kinds of operations, of the language. -/
import Derived.Test.YtffghdehimhpiaaDoorLays
namespace Go.Proofs.YtffghdehimhpiaaDoor
open Go.RowKit

def opWords : List (List UInt8) := [[114, 101, 110, 97, 109, 101, 45, 109, 111, 100, 117, 108, 101],
  [114, 101, 110, 97, 109, 101, 45, 102, 117, 110, 99],
  [114, 101, 110, 97, 109, 101, 45, 112, 97, 114, 97, 109],
  [114, 101, 110, 97, 109, 101, 45, 108, 101, 116],
  [109, 111, 118, 101, 45, 102, 117, 110, 99],
  [101, 120, 116, 114, 97, 99, 116, 45, 108, 101, 116],
  [105, 110, 108, 105, 110, 101, 45, 108, 101, 116],
  [101, 120, 116, 114, 97, 99, 116, 45, 102, 117, 110, 99],
  [105, 110, 108, 105, 110, 101, 45, 99, 97, 108, 108],
  [97, 100, 100, 45, 109, 111, 100, 117, 108, 101],
  [100, 114, 111, 112, 45, 109, 111, 100, 117, 108, 101],
  [100, 114, 111, 112, 45, 102, 117, 110, 99],
  [102, 108, 105, 112, 45, 105, 102],
  [115, 119, 97, 112, 45, 112, 97, 114, 116, 115]]
def opParts : List (List UInt8) := [[65, 78],
  [65, 78],
  [65, 78],
  [65, 78],
  [65, 66],
  [65, 78],
  [65],
  [65, 66, 78],
  [65],
  [78],
  [65],
  [65],
  [65],
  [65]]
def tokWords : List (List UInt8) := [[98, 111, 111, 108],
  [100, 111],
  [101, 108, 115, 101],
  [102, 97, 108, 115, 101],
  [102, 117, 110, 99],
  [105, 102],
  [105, 110, 116],
  [108, 101, 116],
  [109, 111, 100, 117, 108, 101],
  [112, 114, 105, 110, 116],
  [114, 101, 97, 100],
  [114, 101, 116, 117, 114, 110],
  [116, 114, 117, 101],
  [119, 104, 105, 108, 101]]
/-- a kind's word -/
def wordOf (k : Nat) : List UInt8 := if k = 0 then [] else opWords.getD (k - 1) []
/-- what it has -/
def partsOf (k : Nat) : List UInt8 := if k = 0 then [] else opParts.getD (k - 1) []


/-- strings that lie in a row -/
theorem strs_cell {w : World} {n e : Nat} {ls : List (List UInt8)} (h : w.heap[n]? = some (.cells (ls.map strV).toArray e (0, 0))) (j : Nat) (hj : j < ls.length) : w.cell? ⟨n, j, none⟩ = some (strV (ls.getD j [])) := by
  rw [cell_of_row w n j _ _ _ h]
  simp [List.getD_eq_getElem?_getD, List.getElem?_eq_getElem hj]

end Go.Proofs.YtffghdehimhpiaaDoor
