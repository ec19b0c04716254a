/- The words: of the kinds of operations, of the language. -/
import Derived.Test.YtminfdlhbecnhaaGreatDoorLays
namespace Go.Proofs.YtminfdlhbecnhaaGreatDoor
open Go.RowKit

def opWords : List (List UInt8) := [[114, 101, 110, 97, 109, 101, 45, 109, 111, 100, 117, 108, 101],
  [114, 101, 110, 97, 109, 101, 45, 102, 117, 110, 99],
  [114, 101, 110, 97, 109, 101, 45, 112, 97, 114, 97, 109],
  [114, 101, 110, 97, 109, 101, 45, 108, 101, 116],
  [109, 111, 118, 101, 45, 102, 117, 110, 99],
  [101, 120, 116, 114, 97, 99, 116, 45, 108, 101, 116],
  [105, 110, 108, 105, 110, 101, 45, 108, 101, 116],
  [101, 120, 116, 114, 97, 99, 116, 45, 102, 117, 110, 99],
  [105, 110, 108, 105, 110, 101, 45, 99, 97, 108, 108],
  [97, 100, 100, 45, 109, 111, 100, 117, 108, 101],
  [100, 114, 111, 112, 45, 109, 111, 100, 117, 108, 101],
  [100, 114, 111, 112, 45, 102, 117, 110, 99],
  [102, 108, 105, 112, 45, 105, 102],
  [115, 119, 97, 112, 45, 112, 97, 114, 116, 115]]
def opParts : List (List UInt8) := [[65, 78],
  [65, 78],
  [65, 78],
  [65, 78],
  [65, 66],
  [65, 78],
  [65],
  [65, 66, 78],
  [65],
  [78],
  [65],
  [65],
  [65],
  [65]]
def tokWords : List (List UInt8) := [[98, 111, 111, 108],
  [100, 111],
  [101, 108, 115, 101],
  [102, 97, 108, 115, 101],
  [102, 117, 110, 99],
  [105, 102],
  [105, 110, 116],
  [108, 101, 116],
  [109, 111, 100, 117, 108, 101],
  [112, 114, 105, 110, 116],
  [114, 101, 97, 100],
  [114, 101, 116, 117, 114, 110],
  [116, 114, 117, 101],
  [119, 104, 105, 108, 101]]
/-- a kind's word -/
def wordOf (k : Nat) : List UInt8 := if k = 0 then [] else opWords.getD (k - 1) []
/-- what it has -/
def partsOf (k : Nat) : List UInt8 := if k = 0 then [] else opParts.getD (k - 1) []


/-- strings that lie in a row -/
theorem strs_cell {w : World} {n e : Nat} {ls : List (List UInt8)} (h : w.heap[n]? = some (.cells (ls.map strV).toArray e (0, 0))) (j : Nat) (hj : j < ls.length) : w.cell? ⟨n, j, none⟩ = some (strV (ls.getD j [])) := by
  rw [cell_of_row w n j _ _ _ h]
  simp [List.getD_eq_getElem?_getD, List.getElem?_eq_getElem hj]

set_option maxRecDepth 100000 in
set_option maxHeartbeats 1600000 in
theorem word_any (k : Nat) (hk : k < 256) (w : World) (hsp : Sp w) : Calls Tryz.prog 18 #[.int .u8 k] w fun e w' => e = .returned (strV (wordOf k)) ∧ Below w.heap.size w w' := by
  go_enter Tryz.func18, Tryz.ntmps18
  go_wp2_with fail
  refine (fields_is _ opWords 14 w hsp (by kernel_rfl) rfl (of_decide_eq_true (by kernel_rfl)) (by kernel_rfl)).mono ?_
  rintro e w1 ⟨rfl, rfl⟩
  have hb := bal (bre w) (.cells (opWords.map strV).toArray 9)
  have hrow := heap_alloc_new w (.cells (opWords.map strV).toArray 9)
  generalize w.alloc (.cells (opWords.map strV).toArray 9) = W at *
  obtain ⟨n, hn⟩ : ∃ n, n = w.heap.size := ⟨_, rfl⟩
  rw [← hn] at hrow ⊢
  have HB := Lib.hid hb
  clear hb hsp hn
  by_cases h0 : k = 0
  · subst h0
    go_wp2_with fail
    go_ret
    exact ⟨by first | rfl | (rw [HW.out]; rfl), HB.out⟩
  by_cases h14 : 14 < k
  · have hd : decide ((14 : Int) < k) = true := decide_eq_true (by omega)
    have hd0 : decide ((k : Int) < 1) = false := decide_eq_false (by omega)
    have hw : wordOf k = [] := by
      unfold wordOf
      rw [if_neg h0, List.getD_eq_getElem?_getD, List.getElem?_eq_none (by show 14 ≤ k - 1; omega)]
      rfl
    have HW := Lib.hid hw
    clear hw h0 h14
    go_wp2_with fail
    go_ret
    exact ⟨by first | rfl | (rw [HW.out]; rfl), HB.out⟩
  · obtain ⟨j, rfl⟩ : ∃ j, k = j + 1 := ⟨k - 1, by omega⟩
    have hd : decide ((14 : Int) < ((j + 1 : Nat) : Int)) = false := decide_eq_false (by omega)
    have hd0 : decide ((((j + 1 : Nat) : Int)) < 1) = false := decide_eq_false (by omega)
    have hc := strs_cell hrow j (by show j < 14; omega)
    have hw : wordOf (j + 1) = opWords.getD j [] := by unfold wordOf; rw [if_neg h0]; rfl
    have hj : j < 14 := by omega
    generalize opWords.getD j [] = x at *
    have HW := Lib.hid hw
    unfold strV at hc
    clear hw h0 h14 hrow
    go_wp2_with fail
    go_ret
    exact ⟨by first | rfl | (rw [HW.out]; rfl), HB.out⟩
end Go.Proofs.YtminfdlhbecnhaaGreatDoor
