/- Walk: the document's example. -/
import Derived.Test.YtbbhbbcbaliplaaSeal
import Derived.Lib.SlBytesConst
namespace Go.Proofs.Ytbbhbbcbaliplaa
open Go.RowKit

theorem lit_one (l : List UInt8) (ns : List Int) (h : ns = l.map fun b => (b.toNat : Int)) : ns.map (Value.int .u8) = l.map B8 := by
  subst h
  rw [List.map_map]
  rfl

theorem convert_const (w : World) (C : Array Value) (n c k : Nat) (hk : k = w.heap.size) :
    (convert 22 22 (.slice (some ⟨k, 0, none⟩) n c)).run Try.prog (w.alloc (.cells C 5)) = .ok (.slice (some ⟨k, 0, none⟩) n c) (w.alloc (.cells C 5 (C.size, C.size + 1))) := by
  subst hk
  exact Lib.run_convert_bytes_const (P := Try.prog) w 22 5 C n c Try.underlying22 Try.underlying5

/-- a literal of bytes that is read, the cells behind it marked as never written -/
theorem bytes_frozen (w : World) (cs : Array Value) (l : List UInt8) (e n k : Nat) (fr : Nat × Nat) (h : cs.toList = l.map B8) (hn : n = l.length) (hm : l.length ≤ maxLen) (hk : k = w.heap.size) :
    Bytes (w.alloc (.cells cs e fr)) (.slice (some ⟨k, 0, none⟩) n n) l := by
  subst hn hk
  refine ⟨_, _, rfl, hm, Nat.le_refl _, fun h => (by cases h), .inr ⟨_, _, rfl, fun j x hx => ⟨B8 x, ?_, rfl⟩⟩⟩
  rw [Nat.zero_add, cell_of_row _ _ j cs e fr (heap_alloc_new w _), ← Array.getElem?_toList, h, List.getElem?_map, hx]
  rfl

set_option maxRecDepth 10000 in
set_option maxHeartbeats 400000 in
theorem awake_any (w : World) :
    Calls Try.prog 7 #[] w fun e w' => e = .returned (.bool true) ∧ Below w.heap.size w w' := by
  have hcrc : crc8 [49, 50, 51, 52, 53, 54, 55, 56, 57] = 3421780262 := by decide +kernel
  have HC := Lib.hid hcrc
  clear hcrc
  have kc := convert_const
  go_enter Try.func7, Try.ntmps7
  go_wp2_with fail
  refine (make_any _).mono ?_
  rintro e w1 ⟨rfl, hb⟩
  go_wp2_with fail
  have h1 : Bytes (w1.alloc (.cells #[.int .u8 49, .int .u8 50, .int .u8 51, .int .u8 52, .int .u8 53] 5 (5, 6))) (.slice (some ⟨w1.heap.size, 0, none⟩) 5 5) [49, 50, 51, 52, 53] :=
    bytes_frozen _ _ _ _ _ _ _ rfl rfl (by simp [maxLen]) rfl
  have h2 : Bytes ((w1.alloc (.cells #[.int .u8 49, .int .u8 50, .int .u8 51, .int .u8 52, .int .u8 53] 5 (5, 6))).alloc (.cells #[.int .u8 54, .int .u8 55, .int .u8 56, .int .u8 57] 5 (4, 5))) (.slice (some ⟨w1.heap.size + 1, 0, none⟩) 4 4) [54, 55, 56, 57] :=
    bytes_frozen _ _ [54, 55, 56, 57] _ _ _ _ rfl rfl (by simp [maxLen]) (by simp)
  have h3 := rows_lit2 _ _ _ _ _ 22 (w1.heap.size + 1 + 1) (by simp) (h1.below ((Below.refl _ _).alloc (Nat.le_refl _) _)) h2
  refine (sum_any _ _ _ h3).mono ?_
  rintro e w2 ⟨rfl, rfl⟩
  have hb5 : Below w.heap.size w ((((w1.alloc (.cells #[.int .u8 49, .int .u8 50, .int .u8 51, .int .u8 52, .int .u8 53] 5 (5, 6))).alloc (.cells #[.int .u8 54, .int .u8 55, .int .u8 56, .int .u8 57] 5 (4, 5))).alloc (.cells #[.slice (some ⟨w1.heap.size, 0, none⟩) 5 5, .slice (some ⟨w1.heap.size + 1, 0, none⟩) 4 4] 22)).alloc (.cells tab 28)) := by
    have := hb.size
    exact (((hb.alloc (by omega) _).alloc (by simp; omega) _).alloc (by simp; omega) _).alloc (by simp; omega) _
  have hcrc := HC.out
  have hfl : [[49, 50, 51, 52, 53], [54, 55, 56, 57]].flatten = ([49, 50, 51, 52, 53, 54, 55, 56, 57] : List UInt8) := rfl
  rw [hfl, hcrc]
  clear hcrc hfl h1 h2 h3 kc
  go_wp2
  go_ret
  exact ⟨rfl, hb5⟩
end Go.Proofs.Ytbbhbbcbaliplaa
