/- Walks: a writer's Int, Text, Byte, Bool, Bytes. -/
import Derived.Test.YtminfdlhbecnhaaGreatDoorWNum
namespace Go.Proofs.YtminfdlhbecnhaaGreatDoor
open Go.RowKit

/-- an int as a number: its sign lowest -/
def zig (n : Int) : Nat := if n < 0 then (-2 * n - 1).toNat else (2 * n).toNat

theorem zig_lt {n : Int} (h0 : -9223372036854775808 ≤ n) (h1 : n ≤ 9223372036854775807) : zig n < 18446744073709551616 := by
  unfold zig; split <;> omega

theorem not64 (s : Nat) (hs : s < 18446744073709551616) : s ^^^ 18446744073709551615 = 18446744073709551615 - s := by
  have e2 : 18446744073709551615 - s = 2 ^ 64 - (s + 1) := by omega
  rw [e2, show (18446744073709551615 : Nat) = 2 ^ 64 - 1 by decide]
  apply Nat.eq_of_testBit_eq
  intro i
  rw [Nat.testBit_xor, Nat.testBit_two_pow_sub_one, Nat.testBit_two_pow_sub_succ (by omega)]
  by_cases hi : i < 64
  · simp [hi]
  · have h : s.testBit i = false := Nat.testBit_lt_two_pow (Nat.lt_of_lt_of_le hs (by
      have := Nat.pow_le_pow_right (n := 2) (by omega) (show 64 ≤ i by omega)
      omega))
    simp [hi, h]

theorem zig_bits (n : Int) (h0 : -9223372036854775808 ≤ n) (h1 : n ≤ 9223372036854775807) :
    bits .xor .u64 (IntKind.u64.wrap (IntKind.u64.wrap n * 2)) (IntKind.u64.wrap (n / 9223372036854775808)) = (zig n : Int) := by
  rw [IntKind.wrap_u64, IntKind.wrap_u64, IntKind.wrap_u64]
  by_cases h : n < 0
  · have e1 : n % 18446744073709551616 * 2 % 18446744073709551616 = ((2 * n + 18446744073709551616).toNat : Int) := by omega
    have e2 : n / 9223372036854775808 % 18446744073709551616 = ((18446744073709551615 : Nat) : Int) := by omega
    rw [e1, e2, bits_xor_u64_nat _ _ (by omega) (by omega), not64 _ (by omega)]
    unfold zig; rw [if_pos h]; omega
  · have e1 : n % 18446744073709551616 * 2 % 18446744073709551616 = ((2 * n).toNat : Int) := by omega
    have e2 : n / 9223372036854775808 % 18446744073709551616 = ((0 : Nat) : Int) := by omega
    rw [e1, e2, bits_xor_u64_nat _ _ (by omega) (by omega), Nat.xor_zero]
    unfold zig; rw [if_neg h]

set_option maxRecDepth 10000 in
set_option maxHeartbeats 400000 in
theorem wtext_any (base g : Nat) (l : List UInt8) (s : ByteArray) (w : World) (hs : s.size ≤ 100000000) (hw : WriterAt base w g l) (hbig : l.length ≤ 1000000000) (hbase : base ≤ w.heap.size) :
    Calls Tryz.prog 26 #[.pointer (some ⟨g, 0, none⟩), .string s] w fun e w' =>
      e = .returned (.pointer (some ⟨g, 0, none⟩)) ∧ WriterAt base w' g (l ++ (Vi.varint s.size ++ s.data.toList)) ∧ Grew w w' g := by
  have hv := Vi.varint_length s.size
  go_enter Tryz.func26, Tryz.ntmps26
  go_wp2_with fail
  refine (num_any base g l s.size w (by omega) hw (by omega) hbase).mono ?_
  rintro e w1 ⟨rfl, hw1, hg1⟩
  have hsz := hg1.size
  go_wp2_with (with_reducible refine wpList_text rfl 9 26 5 _ rfl s rfl Tryz.underlying9 Tryz.underlying26 Tryz.underlying5 (by unfold maxLen; omega) ?_; intro v2 w2 hb2 hB2)
  have hw2 := hw1.below hB2
  have hg2 := hg1.trans (Grew.of_below hB2 hw1.lt)
  have hsz2 := hB2.size
  have hlen : s.data.toList.length = s.size := Array.length_toList
  refine (add_any base g _ v2 _ w2 hw2 hb2 (by rw [hlen, List.length_append]; omega) (by omega)).mono ?_
  rintro e w3 ⟨rfl, hw3, hg3⟩
  go_wp2
  go_ret
  exact ⟨rfl, by rw [← List.append_assoc]; exact hw3, hg2.trans hg3⟩

/-- one byte in a new block, and add -/
theorem wbyte_add (base g : Nat) (l : List UInt8) (b : UInt8) (w : World) (hw : WriterAt base w g l) (hbig : l.length ≤ 1000000000) (hbase : base ≤ w.heap.size) :
    Calls Tryz.prog 48 #[.pointer (some ⟨g, 0, none⟩), .slice (some ⟨w.heap.size, 0, none⟩) 1 1] (w.alloc (.cells #[.int .u8 (b.toNat : Int)] 5)) fun e w' =>
      e = .returned (.pointer (some ⟨g, 0, none⟩)) ∧ WriterAt base w' g (l ++ [b]) ∧ Grew w w' g := by
  have hb := bal (bre w) (.cells #[.int .u8 (b.toNat : Int)] 5)
  refine (add_any base g l _ [b] _ (hw.below hb) (bytes_one w b 5) (by simp; omega) (by have := hb.size; omega)).mono fun e w' ⟨h1, h2, h3⟩ => ⟨h1, h2, (Grew.of_below hb hw.lt).trans h3⟩

set_option maxRecDepth 10000 in
set_option maxHeartbeats 400000 in
theorem wbyte_any (base g : Nat) (l : List UInt8) (b : UInt8) (w : World) (hw : WriterAt base w g l) (hbig : l.length ≤ 1000000000) (hbase : base ≤ w.heap.size) :
    Calls Tryz.prog 24 #[.pointer (some ⟨g, 0, none⟩), .int .u8 b.toNat] w fun e w' =>
      e = .returned (.pointer (some ⟨g, 0, none⟩)) ∧ WriterAt base w' g (l ++ [b]) ∧ Grew w w' g := by
  go_enter Tryz.func24, Tryz.ntmps24
  go_wp2_with (go_at_call 48; refine (wbyte_add base g l b w hw hbig hbase).mono ?_; rintro e w1 ⟨rfl, hw1, hg1⟩)
  go_ret
  exact ⟨rfl, hw1, hg1⟩

set_option maxRecDepth 10000 in
set_option maxHeartbeats 400000 in
theorem wbytes_any (base g : Nat) (l : List UInt8) (w : World) (hw : WriterAt base w g l) (hbig : l.length ≤ 140737488355328) :
    Calls Tryz.prog 27 #[.pointer (some ⟨g, 0, none⟩)] w fun e w' =>
      ∃ v', e = .returned v' ∧ Own8 5 w.heap.size w' v' l ∧ Below w.heap.size w w' := by
  obtain ⟨v, hg, hown⟩ := hw
  have hcell : w.cell? ⟨g, 0, none⟩ = some v := cell_of_row w g 0 _ _ _ hg
  have hb := hown.bytes
  clear hg hown
  go_enter Tryz.func27, Tryz.ntmps27
  go_wp2_with (go_at_call 49; refine (clone_any v l w hb hbig).mono ?_; rintro e w1 ⟨v1, rfl, hown1, hb1⟩)
  go_ret
  exact ⟨_, rfl, hown1, hb1⟩
end Go.Proofs.YtminfdlhbecnhaaGreatDoor
