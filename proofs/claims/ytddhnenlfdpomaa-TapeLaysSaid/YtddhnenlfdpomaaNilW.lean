/- Walks: a nil writer; the document's Text. -/
import Derived.Test.YtddhnenlfdpomaaLayR
namespace Go.Proofs.Ytddhnenlfdpomaa
open Go.RowKit

set_option maxRecDepth 10000 in
theorem nadd_any (u : Value) (w : World) :
    Calls Try.prog 32 #[.pointer none, u] w fun e w' => e = .returned (.pointer none) ∧ w' = w := by
  go_enter Try.func32, Try.ntmps32
  go_wp2
  go_ret
  exact ⟨rfl, rfl⟩

set_option maxRecDepth 10000 in
set_option maxHeartbeats 400000 in
theorem nnum_any (n : Nat) (w : World) (hn : n < 18446744073709551616) :
    Calls Try.prog 9 #[.pointer none, .int .u64 n] w fun e w' => e = .returned (.pointer none) ∧ Below w.heap.size w w' := by
  go_enter Try.func9, Try.ntmps9
  go_wp2
  go_loopw [1] (fun c wr => ∃ (m : Nat), c = .int .u64 m ∧ m < 18446744073709551616 ∧ Below w.heap.size w wr) (fun c _ => (intOf c).toNat)
  case atStart => exact ⟨n, rfl, hn, bre w⟩
  case round =>
    obtain ⟨m, rfl, hm, hb⟩ := hrel
    by_cases h128 : 128 ≤ m
    · go_wp2_with (go_at_call 32; refine (nadd_any _ _).mono ?_; rintro e w2 ⟨rfl, rfl⟩)
      go_roundw
      case rel => exact ⟨m / 128, by go_num, by omega, bal hb _⟩
      case measure => simp [intOf]; omega
    · go_wp2_with (go_at_call 32; refine (nadd_any _ _).mono ?_; rintro e w2 ⟨rfl, rfl⟩)
      go_ret
      exact ⟨rfl, bal hb _⟩

set_option maxRecDepth 10000 in
theorem nint_any (n : Int) (w : World) (h0 : -9223372036854775808 ≤ n) (h1 : n ≤ 9223372036854775807) :
    Calls Try.prog 11 #[.pointer none, .int .i64 n] w fun e w' => e = .returned (.pointer none) ∧ Below w.heap.size w w' := by
  go_enter Try.func11, Try.ntmps11
  go_wp2_with fail
  rw [zig_bits n h0 h1]
  refine (nnum_any (zig n) w (zig_lt h0 h1)).mono ?_
  rintro e w1 ⟨rfl, hb⟩
  go_wp2
  go_ret
  exact ⟨rfl, hb⟩

set_option maxRecDepth 10000 in
theorem ntext_any (s : ByteArray) (w : World) (hs : s.size ≤ 100000000) :
    Calls Try.prog 26 #[.pointer none, .string s] w fun e w' => e = .returned (.pointer none) ∧ Below w.heap.size w w' := by
  go_enter Try.func26, Try.ntmps26
  go_wp2_with fail
  refine (nnum_any s.size w (by omega)).mono ?_
  rintro e w1 ⟨rfl, hb1⟩
  go_wp2_with (with_reducible refine wpList_text rfl 9 24 5 _ rfl s rfl Try.underlying9 Try.underlying24 Try.underlying5 (by unfold maxLen; omega) ?_; intro v2 w2 hb2 hB2)
  refine (nadd_any _ _).mono ?_
  rintro e w3 ⟨rfl, rfl⟩
  go_wp2
  go_ret
  exact ⟨rfl, btr hb1 hB2⟩

set_option maxRecDepth 10000 in
theorem nbyte_any (b : Nat) (w : World) :
    Calls Try.prog 27 #[.pointer none, .int .u8 b] w fun e w' => e = .returned (.pointer none) ∧ Below w.heap.size w w' := by
  go_enter Try.func27, Try.ntmps27
  go_wp2_with (go_at_call 32; refine (nadd_any _ _).mono ?_; rintro e w2 ⟨rfl, rfl⟩)
  go_ret
  exact ⟨rfl, bal (bre w) _⟩

set_option maxRecDepth 10000 in
theorem nbool_any (b : Bool) (w : World) :
    Calls Try.prog 28 #[.pointer none, .bool b] w fun e w' => e = .returned (.pointer none) ∧ Below w.heap.size w w' := by
  cases b
  all_goals
    go_enter Try.func28, Try.ntmps28
    go_wp2_with (go_at_call 32; refine (nadd_any _ _).mono ?_; rintro e w2 ⟨rfl, rfl⟩)
    go_ret
    exact ⟨rfl, bal (bre w) _⟩

set_option maxRecDepth 10000 in
theorem nbytes_any (w : World) :
    Calls Try.prog 10 #[.pointer none] w fun e w' => e = .returned (.slice none 0 0) ∧ w' = w := by
  go_enter Try.func10, Try.ntmps10
  go_wp2
  go_ret
  exact ⟨rfl, rfl⟩

/-- the first bytes of a text -/
def firstOf (s : ByteArray) (k : Nat) : ByteArray := s.extract 0 (min s.size k)

set_option maxRecDepth 10000 in
theorem text_any (s : ByteArray) (k : Nat) (w : World) (hs : s.size ≤ 9223372036854775807) (hk : k ≤ 1000000) :
    Calls Try.prog 25 #[.string s, .int .i64 k] w fun e w' => e = .returned (.string (firstOf s k)) ∧ w' = w := by
  go_enter Try.func25, Try.ntmps25
  go_wp2_with (with_reducible refine wpList_min rfl _ _ _ rfl _ _ _ rfl rfl ?_; intro r hr; have hr2 : 0 ≤ r ∧ r ≤ (s.size : Int) := (by have := hr.out; split at this <;> omega); have hr3 : r.toNat = min s.size k := (by have := hr.out; split at this <;> omega))
  go_ret
  refine ⟨?_, rfl⟩
  unfold firstOf
  rw [← hr3]
  rfl
end Go.Proofs.Ytddhnenlfdpomaa
