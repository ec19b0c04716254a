/- Walks: rot that is refused; how many sectors, how many writes. -/
import Derived.Test.YtkonjjanoifinaaDkRot
import Derived.Test.YtkonjjanoifinaaDkArgs
namespace Go.Proofs.Ytkonjjanoifinaa
open Go.RowKit

set_option maxRecDepth 10000 in
set_option maxHeartbeats 800000 in
theorem rot_arg (g : Nat) (d : Dk) (F : Nat → Prop) (i bit len mask : Int) (w : World) (h : DiskAt w g d F) (hbad : len < 0 ∨ 32 < len ∨ bit < 0 ∨ 4096 - len < bit) (hl0 : -9223372036854775808 ≤ len) (hl1 : len ≤ 9223372036854775807) :
    Calls Try.prog 21 #[.pointer (some ⟨g, 0, none⟩), .int .i64 i, .int .i64 bit, .int .i64 len, .int .u32 mask] w fun e w' => e = .returned (.int .i64 1) ∧ w' = w := by
  have ht := there_any g d F i w h
  obtain ⟨q, hq⟩ : ∃ q : Int, q = if 0 ≤ i ∧ i < d.safe.length then 0 else 6 := ⟨_, rfl⟩
  rw [← hq] at ht
  have HT := Lib.hid ht
  clear ht h hq
  rcases (by omega : len < 0 ∨ (0 ≤ len ∧ 32 < len) ∨ (0 ≤ len ∧ len ≤ 32 ∧ bit < 0) ∨ (0 ≤ len ∧ len ≤ 32 ∧ 0 ≤ bit ∧ 4096 - len < bit)) with h1 | ⟨h1, h2⟩ | ⟨h1, h2, h3⟩ | ⟨h1, h2, h3, h4⟩
  · have hd3 : decide (len < 0) = true := decide_eq_true h1
    clear hbad
    go_enter Try.func21, Try.ntmps21
    go_wp2_with (go_at_call 31; refine HT.out.mono ?_; rintro e w1 ⟨rfl, rfl⟩)
    go_ret
    exact ⟨rfl, rfl⟩
  · have hd3 : decide (len < 0) = false := decide_eq_false (by omega)
    have hd2 : decide (32 < len) = true := decide_eq_true (by omega)
    clear hbad
    go_enter Try.func21, Try.ntmps21
    go_wp2_with (go_at_call 31; refine HT.out.mono ?_; rintro e w1 ⟨rfl, rfl⟩)
    go_ret
    exact ⟨rfl, rfl⟩
  · have hd3 : decide (len < 0) = false := decide_eq_false (by omega)
    have hd2 : decide (32 < len) = false := decide_eq_false (by omega)
    have hd4 : decide (bit < 0) = true := decide_eq_true (by omega)
    clear hbad
    go_enter Try.func21, Try.ntmps21
    go_wp2_with (go_at_call 31; refine HT.out.mono ?_; rintro e w1 ⟨rfl, rfl⟩)
    go_ret
    exact ⟨rfl, rfl⟩
  · have hd3 : decide (len < 0) = false := decide_eq_false (by omega)
    have hd2 : decide (32 < len) = false := decide_eq_false (by omega)
    have hd4 : decide (bit < 0) = false := decide_eq_false (by omega)
    have hd1 : decide (4096 - len < bit) = true := decide_eq_true (by omega)
    clear hbad
    go_enter Try.func21, Try.ntmps21
    go_wp2_with (go_at_call 31; refine HT.out.mono ?_; rintro e w1 ⟨rfl, rfl⟩)
    go_ret
    exact ⟨rfl, rfl⟩

set_option maxRecDepth 10000 in
set_option maxHeartbeats 800000 in
theorem rot_index (g : Nat) (d : Dk) (F : Nat → Prop) (i bit len mask : Int) (w : World) (h : DiskAt w g d F) (h1 : 0 ≤ len) (h2 : len ≤ 32) (h3 : 0 ≤ bit) (h4 : bit ≤ 4096 - len) (hi : ¬ (0 ≤ i ∧ i < d.safe.length)) :
    Calls Try.prog 21 #[.pointer (some ⟨g, 0, none⟩), .int .i64 i, .int .i64 bit, .int .i64 len, .int .u32 mask] w fun e w' => e = .returned (.int .i64 6) ∧ w' = w := by
  have ht := there_any g d F i w h
  rw [if_neg hi] at ht
  have HT := Lib.hid ht
  clear ht h hi
  have hd3 : decide (len < 0) = false := decide_eq_false (by omega)
  have hd2 : decide (32 < len) = false := decide_eq_false (by omega)
  have hd4 : decide (bit < 0) = false := decide_eq_false (by omega)
  have hd1 : decide (4096 - len < bit) = false := decide_eq_false (by omega)
  go_enter Try.func21, Try.ntmps21
  go_wp2_with (go_at_call 31; refine HT.out.mono ?_; rintro e w1 ⟨rfl, rfl⟩)
  go_ret
  exact ⟨rfl, rfl⟩

end Go.Proofs.Ytkonjjanoifinaa
