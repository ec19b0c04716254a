/- DiskArgs: disks that there can't be; sectors that aren't there; a nil one. -/
import Derived.Test.YtkonjjanoifinaaDkAwake
namespace Go.Proofs.Ytkonjjanoifinaa
open Go.RowKit

set_option maxRecDepth 10000 in
theorem rot_nil (i bit length : Int) (mask : Int) (w : World) :
    Calls Try.prog 21 #[.pointer none, .int .i64 i, .int .i64 bit, .int .i64 length, .int .u32 mask] w fun e w' => e = .returned (.int .i64 3) ∧ w' = w := by
  go_enter Try.func21, Try.ntmps21
  go_wp2_with (go_at_call 31; refine (there_nil i w).mono ?_; rintro e w1 ⟨rfl, rfl⟩)
  go_ret
  exact ⟨rfl, rfl⟩

set_option maxRecDepth 10000 in
theorem writes_nil (w : World) :
    Calls Try.prog 26 #[.pointer none] w fun e w' => e = .returned (.int .i64 0) ∧ w' = w := by
  go_enter Try.func26, Try.ntmps26
  go_wp2
  go_ret
  exact ⟨rfl, rfl⟩

set_option maxRecDepth 10000 in
theorem sectors_nil (w : World) :
    Calls Try.prog 27 #[.pointer none] w fun e w' => e = .returned (.int .i64 0) ∧ w' = w := by
  go_enter Try.func27, Try.ntmps27
  go_wp2
  go_ret
  exact ⟨rfl, rfl⟩

theorem bools_lit1 (w : World) (a : Bool) (e n : Nat) (hn : n = w.heap.size) : Bools (w.alloc (.cells #[.bool a] e)) (.slice (some ⟨n, 0, none⟩) 1 1) [a] := by
  subst hn
  refine ⟨_, _, rfl, by simp [maxLen], Nat.le_refl _, fun h => (by cases h), .inr ⟨_, _, rfl, fun j x hx => ?_⟩⟩
  refine ⟨.bool x, ?_, rfl⟩
  rw [Nat.zero_add, World.cell?_alloc_new w _ e j]
  match j with
  | 0 => simp at hx; subst hx; rfl
  | j + 1 => simp at hx

/-- a new disk, or none -/
theorem new_all (n : Int) (w : World) :
    Calls Try.prog 10 #[.int .i64 n] w fun e w' => (∃ v, e = .returned (.tuple #[v, .int .i64 (if 1 ≤ n ∧ n ≤ 4096 then 0 else 1)])) ∧ Below w.heap.size w w' := by
  by_cases h : 1 ≤ n ∧ n ≤ 4096
  · rw [if_pos h]
    obtain ⟨m, rfl⟩ := Int.eq_ofNat_of_zero_le (show 0 ≤ n by omega)
    exact (new_any m w (by omega) (by omega)).mono fun e w' ⟨g, F, he, _, _, hb⟩ => ⟨⟨_, he⟩, hb⟩
  · rw [if_neg h]
    exact (new_no n w (by omega)).mono fun e w' ⟨he, hw⟩ => ⟨⟨_, he⟩, by rw [hw]; exact bre w⟩

set_option maxRecDepth 10000 in
set_option maxHeartbeats 3200000 in
theorem args_calls (n i bit length : Int) (mask : Int) (w : World) :
    Calls Try.prog 8 #[.int .i64 n, .int .i64 i, .int .i64 bit, .int .i64 length, .int .u32 mask] w fun e w' => e = .returned (.bool true) ∧ Below w.heap.size w w' := by
  rcases (by omega : (1 ≤ n ∧ n ≤ 4096) ∨ n < 1 ∨ (1 ≤ n ∧ 4096 < n)) with ⟨h1, h2⟩ | h1 | ⟨h1, h2⟩
  all_goals
    first
      | (have hd4 : decide (n ≤ 4096) = true := decide_eq_true (by omega))
      | (have hd4 : decide (n ≤ 4096) = false := decide_eq_false (by omega))
    go_enter Try.func8, Try.ntmps8
    go_wp2_with fail
    refine (awake_any w).mono ?_
    rintro e w1 ⟨rfl, hb1⟩
    go_wp2_with fail
    refine (new_all n w1).mono ?_
    rintro e w2 ⟨⟨v, rfl⟩, hb2⟩
    first | rw [if_pos (by omega)] | rw [if_neg (by omega)]
    have hb02 := btr hb1 hb2
    clear hb1 hb2
    go_wp2_with first
      | (go_at_call 12; refine (limit_nil n _).mono ?_; rintro e w' ⟨rfl, rfl⟩)
      | (go_at_call 17; refine (dread_nil i _).mono ?_; rintro e w' ⟨rfl, rfl⟩)
      | (go_at_call 15; refine (crash_nil _ [true] _ (bools_lit1 _ _ _ _ rfl)).mono ?_; rintro e w' ⟨rfl, rfl⟩)
      | (go_at_call 14; refine (write_nil i _ [] _ (Own8.nil 5 0 _).bytes).mono ?_; rintro e w' ⟨rfl, rfl⟩)
      | (go_at_call 13; refine (sync_nil _).mono ?_; rintro e w' ⟨rfl, rfl⟩)
      | (go_at_call 21; refine (rot_nil i bit length mask _).mono ?_; rintro e w' ⟨rfl, rfl⟩)
      | (go_at_call 27; refine (sectors_nil _).mono ?_; rintro e w' ⟨rfl, rfl⟩)
      | (go_at_call 26; refine (writes_nil _).mono ?_; rintro e w' ⟨rfl, rfl⟩)
      | (go_at_call 19; refine (waiting_nil _).mono ?_; rintro e w' ⟨rfl, rfl⟩)
      | (go_at_call 20; refine (blank_nil i _).mono ?_; rintro e w' ⟨rfl, rfl⟩)
      | (go_at_call 16; refine (copy_nil _).mono ?_; rintro e w' ⟨rfl, rfl⟩)
    go_ret
    exact ⟨rfl, bal hb02 _⟩
end Go.Proofs.Ytkonjjanoifinaa
