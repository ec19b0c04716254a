/- Walks: sum.Step. -/
import Derived.Test.YtejdlgfiiagcmaaDoorChecked
import Derived.Test.YtejdlgfiiagcmaaDoorCrc
import Derived.WalkKit
import Derived.WalkSpells
import Derived.Lib.Hide
namespace Go.Proofs.YtejdlgfiiagcmaaDoor
open Go.RowKit

theorem xor32 (a b : Nat) (ha : a < 4294967296) (hb : b < 4294967296) : bits .xor .u32 (a : Int) (b : Int) = ((a ^^^ b : Nat) : Int) := u32_xor_nat a b ha hb

theorem bit_go (y : Nat) (hy : y < 4294967296) :
    Value.int .u32 (bits .xor .u32 ((y : Int) / 2) (bits .and .u32 (y : Int) 1 * 3988292384 % 4294967296)) = .int .u32 (Crc.bit y : Nat) := by
  have h1 : bits .and .u32 (y : Int) 1 = ((y % 2 : Nat) : Int) := by
    have h := u32_and_nat y 1 hy (by omega)
    rw [Nat.and_one_is_mod] at h
    exact h
  rw [h1]
  have h2 : ((y % 2 : Nat) : Int) * 3988292384 % 4294967296 = (((if y % 2 = 1 then Crc.poly else 0) : Nat) : Int) := by
    unfold Crc.poly
    rcases Nat.mod_two_eq_zero_or_one y with h | h <;> simp [h]
  rw [h2]
  have h3 : (y : Int) / 2 = ((y / 2 : Nat) : Int) := by omega
  rw [h3, xor32 _ _ (by omega) (by split <;> simp [Crc.poly])]
  rfl

set_option maxHeartbeats 400000 in
theorem step_any (s b : Nat) (hs : s < 4294967296) (hb : b < 256) (w : World) :
    Calls Tryd.prog 59 #[.int .u32 s, .int .u8 b] w fun e w' => e = .returned (.int .u32 (Crc.step s b : Nat)) ∧ w' = w := by
  go_enter Tryd.func59, Tryd.ntmps59
  go_wp2
  rw [xor32 s b hs (by omega)]
  have hx := Crc.xor_lt hs (show b < 4294967296 by omega)
  obtain ⟨x, hst⟩ : ∃ x, x = s ^^^ b := ⟨_, rfl⟩
  rw [← hst] at hx ⊢
  have HX := Lib.hid hst
  clear hst
  go_loop [0, 5, 10] (fun c _ i => ∃ k : Nat, k ≤ 8 ∧ i = .int .i64 k ∧ ∃ y : Nat, y < 4294967296 ∧ Crc.bits (8 - k) y = Crc.bits 8 x ∧ c = .int .u32 y) (fun _ _ i => 8 - (intOf i).toNat)
  case atStart => exact ⟨0, by omega, rfl, x, hx, rfl, rfl⟩
  case round =>
    obtain ⟨k, hk, rfl, y, hy, hb8, rfl⟩ := hrel
    have H := Lib.hid hb8
    clear hb8
    go_wp2
    · go_round
      case rel =>
        refine ⟨k + 1, by omega, by go_num, Crc.bit y, Crc.bit_lt hy, ?_, ?_⟩
        · rw [← H.out, show 8 - k = (8 - (k + 1)) + 1 by omega]; rfl
        · exact bit_go y hy
      case measure => simp [intOf]; omega
    · have e8 : k = 8 := by omega
      subst e8
      go_ret
      refine ⟨?_, rfl⟩
      have h2 := H.out
      have h3 : Crc.step s b = y := by
        rw [Crc.step, ← HX.out, ← h2]
        rfl
      rw [h3]
      rfl
end Go.Proofs.YtejdlgfiiagcmaaDoor
