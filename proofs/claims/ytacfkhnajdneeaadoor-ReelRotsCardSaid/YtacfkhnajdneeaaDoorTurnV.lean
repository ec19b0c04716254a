/- Plain: one bit of a byte, turned if a mask has it. No program is in sight. -/
import Derived.Test.YtacfkhnajdneeaaDoorPreA
import Derived.IntWalk
namespace Go.Proofs.YtacfkhnajdneeaaDoor
open Go.RowKit

theorem turn_val (x : UInt8) (mask k t : Nat) (hm : mask < 4294967296) :
    bits .xor .u8 (x.toNat : Int) (IntKind.u8.wrap (IntKind.u8.wrap (bits .and .u32 ((mask : Int) / 2 ^ k) 1) * 2 ^ min ((t : Int).tmod 8).toNat 8)) = ((x ^^^ UInt8.ofNat (mask / 2 ^ k % 2 * 2 ^ (t % 8))).toNat : Int) := by
  have hx : x.toNat < 256 := x.toNat_lt
  have h0 : (mask : Int) / 2 ^ k = ((mask / 2 ^ k : Nat) : Int) := by simp
  have hd : mask / 2 ^ k < 4294967296 := Nat.lt_of_le_of_lt (Nat.div_le_self _ _) hm
  have h1 : bits .and .u32 ((mask : Int) / 2 ^ k) 1 = ((mask / 2 ^ k % 2 : Nat) : Int) := by
    rw [h0]
    have h := u32_and_nat (mask / 2 ^ k) 1 hd (by omega)
    rw [Nat.and_one_is_mod] at h
    exact h
  have h2 : ((t : Int).tmod 8).toNat = t % 8 := by
    rw [Int.tmod_eq_emod_of_nonneg (by omega)]; omega
  rw [h1, h2]
  have hlt : t % 8 < 8 := by omega
  rw [Nat.min_eq_left (by omega)]
  have hc : mask / 2 ^ k % 2 < 2 := Nat.mod_lt _ (by omega)
  generalize mask / 2 ^ k % 2 = c at *
  have hp : 2 ^ (t % 8) ≤ 128 := by
    have : 2 ^ (t % 8) ≤ 2 ^ 7 := Nat.pow_le_pow_right (by omega) (by omega)
    simpa using this
  have hb : c * 2 ^ (t % 8) < 256 := by
    have : c * 2 ^ (t % 8) ≤ 1 * 128 := Nat.mul_le_mul (by omega) hp
    omega
  have h3 : IntKind.u8.wrap (IntKind.u8.wrap ((c : Nat) : Int) * 2 ^ (t % 8)) = ((c * 2 ^ (t % 8) : Nat) : Int) := by
    rw [IntKind.wrap_u8, IntKind.wrap_u8, show ((c : Nat) : Int) % 256 = ((c : Nat) : Int) by omega, show ((c : Nat) : Int) * 2 ^ (t % 8) = ((c * 2 ^ (t % 8) : Nat) : Int) by simp]
    omega
  rw [h3, u8_xor_nat _ _ hx hb, UInt8.toNat_xor, UInt8.toNat_ofNat_of_lt' (show _ < UInt8.size by simp [UInt8.size]; exact hb)]
end Go.Proofs.YtacfkhnajdneeaaDoor
