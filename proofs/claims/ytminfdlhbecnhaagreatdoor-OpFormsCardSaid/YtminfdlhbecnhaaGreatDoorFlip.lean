/- Plain: a byte turned. -/
import Derived.Test.YtminfdlhbecnhaaGreatDoorBase
namespace Go.Proofs.YtminfdlhbecnhaaGreatDoor
open Go.RowKit

theorem xor_u8 (x y : Nat) (hx : x < 256) (hy : y < 256) : bits .xor .u8 (x : Int) (y : Int) = ((x ^^^ y : Nat) : Int) := u8_xor_nat x y hx hy

theorem xor_B8 (x : UInt8) (y : Nat) (hy : y < 256) : B8 (x ^^^ UInt8.ofNat y) = .int .u8 (((x.toNat ^^^ y : Nat)) : Int) := by
  unfold B8
  rw [UInt8.toNat_xor, UInt8.toNat_ofNat_of_lt' hy]
end Go.Proofs.YtminfdlhbecnhaaGreatDoor
