/- Walk: a text's beginning. -/
import Derived.Test.YtminfdlhbecnhaaGreatDoorOpRTxt
namespace Go.Proofs.YtminfdlhbecnhaaGreatDoor
open Go.RowKit

def firstOf (s : ByteArray) (k : Nat) : ByteArray := s.extract 0 (min s.size k)
theorem first_size (s : ByteArray) (k : Nat) : (firstOf s k).size ≤ k := by
  unfold firstOf
  rw [ByteArray.size_extract]
  omega

set_option maxRecDepth 10000 in
theorem first_any (s : ByteArray) (k : Nat) (w : World) (hs : s.size ≤ 9223372036854775807) (hk : k ≤ 1000000) :
    Calls Tryz.prog 6 #[.string s, .int .i64 k] w fun e w' => e = .returned (.string (firstOf s k)) ∧ w' = w := by
  go_enter Tryz.func6, Tryz.ntmps6
  go_wp2_with (with_reducible refine wpList_min rfl _ _ _ rfl _ _ _ rfl rfl ?_; intro r hr; have hr2 : 0 ≤ r ∧ r ≤ (s.size : Int) := (by have := hr.out; split at this <;> omega); have hr3 : r.toNat = min s.size k := (by have := hr.out; split at this <;> omega))
  go_ret
  refine ⟨?_, rfl⟩
  unfold firstOf
  rw [← hr3]
  rfl

end Go.Proofs.YtminfdlhbecnhaaGreatDoor
