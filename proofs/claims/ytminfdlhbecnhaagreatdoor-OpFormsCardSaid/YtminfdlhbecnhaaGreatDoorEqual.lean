/- Walk: bytes.Equal. -/
import Derived.Test.YtminfdlhbecnhaaGreatDoorChecked
import Derived.Test.YtminfdlhbecnhaaGreatDoorBase
namespace Go.Proofs.YtminfdlhbecnhaaGreatDoor
open Go.RowKit

set_option maxRecDepth 10000 in
set_option maxHeartbeats 400000 in
theorem equal_any (v u : Value) (p q : List UInt8) (w : World) (hv : Bytes w v p) (hq : Bytes w u q) :
    Calls Tryz.prog 35 #[v, u] w fun e w' => e = .returned (.bool (decide (p = q))) ∧ w' = w := by
  have h1 := run_str (P := Tryz.prog) w 26 9 5 v p hv Tryz.underlying26 Tryz.underlying5 Tryz.underlying9
  have h2 := run_str (P := Tryz.prog) w 26 9 5 u q hq Tryz.underlying26 Tryz.underlying5 Tryz.underlying9
  generalize hs : strOf p = s at *
  generalize ht : strOf q = t at *
  have HS := Lib.hid hs
  have HT := Lib.hid ht
  clear hs ht hv hq
  go_enter Tryz.func35, Tryz.ntmps35
  go_wp2
  go_ret
  refine ⟨?_, rfl⟩
  show Ending.returned (.bool (s.toList == t.toList)) = _
  rw [← HS.out, ← HT.out, strOf_toList, strOf_toList]
  congr 2
  rw [Bool.eq_iff_iff]
  simp

end Go.Proofs.YtminfdlhbecnhaaGreatDoor
