/- Walk: bytes.Equal. -/
import Derived.Test.YtejdlgfiiagcmaaDoorChecked
import Derived.Test.YtejdlgfiiagcmaaDoorBase
namespace Go.Proofs.YtejdlgfiiagcmaaDoor
open Go.RowKit

set_option maxRecDepth 10000 in
set_option maxHeartbeats 400000 in
theorem equal_any (v u : Value) (p q : List UInt8) (w : World) (hv : Bytes w v p) (hq : Bytes w u q) :
    Calls Tryd.prog 57 #[v, u] w fun e w' => e = .returned (.bool (decide (p = q))) ∧ w' = w := by
  have h1 := run_str (P := Tryd.prog) w 25 9 5 v p hv Tryd.underlying25 Tryd.underlying5 Tryd.underlying9
  have h2 := run_str (P := Tryd.prog) w 25 9 5 u q hq Tryd.underlying25 Tryd.underlying5 Tryd.underlying9
  generalize hs : strOf p = s at *
  generalize ht : strOf q = t at *
  have HS := Lib.hid hs
  have HT := Lib.hid ht
  clear hs ht hv hq
  go_enter Tryd.func57, Tryd.ntmps57
  go_wp2
  go_ret
  refine ⟨?_, rfl⟩
  show Ending.returned (.bool (s.toList == t.toList)) = _
  rw [← HS.out, ← HT.out, strOf_toList, strOf_toList]
  congr 2
  rw [Bool.eq_iff_iff]
  simp

end Go.Proofs.YtejdlgfiiagcmaaDoor
