/- Walk: the document's Take, whatever the field. -/
import Derived.Test.YtddhnenlfdpomaaRTakeB
import Derived.Test.YtddhnenlfdpomaaRTakeC
namespace Go.Proofs.Ytddhnenlfdpomaa
open Go.RowKit

theorem rtake_any (v : Value) (p : List UInt8) (f : Fld) (w : World) (hv : Bytes w v p) (h2 : f.kind % 5 = 2 → f.most < 1000) :
    Calls Try.prog 18 #[v, FldV f] w fun e w' => TakeSays v f p e ∧ Below w.heap.size w w' := by
  have hcase : f.kind % 5 = 0 ∨ f.kind % 5 = 1 ∨ f.kind % 5 = 2 ∨ f.kind % 5 = 3 ∨ f.kind % 5 = 4 := by omega
  rcases hcase with h | h | h | h | h
  · exact rtake0_any v p f w hv h
  · exact rtake1_any v p f w hv h
  · exact rtake2_any v p f w hv h (h2 h)
  · exact rtake3_any v p f w hv h
  · exact rtake4_any v p f w hv h
end Go.Proofs.Ytddhnenlfdpomaa
