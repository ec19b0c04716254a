/- Walk: Least. -/
import Derived.Test.YtljdphpbalioaaaGreatDoorGrO
namespace Go.Proofs.YtljdphpbalioaaaGreatDoor
open Go.RowKit

end Go.Proofs.YtljdphpbalioaaaGreatDoor
