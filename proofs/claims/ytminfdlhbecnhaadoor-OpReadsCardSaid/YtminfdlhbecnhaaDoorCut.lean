/- Walk: Cut: the first bytes of a text, in memory of its own. -/
import Derived.Test.YtminfdlhbecnhaaDoorChecked
import Derived.Test.YtminfdlhbecnhaaDoorBase
namespace Go.Proofs.YtminfdlhbecnhaaDoor
open Go.RowKit

theorem row8 : RowTy Tryd.prog 42 5 1 1 := RowTy.mk' (z := .int .u8 0) Tryd.underlying42 (by kernel_rfl) rfl (by omega)

theorem take_take_snoc (p : List UInt8) (k m : Nat) (hk : k < p.length) : (p.take (k + 1)).take m = if k < m then (p.take k).take m ++ [p[k]] else (p.take k).take m := by
  rw [List.take_take, List.take_take]
  by_cases h : k < m
  · rw [if_pos h, show min m (k + 1) = k + 1 by omega, show min m k = k by omega, List.take_succ_eq_append_getElem hk]
  · rw [if_neg h, show min m (k + 1) = m by omega, show min m k = m by omega]

end Go.Proofs.YtminfdlhbecnhaaDoor
