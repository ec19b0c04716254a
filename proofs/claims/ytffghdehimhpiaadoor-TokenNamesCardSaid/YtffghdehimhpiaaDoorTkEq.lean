/- Off the shelf: slices.Equal of strings. -/
import Derived.Ground.NamesProg
import Derived.Shelf.Slices.Equal
import Derived.Test.YtffghdehimhpiaaDoorTkRefA
import Derived.Test.YtffghdehimhpiaaDoorTkZero
namespace Go.Proofs
open Go.Shelf Go.Lib Go.RowKit
def Tryd.lays193_ren : Go.Shelf.Ren := ⟨fun | 193 => 21 | n => n, fun | 31 => 38 | 9 => 9 | 4 => 4 | 3 => 3 | 0 => 0 | n => n, fun | n => n⟩
theorem Tryd.lays193 : Go.Proofs.Lays.n193 Tryd.prog Tryd.lays193_ren := {
  mixed := by kernel_rfl
  f193 := Tryd.func21.trans (congrArg some (by kernel_rfl))
  t0 := Tryd.underlying0
  a0 := Tryd.isAgg0
  z0 := Tryd.sizeOf0
  v0 := Tryd.zeroValue0
  t3 := Tryd.underlying3
  a3 := Tryd.isAgg3
  z3 := Tryd.sizeOf3
  v3 := Tryd.zeroValue3
  t4 := Tryd.underlying4
  a4 := Tryd.isAgg4
  z4 := Tryd.sizeOf4
  v4 := Tryd.zeroValue4
  t9 := Tryd.underlying9
  a9 := Tryd.isAgg9
  z9 := Tryd.sizeOf9
  v9 := Tryd.zeroValue9
  t31 := Tryd.underlying38
  a31 := Tryd.isAgg38
  z31 := Tryd.sizeOf38
  v31 := Tryd.zeroValue38 }
end Go.Proofs
namespace Go.Proofs.YtffghdehimhpiaaDoor
open Go.RowKit

theorem equal_same (b1 b2 n : Nat) (ls : List (List UInt8)) (w : World) (hl : ls.length = n) (hbig : n ≤ 9223372036854775807)
    (h1 : w.heap[b1]? = some (.cells (ls.map strV).toArray 9 (0, 0))) (h2 : w.heap[b2]? = some (.cells (ls.map strV).toArray 9 (0, 0))) :
    Calls Tryd.prog 21 #[.slice (some ⟨b1, 0, none⟩) n n, .slice (some ⟨b2, 0, none⟩) n n] w fun e w' => e = .returned (.bool true) ∧ Below w.heap.size w w' := by
  have hc : ∀ b, w.heap[b]? = some (.cells (ls.map strV).toArray 9 (0, 0)) → ∀ j, j < (ls.map mk8).length → w.cell? ⟨b, 0 + j, none⟩ = some (.string ((ls.map mk8).getD j ByteArray.empty)) := fun b hb j hj => by
    rw [List.length_map] at hj
    rw [Nat.zero_add, strs_cell hb j hj, strV_mk]
    simp [List.getD_eq_getElem?_getD, List.getElem?_eq_getElem hj]
  have hlm : (ls.map mk8).length = n := by rw [List.length_map]; exact hl
  refine (Any.slices_Equal_string Tryd.lays193 b1 0 n n b2 0 n n (ls.map mk8) (ls.map mk8) w (by omega) (by omega) hbig hbig (fun j hj => hc b1 h1 j (by omega)) (fun j hj => hc b2 h2 j (by omega))).mono ?_
  rintro e w' ⟨rfl, hq⟩
  refine ⟨by rw [decide_eq_true rfl], ?_⟩
  obtain ⟨q, rfl⟩ := hq
  exact bdn (bre w) q
end Go.Proofs.YtffghdehimhpiaaDoor
