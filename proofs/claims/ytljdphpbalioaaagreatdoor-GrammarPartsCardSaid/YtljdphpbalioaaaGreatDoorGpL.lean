/- Off the shelf: strings.Contains, strings.Count. -/
import Derived.Ground.NamesProg
import Derived.Shelf.LaysM
import Derived.Shelf.Strings.Search3
import Derived.Shelf.Strings.Count
import Derived.Test.YtljdphpbalioaaaGreatDoorPreG
namespace Go.Proofs
open Go.Shelf Go.Lib Go.RowKit
def Tryz.lays144_ren : Go.Shelf.Ren := ⟨fun | 144 => 7 | 143 => 18 | 219 => 31 | 217 => 53 | 225 => 54 | 224 => 55 | 267 => 56 | 266 => 74 | 314 => 75 | n => n, fun | 9 => 9 | 4 => 4 | 3 => 3 | 5 => 5 | 46 => 101 | 146 => 116 | 51 => 105 | n => n, fun | 1 => 0 | n => n⟩
theorem Tryz.lays144 : Go.Proofs.LaysM.n144 Tryz.prog Tryz.lays144_ren := {
  mixed := by kernel_rfl
  f143 := Tryz.func18.trans (congrArg some (by kernel_rfl))
  f144 := Tryz.func7.trans (congrArg some (by kernel_rfl))
  f217 := Tryz.func53.trans (congrArg some (by kernel_rfl))
  f219 := Tryz.func31.trans (congrArg some (by kernel_rfl))
  f224 := Tryz.func55.trans (congrArg some (by kernel_rfl))
  f225 := Tryz.func54.trans (congrArg some (by kernel_rfl))
  f266 := Tryz.func74.trans (congrArg some (by kernel_rfl))
  f267 := Tryz.func56.trans (congrArg some (by kernel_rfl))
  f314 := Tryz.func75.trans (congrArg some (by kernel_rfl))
  t3 := Tryz.underlying3
  a3 := Tryz.isAgg3
  z3 := Tryz.sizeOf3
  v3 := Tryz.zeroValue3
  t4 := Tryz.underlying4
  a4 := Tryz.isAgg4
  z4 := Tryz.sizeOf4
  v4 := Tryz.zeroValue4
  t5 := Tryz.underlying5
  a5 := Tryz.isAgg5
  z5 := Tryz.sizeOf5
  v5 := Tryz.zeroValue5
  t9 := Tryz.underlying9
  a9 := Tryz.isAgg9
  z9 := Tryz.sizeOf9
  v9 := Tryz.zeroValue9
  t46 := Tryz.underlying101
  a46 := Tryz.isAgg101
  z46 := Tryz.sizeOf101
  v46 := Tryz.zeroValue101
  t51 := Tryz.underlying105
  a51 := Tryz.isAgg105
  z51 := Tryz.sizeOf105
  v51 := Tryz.zeroValue105
  t146 := Tryz.underlying116
  a146 := Tryz.isAgg116
  z146 := Tryz.sizeOf116
  v146 := Tryz.zeroValue116
  g1 := by kernel_rfl
  i3 := by kernel_rfl
  i4 := by kernel_rfl
  i5 := by kernel_rfl
  i9 := by kernel_rfl
  i46 := by kernel_rfl
  i51 := by kernel_rfl
  i146 := by kernel_rfl
  m1 := by kernel_rfl
  s1_3 := fun w h => Go.Proofs.cell_of_shapedOpen_int (zero := #[.int .i64 0]) (t := 3) h (of_decide_eq_true (by kernel_rfl)) (by kernel_rfl) rfl (by kernel_rfl) (by kernel_rfl) Tryz.underlying3 }
def Tryz.lays138_ren : Go.Shelf.Ren := ⟨fun | 138 => 9 | 195 => 19 | 218 => 20 | 143 => 18 | 219 => 31 | 217 => 53 | 225 => 54 | 224 => 55 | 267 => 56 | 266 => 74 | 314 => 75 | n => n, fun | 9 => 9 | 3 => 3 | 4 => 4 | 5 => 5 | 0 => 0 | 46 => 101 | 146 => 116 | 51 => 105 | n => n, fun | 1 => 0 | n => n⟩
theorem Tryz.lays138 : Go.Proofs.Lays.n138 Tryz.prog Tryz.lays138_ren := {
  mixed := by kernel_rfl
  f138 := Tryz.func9.trans (congrArg some (by kernel_rfl))
  f143 := Tryz.func18.trans (congrArg some (by kernel_rfl))
  f195 := Tryz.func19.trans (congrArg some (by kernel_rfl))
  f217 := Tryz.func53.trans (congrArg some (by kernel_rfl))
  f218 := Tryz.func20.trans (congrArg some (by kernel_rfl))
  f219 := Tryz.func31.trans (congrArg some (by kernel_rfl))
  f224 := Tryz.func55.trans (congrArg some (by kernel_rfl))
  f225 := Tryz.func54.trans (congrArg some (by kernel_rfl))
  f266 := Tryz.func74.trans (congrArg some (by kernel_rfl))
  f267 := Tryz.func56.trans (congrArg some (by kernel_rfl))
  f314 := Tryz.func75.trans (congrArg some (by kernel_rfl))
  t0 := Tryz.underlying0
  a0 := Tryz.isAgg0
  z0 := Tryz.sizeOf0
  v0 := Tryz.zeroValue0
  t3 := Tryz.underlying3
  a3 := Tryz.isAgg3
  z3 := Tryz.sizeOf3
  v3 := Tryz.zeroValue3
  t4 := Tryz.underlying4
  a4 := Tryz.isAgg4
  z4 := Tryz.sizeOf4
  v4 := Tryz.zeroValue4
  t5 := Tryz.underlying5
  a5 := Tryz.isAgg5
  z5 := Tryz.sizeOf5
  v5 := Tryz.zeroValue5
  t9 := Tryz.underlying9
  a9 := Tryz.isAgg9
  z9 := Tryz.sizeOf9
  v9 := Tryz.zeroValue9
  t46 := Tryz.underlying101
  a46 := Tryz.isAgg101
  z46 := Tryz.sizeOf101
  v46 := Tryz.zeroValue101
  t51 := Tryz.underlying105
  a51 := Tryz.isAgg105
  z51 := Tryz.sizeOf105
  v51 := Tryz.zeroValue105
  t146 := Tryz.underlying116
  a146 := Tryz.isAgg116
  z146 := Tryz.sizeOf116
  v146 := Tryz.zeroValue116
  g1 := by kernel_rfl }
end Go.Proofs
namespace Go.Proofs.YtljdphpbalioaaaGreatDoor
open Go.RowKit

def MlAt (w : World) : Prop := ∃ m, w.cell? ⟨Tryz.lays144_ren.g 1, 0, none⟩ = some (.int .i64 m)
theorem MlAt.below {w w' : World} (h : MlAt w) (hb : Below w.heap.size w w') : MlAt w' := by
  obtain ⟨m, h0⟩ := h
  exact ⟨m, (hb.cell (p := ⟨Tryz.lays144_ren.g 1, 0, none⟩) (block_lt_of_cell h0)).trans h0⟩
theorem ml_of {w : World} (h : w.ShapedOpen Tryz.prog) : MlAt w := Tryz.lays144.s1_3 w h
theorem contains_last (l : Bs) (w : World) (hm : MlAt w) (hs : l.length ≤ 1000000) : Calls Tryz.prog 7 #[.string (mk8 l), .string ⟨#[108, 97, 115, 116, 95, 111, 102, 95, 97, 108, 108]⟩] w fun e w' => e = .returned (.bool (Lib.contains l lastB)) ∧ w' = w := by
  obtain ⟨m, h⟩ := hm
  exact Any.strings_Contains { Tryz.lays144 with } (mk8 l) (mk8 lastB) m w (by show l.toArray.size < _; simp; omega) h
theorem contains_hash (l : Bs) (w : World) : Calls Tryz.prog 7 #[.string (mk8 l), .string ⟨#[35]⟩] w fun e w' => e = .returned (.bool (decide (0 ≤ Lib.indexByte l 35))) ∧ w' = w :=
  Any.strings_Contains_one { Tryz.lays144 with } (mk8 l) 35 w
theorem count_any (l : Bs) (c : UInt8) (w : World) : Calls Tryz.prog 9 #[.string (mk8 l), .string ⟨#[c]⟩] w fun e w' => e = .returned (.int .i64 (Lib.countByte l c : Nat)) ∧ w' = w :=
  Any.strings_Count_one Tryz.lays138 (mk8 l) c w
end Go.Proofs.YtljdphpbalioaaaGreatDoor
