/- Off the shelf: strings.Fields, slices.Contains, strings.Join, internal/strconv.small. -/
import Derived.Ground.NamesProg
import Derived.Test.YtminfdlhbecnhaaDoorTokA
import Derived.Shelf.Strings.Fields
import Derived.Shelf.Strings.OnBuilder
import Derived.Shelf.Slices.Turned
import Derived.Shelf.Strconv.Itoa1
namespace Go.Proofs
open Go.Shelf Go.Lib Go.RowKit
def Tryd.lays157_ren : Go.Shelf.Ren := ⟨fun | 157 => 22 | 229 => 38 | 199 => 39 | 261 => 51 | 311 => 69 | 312 => 70 | n => n, fun | 9 => 9 | 31 => 54 | 3 => 3 | 5 => 5 | 4 => 4 | 119 => 74 | 0 => 0 | 40 => 76 | 152 => 89 | 21 => 21 | 154 => 91 | 51 => 27 | 141 => 93 | 196 => 111 | 193 => 108 | 198 => 113 | 49 => 28 | 194 => 109 | 201 => 116 | 226 => 136 | 46 => 78 | 227 => 137 | n => n, fun | 0 => 0 | 6 => 1 | n => n⟩
theorem Tryd.lays157 : Go.Proofs.Lays.n157 Tryd.prog Tryd.lays157_ren := {
  mixed := by kernel_rfl
  f157 := Tryd.func22.trans (congrArg some (by kernel_rfl))
  f199 := Tryd.func39.trans (congrArg some (by kernel_rfl))
  f229 := Tryd.func38.trans (congrArg some (by kernel_rfl))
  f261 := Tryd.func51.trans (congrArg some (by kernel_rfl))
  f311 := Tryd.func69.trans (congrArg some (by kernel_rfl))
  f312 := Tryd.func70.trans (congrArg some (by kernel_rfl))
  t0 := Tryd.underlying0
  a0 := Tryd.isAgg0
  z0 := Tryd.sizeOf0
  v0 := Tryd.zeroValue0
  t3 := Tryd.underlying3
  a3 := Tryd.isAgg3
  z3 := Tryd.sizeOf3
  v3 := Tryd.zeroValue3
  t4 := Tryd.underlying4
  a4 := Tryd.isAgg4
  z4 := Tryd.sizeOf4
  v4 := Tryd.zeroValue4
  t5 := Tryd.underlying5
  a5 := Tryd.isAgg5
  z5 := Tryd.sizeOf5
  v5 := Tryd.zeroValue5
  t9 := Tryd.underlying9
  a9 := Tryd.isAgg9
  z9 := Tryd.sizeOf9
  v9 := Tryd.zeroValue9
  t21 := Tryd.underlying21
  a21 := Tryd.isAgg21
  z21 := Tryd.sizeOf21
  v21 := Tryd.zeroValue21
  t31 := Tryd.underlying54
  a31 := Tryd.isAgg54
  z31 := Tryd.sizeOf54
  v31 := Tryd.zeroValue54
  t40 := Tryd.underlying76
  a40 := Tryd.isAgg76
  z40 := Tryd.sizeOf76
  v40 := Tryd.zeroValue76
  t46 := Tryd.underlying78
  a46 := Tryd.isAgg78
  z46 := Tryd.sizeOf78
  v46 := Tryd.zeroValue78
  t49 := Tryd.underlying28
  a49 := Tryd.isAgg28
  z49 := Tryd.sizeOf28
  v49 := Tryd.zeroValue28
  t51 := Tryd.underlying27
  a51 := Tryd.isAgg27
  z51 := Tryd.sizeOf27
  v51 := Tryd.zeroValue27
  t119 := Tryd.underlying74
  a119 := Tryd.isAgg74
  z119 := Tryd.sizeOf74
  t141 := Tryd.underlying93
  a141 := Tryd.isAgg93
  z141 := Tryd.sizeOf93
  v141 := Tryd.zeroValue93
  t152 := Tryd.underlying89
  a152 := Tryd.isAgg89
  z152 := Tryd.sizeOf89
  v152 := Tryd.zeroValue89
  t154 := Tryd.underlying91
  a154 := Tryd.isAgg91
  z154 := Tryd.sizeOf91
  v154 := Tryd.zeroValue91
  t193 := Tryd.underlying108
  a193 := Tryd.isAgg108
  z193 := Tryd.sizeOf108
  v193 := Tryd.zeroValue108
  t194 := Tryd.underlying109
  a194 := Tryd.isAgg109
  z194 := Tryd.sizeOf109
  v194 := Tryd.zeroValue109
  t196 := Tryd.underlying111
  a196 := Tryd.isAgg111
  z196 := Tryd.sizeOf111
  v196 := Tryd.zeroValue111
  t198 := Tryd.underlying113
  a198 := Tryd.isAgg113
  z198 := Tryd.sizeOf113
  v198 := Tryd.zeroValue113
  t201 := Tryd.underlying116
  a201 := Tryd.isAgg116
  z201 := Tryd.sizeOf116
  v201 := Tryd.zeroValue116
  t226 := Tryd.underlying136
  a226 := Tryd.isAgg136
  z226 := Tryd.sizeOf136
  v226 := Tryd.zeroValue136
  t227 := Tryd.underlying137
  a227 := Tryd.isAgg137
  z227 := Tryd.sizeOf137
  v227 := Tryd.zeroValue137
  g0 := by kernel_rfl
  g6 := by kernel_rfl }
def Tryd.lays283_ren : Go.Shelf.Ren := ⟨fun | 283 => 54 | n => n, fun | 3 => 3 | 9 => 9 | 4 => 4 | n => n, fun | n => n⟩
theorem Tryd.lays283 : Go.Proofs.Lays.n283 Tryd.prog Tryd.lays283_ren := {
  mixed := by kernel_rfl
  f283 := Tryd.func54.trans (congrArg some (by kernel_rfl))
  t3 := Tryd.underlying3
  a3 := Tryd.isAgg3
  z3 := Tryd.sizeOf3
  v3 := Tryd.zeroValue3
  t4 := Tryd.underlying4
  a4 := Tryd.isAgg4
  z4 := Tryd.sizeOf4
  v4 := Tryd.zeroValue4
  t9 := Tryd.underlying9
  a9 := Tryd.isAgg9
  z9 := Tryd.sizeOf9
  v9 := Tryd.zeroValue9 }
def Tryd.lays110_ren : Go.Shelf.Ren := ⟨fun | 110 => 73 | 109 => 89 | n => n, fun | 31 => 54 | 9 => 9 | 4 => 4 | 3 => 3 | 0 => 0 | n => n, fun | n => n⟩
theorem Tryd.lays110 : Go.Proofs.Lays.n110 Tryd.prog Tryd.lays110_ren := {
  mixed := by kernel_rfl
  f109 := Tryd.func89.trans (congrArg some (by kernel_rfl))
  f110 := Tryd.func73.trans (congrArg some (by kernel_rfl))
  t0 := Tryd.underlying0
  a0 := Tryd.isAgg0
  z0 := Tryd.sizeOf0
  v0 := Tryd.zeroValue0
  t3 := Tryd.underlying3
  a3 := Tryd.isAgg3
  z3 := Tryd.sizeOf3
  v3 := Tryd.zeroValue3
  t4 := Tryd.underlying4
  a4 := Tryd.isAgg4
  z4 := Tryd.sizeOf4
  v4 := Tryd.zeroValue4
  t9 := Tryd.underlying9
  a9 := Tryd.isAgg9
  z9 := Tryd.sizeOf9
  v9 := Tryd.zeroValue9
  t31 := Tryd.underlying54
  a31 := Tryd.isAgg54
  z31 := Tryd.sizeOf54
  v31 := Tryd.zeroValue54 }
def Tryd.lays156_ren : Go.Shelf.Ren := ⟨fun | 156 => 31 | 165 => 44 | 166 => 45 | 169 => 46 | 240 => 58 | 241 => 59 | 276 => 80 | 277 => 81 | n => n, fun | 31 => 54 | 9 => 9 | 3 => 3 | 4 => 4 | 0 => 0 | 20 => 20 | 72 => 82 | 76 => 84 | 70 => 80 | 37 => 42 | 75 => 71 | 127 => 100 | 164 => 125 | 5 => 5 | 80 => 44 | n => n, fun | n => n⟩
theorem Tryd.lays156 : Go.Proofs.Lays.n156 Tryd.prog Tryd.lays156_ren := {
  mixed := by kernel_rfl
  f156 := Tryd.func31.trans (congrArg some (by kernel_rfl))
  f165 := Tryd.func44.trans (congrArg some (by kernel_rfl))
  f166 := Tryd.func45.trans (congrArg some (by kernel_rfl))
  f169 := Tryd.func46.trans (congrArg some (by kernel_rfl))
  f240 := Tryd.func58.trans (congrArg some (by kernel_rfl))
  f241 := Tryd.func59.trans (congrArg some (by kernel_rfl))
  f276 := Tryd.func80.trans (congrArg some (by kernel_rfl))
  f277 := Tryd.func81.trans (congrArg some (by kernel_rfl))
  t0 := Tryd.underlying0
  a0 := Tryd.isAgg0
  z0 := Tryd.sizeOf0
  v0 := Tryd.zeroValue0
  t3 := Tryd.underlying3
  a3 := Tryd.isAgg3
  z3 := Tryd.sizeOf3
  v3 := Tryd.zeroValue3
  t4 := Tryd.underlying4
  a4 := Tryd.isAgg4
  z4 := Tryd.sizeOf4
  v4 := Tryd.zeroValue4
  t9 := Tryd.underlying9
  a9 := Tryd.isAgg9
  z9 := Tryd.sizeOf9
  v9 := Tryd.zeroValue9
  t20 := Tryd.underlying20
  a20 := Tryd.isAgg20
  z20 := Tryd.sizeOf20
  v20 := Tryd.zeroValue20
  t31 := Tryd.underlying54
  a31 := Tryd.isAgg54
  z31 := Tryd.sizeOf54
  v31 := Tryd.zeroValue54
  t37 := Tryd.underlying42
  a37 := Tryd.isAgg42
  z37 := Tryd.sizeOf42
  v37 := Tryd.zeroValue42
  t70 := Tryd.underlying80
  a70 := Tryd.isAgg80
  z70 := Tryd.sizeOf80
  v70 := Tryd.zeroValue80
  t72 := Tryd.underlying82
  a72 := Tryd.isAgg82
  z72 := Tryd.sizeOf82
  v72 := Tryd.zeroValue82
  t75 := Tryd.underlying71
  a75 := Tryd.isAgg71
  z75 := Tryd.sizeOf71
  v75 := Tryd.zeroValue71
  t76 := Tryd.underlying84
  a76 := Tryd.isAgg84
  z76 := Tryd.sizeOf84
  v76 := Tryd.zeroValue84
  t127 := Tryd.underlying100
  a127 := Tryd.isAgg100
  z127 := Tryd.sizeOf100
  v127 := Tryd.zeroValue100
  t164 := Tryd.underlying125
  a164 := Tryd.isAgg125
  z164 := Tryd.sizeOf125
  v164 := Tryd.zeroValue125 }
end Go.Proofs
namespace Go.Proofs.YtminfdlhbecnhaaDoor
open Go.RowKit

/-- the table of blanks, as the program's start lays it -/
def Sp (w : World) : Prop := ∀ c : Nat, c < 256 → w.cell? ⟨Tryd.lays157_ren.g 0, c, none⟩ = some (.int .u8 (if Lib.isSp (UInt8.ofNat c) then 1 else 0))
theorem Sp.below {w w' : World} (h : Sp w) (hb : Below w.heap.size w w') : Sp w' := fun c hc => (hb.cell (p := ⟨Tryd.lays157_ren.g 0, c, none⟩) (block_lt_of_cell (h c hc))).trans (h c hc)
theorem Sp.of_tab {w : World} (h : Lib.TabIs Tryd.prog w "strings.asciiSpace" .u8 Lib.asciiSpaceTab) : Sp w := fun c hc => by
  rw [h.cell (show Tryd.prog.globalNamed "strings.asciiSpace" = some (Tryd.lays157_ren.g 0) by kernel_rfl) c (by rw [Lib.asciiSpaceTab_length]; exact hc), Lib.asciiSpaceTab_at c hc]

def strV (l : List UInt8) : Value := .string ⟨l.toArray⟩

theorem fields_is (s : ByteArray) (ls : List (List UInt8)) (n : Nat) (w : World) (hsp : Sp w) (hl : Lib.fields s.data.toList = ls) (hn : ls.length = n) (hs : s.size < 4294967281) (hall : (s.data.toList.all fun b => decide (b.toNat < 128)) = true) :
    Calls Tryd.prog 22 #[.string s] w fun e w' => e = .returned (.slice (some ⟨w.heap.size, 0, none⟩) n n) ∧ w' = w.alloc (.cells (ls.map strV).toArray 9) := by
  subst hl
  subst hn
  refine (Any.strings_Fields_core Tryd.lays157 (by kernel_rfl) s w hs (fun j b hb => of_decide_eq_true ((List.all_eq_true.1 hall) b (List.mem_of_getElem? hb))) hsp).mono ?_
  rintro e w' ⟨rfl, rfl⟩
  exact ⟨rfl, rfl⟩

theorem small_any (i : Nat) (h : i < 100) (w : World) : Calls Tryd.prog 54 #[.int .i64 i] w fun e w' => e = .returned (strV (Lib.decDigits i)) ∧ w' = w :=
  Any.internal_strconv_small Tryd.lays283 i h w

theorem contains_any (b n : Nat) (zs : List ByteArray) (x : ByteArray) (w : World) (hz : zs.length = n) (hbig : n ≤ 9223372036854775807) (hc : ∀ j, j < zs.length → w.cell? ⟨b, 0 + j, none⟩ = some (.string (zs.getD j ByteArray.empty))) :
    Calls Tryd.prog 73 #[.slice (some ⟨b, 0, none⟩) n n, .string x] w fun e w' => e = .returned (.bool (Lib.containsS zs x)) ∧ w' = w := by
  have h := Any.slices_Contains_string Tryd.lays110 b 0 n n zs x w (by omega) hbig hc
  rw [show zs.take n = zs by rw [← hz, List.take_length]] at h
  exact h

theorem extra : Builder.Extra Tryd.prog Tryd.lays156_ren where
  sizeBuilder := by kernel_rfl
  liesBuilder := by kernel_rfl
  t5 := by kernel_rfl
  a5 := fun w => by kernel_rfl
  z5 := fun w => by kernel_rfl
  v5 := fun w => by kernel_rfl
  infoByte := by kernel_rfl
  cellsByte := by kernel_rfl
  sizeByte := by kernel_rfl
  neB5 := by decide

theorem join_any (bk c n : Nat) (xs : List ByteArray) (sep : ByteArray) (w : World) (hn : xs.length = n)
    (hcells : ∀ (j : Nat) x, xs[j]? = some x → w.cell? ⟨bk, 0 + j, none⟩ = some (.string x)) (hbk : bk < w.heap.size) (hN : xs.length ≤ 140737488355328) (hcap : xs.length ≤ c)
    (hlen : (Lib.join (xs.map (·.data.toList)) sep.data.toList).length ≤ 140737488355328) :
    Calls Tryd.prog 31 #[.slice (some ⟨bk, 0, none⟩) n c, .string sep] w fun e w' => e = .returned (strV (Lib.join (xs.map (·.data.toList)) sep.data.toList)) ∧ Below w.heap.size w w' := by
  subst hn
  exact Any.strings_Join Tryd.lays156 extra bk 0 c xs sep w hcells hbk hN hcap hlen
end Go.Proofs.YtminfdlhbecnhaaDoor
