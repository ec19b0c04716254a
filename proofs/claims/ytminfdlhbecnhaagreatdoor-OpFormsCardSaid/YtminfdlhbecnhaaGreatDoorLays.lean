/- Off the shelf: strings.Fields, slices.Contains, strings.Join, internal/strconv.small. -/
import Derived.Ground.NamesProg
import Derived.Test.YtminfdlhbecnhaaGreatDoorTokA
import Derived.Shelf.Strings.Fields
import Derived.Shelf.Strings.OnBuilder
import Derived.Shelf.Slices.Turned
import Derived.Shelf.Strconv.Itoa1
namespace Go.Proofs
open Go.Shelf Go.Lib Go.RowKit
def Tryz.lays157_ren : Go.Shelf.Ren := ⟨fun | 157 => 42 | 229 => 61 | 199 => 62 | 261 => 83 | 311 => 99 | 312 => 100 | n => n, fun | 9 => 9 | 31 => 57 | 3 => 3 | 5 => 5 | 4 => 4 | 119 => 95 | 0 => 0 | 40 => 97 | 152 => 114 | 21 => 21 | 154 => 116 | 51 => 117 | 141 => 119 | 196 => 141 | 193 => 138 | 198 => 144 | 49 => 142 | 194 => 139 | 201 => 147 | 226 => 153 | 46 => 82 | 227 => 154 | n => n, fun | 0 => 0 | 6 => 1 | n => n⟩
theorem Tryz.lays157 : Go.Proofs.Lays.n157 Tryz.prog Tryz.lays157_ren := {
  mixed := by kernel_rfl
  f157 := Tryz.func42.trans (congrArg some (by kernel_rfl))
  f199 := Tryz.func62.trans (congrArg some (by kernel_rfl))
  f229 := Tryz.func61.trans (congrArg some (by kernel_rfl))
  f261 := Tryz.func83.trans (congrArg some (by kernel_rfl))
  f311 := Tryz.func99.trans (congrArg some (by kernel_rfl))
  f312 := Tryz.func100.trans (congrArg some (by kernel_rfl))
  t0 := Tryz.underlying0
  a0 := Tryz.isAgg0
  z0 := Tryz.sizeOf0
  v0 := Tryz.zeroValue0
  t3 := Tryz.underlying3
  a3 := Tryz.isAgg3
  z3 := Tryz.sizeOf3
  v3 := Tryz.zeroValue3
  t4 := Tryz.underlying4
  a4 := Tryz.isAgg4
  z4 := Tryz.sizeOf4
  v4 := Tryz.zeroValue4
  t5 := Tryz.underlying5
  a5 := Tryz.isAgg5
  z5 := Tryz.sizeOf5
  v5 := Tryz.zeroValue5
  t9 := Tryz.underlying9
  a9 := Tryz.isAgg9
  z9 := Tryz.sizeOf9
  v9 := Tryz.zeroValue9
  t21 := Tryz.underlying21
  a21 := Tryz.isAgg21
  z21 := Tryz.sizeOf21
  v21 := Tryz.zeroValue21
  t31 := Tryz.underlying57
  a31 := Tryz.isAgg57
  z31 := Tryz.sizeOf57
  v31 := Tryz.zeroValue57
  t40 := Tryz.underlying97
  a40 := Tryz.isAgg97
  z40 := Tryz.sizeOf97
  v40 := Tryz.zeroValue97
  t46 := Tryz.underlying82
  a46 := Tryz.isAgg82
  z46 := Tryz.sizeOf82
  v46 := Tryz.zeroValue82
  t49 := Tryz.underlying142
  a49 := Tryz.isAgg142
  z49 := Tryz.sizeOf142
  v49 := Tryz.zeroValue142
  t51 := Tryz.underlying117
  a51 := Tryz.isAgg117
  z51 := Tryz.sizeOf117
  v51 := Tryz.zeroValue117
  t119 := Tryz.underlying95
  a119 := Tryz.isAgg95
  z119 := Tryz.sizeOf95
  t141 := Tryz.underlying119
  a141 := Tryz.isAgg119
  z141 := Tryz.sizeOf119
  v141 := Tryz.zeroValue119
  t152 := Tryz.underlying114
  a152 := Tryz.isAgg114
  z152 := Tryz.sizeOf114
  v152 := Tryz.zeroValue114
  t154 := Tryz.underlying116
  a154 := Tryz.isAgg116
  z154 := Tryz.sizeOf116
  v154 := Tryz.zeroValue116
  t193 := Tryz.underlying138
  a193 := Tryz.isAgg138
  z193 := Tryz.sizeOf138
  v193 := Tryz.zeroValue138
  t194 := Tryz.underlying139
  a194 := Tryz.isAgg139
  z194 := Tryz.sizeOf139
  v194 := Tryz.zeroValue139
  t196 := Tryz.underlying141
  a196 := Tryz.isAgg141
  z196 := Tryz.sizeOf141
  v196 := Tryz.zeroValue141
  t198 := Tryz.underlying144
  a198 := Tryz.isAgg144
  z198 := Tryz.sizeOf144
  v198 := Tryz.zeroValue144
  t201 := Tryz.underlying147
  a201 := Tryz.isAgg147
  z201 := Tryz.sizeOf147
  v201 := Tryz.zeroValue147
  t226 := Tryz.underlying153
  a226 := Tryz.isAgg153
  z226 := Tryz.sizeOf153
  v226 := Tryz.zeroValue153
  t227 := Tryz.underlying154
  a227 := Tryz.isAgg154
  z227 := Tryz.sizeOf154
  v227 := Tryz.zeroValue154
  g0 := by kernel_rfl
  g6 := by kernel_rfl }
def Tryz.lays283_ren : Go.Shelf.Ren := ⟨fun | 283 => 68 | n => n, fun | 3 => 3 | 9 => 9 | 4 => 4 | n => n, fun | n => n⟩
theorem Tryz.lays283 : Go.Proofs.Lays.n283 Tryz.prog Tryz.lays283_ren := {
  mixed := by kernel_rfl
  f283 := Tryz.func68.trans (congrArg some (by kernel_rfl))
  t3 := Tryz.underlying3
  a3 := Tryz.isAgg3
  z3 := Tryz.sizeOf3
  v3 := Tryz.zeroValue3
  t4 := Tryz.underlying4
  a4 := Tryz.isAgg4
  z4 := Tryz.sizeOf4
  v4 := Tryz.zeroValue4
  t9 := Tryz.underlying9
  a9 := Tryz.isAgg9
  z9 := Tryz.sizeOf9
  v9 := Tryz.zeroValue9 }
def Tryz.lays110_ren : Go.Shelf.Ren := ⟨fun | 110 => 66 | 109 => 84 | n => n, fun | 31 => 57 | 9 => 9 | 4 => 4 | 3 => 3 | 0 => 0 | n => n, fun | n => n⟩
theorem Tryz.lays110 : Go.Proofs.Lays.n110 Tryz.prog Tryz.lays110_ren := {
  mixed := by kernel_rfl
  f109 := Tryz.func84.trans (congrArg some (by kernel_rfl))
  f110 := Tryz.func66.trans (congrArg some (by kernel_rfl))
  t0 := Tryz.underlying0
  a0 := Tryz.isAgg0
  z0 := Tryz.sizeOf0
  v0 := Tryz.zeroValue0
  t3 := Tryz.underlying3
  a3 := Tryz.isAgg3
  z3 := Tryz.sizeOf3
  v3 := Tryz.zeroValue3
  t4 := Tryz.underlying4
  a4 := Tryz.isAgg4
  z4 := Tryz.sizeOf4
  v4 := Tryz.zeroValue4
  t9 := Tryz.underlying9
  a9 := Tryz.isAgg9
  z9 := Tryz.sizeOf9
  v9 := Tryz.zeroValue9
  t31 := Tryz.underlying57
  a31 := Tryz.isAgg57
  z31 := Tryz.sizeOf57
  v31 := Tryz.zeroValue57 }
def Tryz.lays156_ren : Go.Shelf.Ren := ⟨fun | 156 => 29 | 165 => 51 | 166 => 52 | 169 => 53 | 240 => 72 | 241 => 73 | 276 => 90 | 277 => 91 | n => n, fun | 31 => 57 | 9 => 9 | 3 => 3 | 4 => 4 | 0 => 0 | 20 => 20 | 72 => 86 | 76 => 88 | 70 => 84 | 37 => 26 | 75 => 70 | 127 => 106 | 164 => 127 | 5 => 5 | 80 => 35 | n => n, fun | n => n⟩
theorem Tryz.lays156 : Go.Proofs.Lays.n156 Tryz.prog Tryz.lays156_ren := {
  mixed := by kernel_rfl
  f156 := Tryz.func29.trans (congrArg some (by kernel_rfl))
  f165 := Tryz.func51.trans (congrArg some (by kernel_rfl))
  f166 := Tryz.func52.trans (congrArg some (by kernel_rfl))
  f169 := Tryz.func53.trans (congrArg some (by kernel_rfl))
  f240 := Tryz.func72.trans (congrArg some (by kernel_rfl))
  f241 := Tryz.func73.trans (congrArg some (by kernel_rfl))
  f276 := Tryz.func90.trans (congrArg some (by kernel_rfl))
  f277 := Tryz.func91.trans (congrArg some (by kernel_rfl))
  t0 := Tryz.underlying0
  a0 := Tryz.isAgg0
  z0 := Tryz.sizeOf0
  v0 := Tryz.zeroValue0
  t3 := Tryz.underlying3
  a3 := Tryz.isAgg3
  z3 := Tryz.sizeOf3
  v3 := Tryz.zeroValue3
  t4 := Tryz.underlying4
  a4 := Tryz.isAgg4
  z4 := Tryz.sizeOf4
  v4 := Tryz.zeroValue4
  t9 := Tryz.underlying9
  a9 := Tryz.isAgg9
  z9 := Tryz.sizeOf9
  v9 := Tryz.zeroValue9
  t20 := Tryz.underlying20
  a20 := Tryz.isAgg20
  z20 := Tryz.sizeOf20
  v20 := Tryz.zeroValue20
  t31 := Tryz.underlying57
  a31 := Tryz.isAgg57
  z31 := Tryz.sizeOf57
  v31 := Tryz.zeroValue57
  t37 := Tryz.underlying26
  a37 := Tryz.isAgg26
  z37 := Tryz.sizeOf26
  v37 := Tryz.zeroValue26
  t70 := Tryz.underlying84
  a70 := Tryz.isAgg84
  z70 := Tryz.sizeOf84
  v70 := Tryz.zeroValue84
  t72 := Tryz.underlying86
  a72 := Tryz.isAgg86
  z72 := Tryz.sizeOf86
  v72 := Tryz.zeroValue86
  t75 := Tryz.underlying70
  a75 := Tryz.isAgg70
  z75 := Tryz.sizeOf70
  v75 := Tryz.zeroValue70
  t76 := Tryz.underlying88
  a76 := Tryz.isAgg88
  z76 := Tryz.sizeOf88
  v76 := Tryz.zeroValue88
  t127 := Tryz.underlying106
  a127 := Tryz.isAgg106
  z127 := Tryz.sizeOf106
  v127 := Tryz.zeroValue106
  t164 := Tryz.underlying127
  a164 := Tryz.isAgg127
  z164 := Tryz.sizeOf127
  v164 := Tryz.zeroValue127 }
end Go.Proofs
namespace Go.Proofs.YtminfdlhbecnhaaGreatDoor
open Go.RowKit

/-- the table of blanks, as the program's start lays it -/
def Sp (w : World) : Prop := ∀ c : Nat, c < 256 → w.cell? ⟨Tryz.lays157_ren.g 0, c, none⟩ = some (.int .u8 (if Lib.isSp (UInt8.ofNat c) then 1 else 0))
theorem Sp.below {w w' : World} (h : Sp w) (hb : Below w.heap.size w w') : Sp w' := fun c hc => (hb.cell (p := ⟨Tryz.lays157_ren.g 0, c, none⟩) (block_lt_of_cell (h c hc))).trans (h c hc)
theorem Sp.of_tab {w : World} (h : Lib.TabIs Tryz.prog w "strings.asciiSpace" .u8 Lib.asciiSpaceTab) : Sp w := fun c hc => by
  rw [h.cell (show Tryz.prog.globalNamed "strings.asciiSpace" = some (Tryz.lays157_ren.g 0) by kernel_rfl) c (by rw [Lib.asciiSpaceTab_length]; exact hc), Lib.asciiSpaceTab_at c hc]

def strV (l : List UInt8) : Value := .string ⟨l.toArray⟩

theorem fields_is (s : ByteArray) (ls : List (List UInt8)) (n : Nat) (w : World) (hsp : Sp w) (hl : Lib.fields s.data.toList = ls) (hn : ls.length = n) (hs : s.size < 4294967281) (hall : (s.data.toList.all fun b => decide (b.toNat < 128)) = true) :
    Calls Tryz.prog 42 #[.string s] w fun e w' => e = .returned (.slice (some ⟨w.heap.size, 0, none⟩) n n) ∧ w' = w.alloc (.cells (ls.map strV).toArray 9) := by
  subst hl
  subst hn
  refine (Any.strings_Fields_core Tryz.lays157 (by kernel_rfl) s w hs (fun j b hb => of_decide_eq_true ((List.all_eq_true.1 hall) b (List.mem_of_getElem? hb))) hsp).mono ?_
  rintro e w' ⟨rfl, rfl⟩
  exact ⟨rfl, rfl⟩

theorem small_any (i : Nat) (h : i < 100) (w : World) : Calls Tryz.prog 68 #[.int .i64 i] w fun e w' => e = .returned (strV (Lib.decDigits i)) ∧ w' = w :=
  Any.internal_strconv_small Tryz.lays283 i h w

theorem contains_any (b n : Nat) (zs : List ByteArray) (x : ByteArray) (w : World) (hz : zs.length = n) (hbig : n ≤ 9223372036854775807) (hc : ∀ j, j < zs.length → w.cell? ⟨b, 0 + j, none⟩ = some (.string (zs.getD j ByteArray.empty))) :
    Calls Tryz.prog 66 #[.slice (some ⟨b, 0, none⟩) n n, .string x] w fun e w' => e = .returned (.bool (Lib.containsS zs x)) ∧ w' = w := by
  have h := Any.slices_Contains_string Tryz.lays110 b 0 n n zs x w (by omega) hbig hc
  rw [show zs.take n = zs by rw [← hz, List.take_length]] at h
  exact h

theorem extra : Builder.Extra Tryz.prog Tryz.lays156_ren where
  sizeBuilder := by kernel_rfl
  liesBuilder := by kernel_rfl
  t5 := by kernel_rfl
  a5 := fun w => by kernel_rfl
  z5 := fun w => by kernel_rfl
  v5 := fun w => by kernel_rfl
  infoByte := by kernel_rfl
  cellsByte := by kernel_rfl
  sizeByte := by kernel_rfl
  neB5 := by decide

theorem join_any (bk c n : Nat) (xs : List ByteArray) (sep : ByteArray) (w : World) (hn : xs.length = n)
    (hcells : ∀ (j : Nat) x, xs[j]? = some x → w.cell? ⟨bk, 0 + j, none⟩ = some (.string x)) (hbk : bk < w.heap.size) (hN : xs.length ≤ 140737488355328) (hcap : xs.length ≤ c)
    (hlen : (Lib.join (xs.map (·.data.toList)) sep.data.toList).length ≤ 140737488355328) :
    Calls Tryz.prog 29 #[.slice (some ⟨bk, 0, none⟩) n c, .string sep] w fun e w' => e = .returned (strV (Lib.join (xs.map (·.data.toList)) sep.data.toList)) ∧ Below w.heap.size w w' := by
  subst hn
  exact Any.strings_Join Tryz.lays156 extra bk 0 c xs sep w hcells hbk hN hcap hlen
end Go.Proofs.YtminfdlhbecnhaaGreatDoor
