/- Off the shelf: strings.Fields, slices.Contains, strings.Join, internal/strconv.small. -/
import Derived.Ground.NamesProg
import Derived.Test.YtminfdlhbecnhaaDoorTokA
import Derived.Shelf.Lay
import Derived.Shelf.Strings.Fields
import Derived.Shelf.Strings.OnBuilder
import Derived.Shelf.Slices.Turned
import Derived.Shelf.Strconv.Itoa1
namespace Go.Proofs
open Go.Shelf Go.Lib Go.RowKit
shelf_lay Lays.n157 Nm 157 at Tryd as Tryd.lays157
shelf_lay Lays.n283 Nm 283 at Tryd as Tryd.lays283
shelf_lay Lays.n110 Nm 110 at Tryd as Tryd.lays110
shelf_lay Lays.n156 Nm 156 at Tryd as Tryd.lays156
end Go.Proofs
namespace Go.Proofs.YtminfdlhbecnhaaDoor
open Go.RowKit

/-- the table of blanks, as the program's start lays it -/
def Sp (w : World) : Prop := ∀ c : Nat, c < 256 → w.cell? ⟨Tryd.lays157_ren.g 0, c, none⟩ = some (.int .u8 (if Lib.isSp (UInt8.ofNat c) then 1 else 0))
theorem Sp.below {w w' : World} (h : Sp w) (hb : Below w.heap.size w w') : Sp w' := fun c hc => (hb.cell (p := ⟨Tryd.lays157_ren.g 0, c, none⟩) (block_lt_of_cell (h c hc))).trans (h c hc)
theorem Sp.of_tab {w : World} (h : Lib.TabIs Tryd.prog w "strings.asciiSpace" .u8 Lib.asciiSpaceTab) : Sp w := fun c hc => by
  rw [h.cell (show Tryd.prog.globalNamed "strings.asciiSpace" = some (Tryd.lays157_ren.g 0) by kernel_rfl) c (by rw [Lib.asciiSpaceTab_length]; exact hc), Lib.asciiSpaceTab_at c hc]

def strV (l : List UInt8) : Value := .string ⟨l.toArray⟩

theorem fields_is (s : ByteArray) (ls : List (List UInt8)) (n : Nat) (w : World) (hsp : Sp w) (hl : Lib.fields s.data.toList = ls) (hn : ls.length = n) (hs : s.size < 4294967281) (hall : (s.data.toList.all fun b => decide (b.toNat < 128)) = true) :
    Calls Tryd.prog 22 #[.string s] w fun e w' => e = .returned (.slice (some ⟨w.heap.size, 0, none⟩) n n) ∧ w' = w.alloc (.cells (ls.map strV).toArray 9) := by
  subst hl
  subst hn
  refine (Any.strings_Fields_core Tryd.lays157 (by kernel_rfl) s w hs (fun j b hb => of_decide_eq_true ((List.all_eq_true.1 hall) b (List.mem_of_getElem? hb))) hsp).mono ?_
  rintro e w' ⟨rfl, rfl⟩
  exact ⟨rfl, rfl⟩

theorem small_any (i : Nat) (h : i < 100) (w : World) : Calls Tryd.prog 54 #[.int .i64 i] w fun e w' => e = .returned (strV (Lib.decDigits i)) ∧ w' = w :=
  Any.internal_strconv_small Tryd.lays283 i h w

theorem contains_any (b n : Nat) (zs : List ByteArray) (x : ByteArray) (w : World) (hz : zs.length = n) (hbig : n ≤ 9223372036854775807) (hc : ∀ j, j < zs.length → w.cell? ⟨b, 0 + j, none⟩ = some (.string (zs.getD j ByteArray.empty))) :
    Calls Tryd.prog 73 #[.slice (some ⟨b, 0, none⟩) n n, .string x] w fun e w' => e = .returned (.bool (Lib.containsS zs x)) ∧ w' = w := by
  have h := Any.slices_Contains_string Tryd.lays110 b 0 n n zs x w (by omega) hbig hc
  rw [show zs.take n = zs by rw [← hz, List.take_length]] at h
  exact h

theorem extra : Builder.Extra Tryd.prog Tryd.lays156_ren where
  sizeBuilder := by kernel_rfl
  liesBuilder := by kernel_rfl
  t5 := by kernel_rfl
  a5 := fun w => by kernel_rfl
  z5 := fun w => by kernel_rfl
  v5 := fun w => by kernel_rfl
  infoByte := by kernel_rfl
  cellsByte := by kernel_rfl
  sizeByte := by kernel_rfl
  neB5 := by decide

theorem join_any (bk c n : Nat) (xs : List ByteArray) (sep : ByteArray) (w : World) (hn : xs.length = n)
    (hcells : ∀ (j : Nat) x, xs[j]? = some x → w.cell? ⟨bk, 0 + j, none⟩ = some (.string x)) (hbk : bk < w.heap.size) (hN : xs.length ≤ 140737488355328) (hcap : xs.length ≤ c)
    (hlen : (Lib.join (xs.map (·.data.toList)) sep.data.toList).length ≤ 140737488355328) :
    Calls Tryd.prog 31 #[.slice (some ⟨bk, 0, none⟩) n c, .string sep] w fun e w' => e = .returned (strV (Lib.join (xs.map (·.data.toList)) sep.data.toList)) ∧ Below w.heap.size w w' := by
  subst hn
  exact Any.strings_Join Tryd.lays156 extra bk 0 c xs sep w hcells hbk hN hcap hlen
end Go.Proofs.YtminfdlhbecnhaaDoor
