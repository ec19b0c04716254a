/- Merged: op/TokA op/Lays op/OpWords op/OpRight op/Class8 op/OpRef op/OpRefR token/TkP op/Spl token/NumP token/TkNum token/TkRun token/TkSkip token/TkNext token/TkSign token/TkAll. -/
import Derived.Test.YtljdphpbalioaaaGreatDoorChecked
import Derived.Test.YtljdphpbalioaaaGreatDoorPreA
import Derived.Ground.NamesProg
import Derived.Shelf.Strings.Fields
import Derived.Shelf.Strings.OnBuilder
import Derived.Shelf.Slices.Turned
import Derived.Shelf.Strconv.Itoa1
import Derived.Laws.BitsLemmas
import Derived.Deep.QuietTactic
import Derived.BigQuiet
import Derived.Deep.RegionHeld3
import Derived.Lib.Split
import Derived.Lib.ItoaNum
import Derived.Lib.Join
import Derived.Lib.ParseIntB
import Derived.Shelf.Strconv.ParseIntPublic10
import Derived.Shelf.Strconv.Itoa4
import Derived.Lib.AppendIntMem
/- Walks: letters, digits, what is shaped as a name. -/
namespace Go.Proofs.YtljdphpbalioaaaGreatDoor
open Go.RowKit

def letN (n : Nat) : Bool := decide (97 ≤ n) && decide (n ≤ 122) || (decide (65 ≤ n) && decide (n ≤ 90) || decide (n = 95))
def digN (n : Nat) : Bool := decide (48 ≤ n) && decide (n ≤ 57)

set_option maxRecDepth 10000 in
theorem letter_any (n : Nat) (w : World) : Calls Tryz.prog 58 #[.int .u8 n] w fun e w' => e = .returned (.bool (letN n)) ∧ w' = w := by
  obtain ⟨x, hx⟩ : ∃ x, x = letN n := ⟨_, rfl⟩
  rw [← hx]
  unfold letN at hx
  have c1 : decide ((97 : Int) ≤ n) = decide (97 ≤ n) := by rw [Bool.eq_iff_iff, decide_eq_true_iff, decide_eq_true_iff]; omega
  have c2 : decide ((n : Int) ≤ 122) = decide (n ≤ 122) := by rw [Bool.eq_iff_iff, decide_eq_true_iff, decide_eq_true_iff]; omega
  have c3 : decide ((65 : Int) ≤ n) = decide (65 ≤ n) := by rw [Bool.eq_iff_iff, decide_eq_true_iff, decide_eq_true_iff]; omega
  have c4 : decide ((n : Int) ≤ 90) = decide (n ≤ 90) := by rw [Bool.eq_iff_iff, decide_eq_true_iff, decide_eq_true_iff]; omega
  have c5 : decide ((n : Int) = 95) = decide (n = 95) := by rw [Bool.eq_iff_iff, decide_eq_true_iff, decide_eq_true_iff]; omega
  have c6 : ((n : Int) == 95) = decide ((n : Int) = 95) := rfl
  rw [c5] at c6
  generalize decide (97 ≤ n) = b1 at *
  generalize decide (n ≤ 122) = b2 at *
  generalize decide (65 ≤ n) = b3 at *
  generalize decide (n ≤ 90) = b4 at *
  generalize decide (n = 95) = b5 at *
  have HX := Lib.hid hx
  clear hx
  cases b1 <;> cases b2 <;> cases b3 <;> cases b4 <;> cases b5 <;> (
    go_enter Tryz.func58, Tryz.ntmps58
    go_wp2
    go_ret
    exact ⟨by rw [HX.out]; rfl, rfl⟩)

set_option maxRecDepth 10000 in
theorem digit_any (n : Nat) (w : World) : Calls Tryz.prog 59 #[.int .u8 n] w fun e w' => e = .returned (.bool (digN n)) ∧ w' = w := by
  obtain ⟨x, hx⟩ : ∃ x, x = digN n := ⟨_, rfl⟩
  rw [← hx]
  unfold digN at hx
  have c1 : decide ((48 : Int) ≤ n) = decide (48 ≤ n) := by rw [Bool.eq_iff_iff, decide_eq_true_iff, decide_eq_true_iff]; omega
  have c2 : decide ((n : Int) ≤ 57) = decide (n ≤ 57) := by rw [Bool.eq_iff_iff, decide_eq_true_iff, decide_eq_true_iff]; omega
  generalize decide (48 ≤ n) = b1 at *
  generalize decide (n ≤ 57) = b2 at *
  have HX := Lib.hid hx
  clear hx
  cases b1 <;> cases b2 <;> (
    go_enter Tryz.func59, Tryz.ntmps59
    go_wp2
    go_ret
    exact ⟨by rw [HX.out]; rfl, rfl⟩)

def shapedB (l : List UInt8) : Bool := !l.isEmpty && decide (l.length ≤ 64) && letN (l.getD 0 0).toNat && l.all (fun b => letN b.toNat || digN b.toNat)

theorem str_isEmpty (s : ByteArray) : s.toList.isEmpty = decide (s.size = 0) := by
  rw [ByteArray.toList_eq, Bool.eq_iff_iff, decide_eq_true_iff, List.isEmpty_iff]
  constructor
  · intro h
    show s.data.size = 0
    rw [← Array.length_toList, h]
    rfl
  · intro h
    exact List.eq_nil_of_length_eq_zero (by rw [Array.length_toList]; exact h)

theorem str_at (s : ByteArray) (k : Nat) (h : k < s.size) : s.data.toList[k]? = some (s[k]'h) := by
  rw [Array.getElem?_toList]
  exact Array.getElem?_eq_getElem h

theorem str_len (s : ByteArray) : s.data.toList.length = s.size := Array.length_toList

theorem shaped_not (s : ByteArray) (k : Nat) (h : k < s.size) (hb : (letN (s[k]'h).toNat || digN (s[k]'h).toNat) = false) : shapedB s.data.toList = false := by
  unfold shapedB
  rw [Bool.and_eq_false_iff]
  refine .inr (Bool.eq_false_iff.2 fun ha => ?_)
  have := (List.all_eq_true.1 ha) _ (List.mem_of_getElem? (str_at s k h))
  rw [this] at hb
  cases hb

theorem shaped_yes (s : ByteArray) (h0 : 0 < s.size) (h64 : s.size ≤ 64) (hl : letN (s[0]'h0).toNat = true) (ha : ∀ j (h : j < s.size), (letN (s[j]'h).toNat || digN (s[j]'h).toNat) = true) : shapedB s.data.toList = true := by
  unfold shapedB
  have e1 : s.data.toList.isEmpty = false := by
    rw [Bool.eq_false_iff]
    intro h
    have := str_len s
    rw [List.isEmpty_iff.1 h] at this
    simp at this
    omega
  have e2 : decide (s.data.toList.length ≤ 64) = true := decide_eq_true (by rw [str_len]; exact h64)
  have e3 : s.data.toList.getD 0 0 = s[0]'h0 := by rw [List.getD_eq_getElem?_getD, str_at s 0 h0]; rfl
  rw [e1, e2, e3, hl]
  simp only [Bool.not_false, Bool.true_and]
  refine List.all_eq_true.2 fun b hb => ?_
  obtain ⟨j, hj⟩ := List.getElem?_of_mem hb
  have hlt : j < s.size := by
    rcases Nat.lt_or_ge j s.size with h | h
    · exact h
    · rw [List.getElem?_eq_none (by rw [str_len]; exact h)] at hj; cases hj
  rw [str_at s j hlt] at hj
  cases hj
  exact ha j hlt

set_option maxRecDepth 10000 in
set_option maxHeartbeats 1600000 in
theorem shaped_any (s : ByteArray) (w : World) (hs : s.size ≤ 9223372036854775807) : Calls Tryz.prog 39 #[.string s] w fun e w' => e = .returned (.bool (shapedB s.data.toList)) ∧ w' = w := by
  obtain ⟨x, hx⟩ : ∃ x, x = shapedB s.data.toList := ⟨_, rfl⟩
  rw [← hx]
  have HX := Lib.hid hx
  clear hx
  have hse := str_isEmpty s
  by_cases h0 : s.size = 0
  · rw [decide_eq_true h0] at hse
    have hr : x = false := by
      rw [HX.out]
      unfold shapedB
      have : s.data.toList = [] := List.eq_nil_of_length_eq_zero (by rw [str_len]; exact h0)
      rw [this]
      rfl
    subst hr
    clear h0 hs
    go_enter Tryz.func39, Tryz.ntmps39
    go_wp2_with fail
    go_ret
    exact ⟨rfl, rfl⟩
  rw [decide_eq_false h0] at hse
  have hpos : 0 < s.size := by omega
  by_cases h64 : 64 < s.size
  · have hd : decide ((64 : Int) < s.size) = true := decide_eq_true (by omega)
    have hr : x = false := by
      rw [HX.out]
      unfold shapedB
      have : decide (s.data.toList.length ≤ 64) = false := decide_eq_false (by rw [str_len]; omega)
      rw [this]
      simp
    subst hr
    clear h0 hs
    go_enter Tryz.func39, Tryz.ntmps39
    go_wp2_with fail
    go_ret
    exact ⟨rfl, rfl⟩
  have hd : decide ((64 : Int) < s.size) = false := decide_eq_false (by omega)
  have H64 : Hid (s.size ≤ 64) := Lib.hid (by omega)
  have h64s : s.size ≤ 64 := by omega
  clear h0 h64 hs
  go_enter Tryz.func39, Tryz.ntmps39
  go_wp2_with fail
  refine (letter_any _ w).mono ?_
  rintro e w1 ⟨rfl, hw⟩
  have hw' := hw.symm
  subst hw'
  clear hw
  cases hlt : letN (s[0]'hpos).toNat with
  | false =>
    have hr : x = false := by
      rw [HX.out]
      unfold shapedB
      have e3 : s.data.toList.getD 0 0 = s[0]'hpos := by rw [List.getD_eq_getElem?_getD, str_at s 0 hpos]; rfl
      rw [e3, hlt]
      simp
    subst hr
    clear hlt
    go_wp2_with fail
    go_ret
    exact ⟨rfl, rfl⟩
  | true =>
    have HLT := Lib.hid hlt
    clear hlt
    go_wp2_with fail
    go_loopw [3, 19] (fun _ i wr => ∃ k : Nat, k ≤ s.size ∧ i = .int .i64 k ∧ wr = w ∧ Hid (∀ j (h : j < s.size), j < k → (letN (s[j]'h).toNat || digN (s[j]'h).toNat) = true)) (fun _ i _ => s.size - (intOf i).toNat)
    case atStart => exact ⟨0, by omega, rfl, rfl, Lib.hid fun j _ h => absurd h (Nat.not_lt_zero j)⟩
    case round =>
      obtain ⟨k, hk, rfl, rfl, hr⟩ := hrel
      by_cases hlt : k < s.size
      · cases hb : (letN (s[k]'hlt).toNat || digN (s[k]'hlt).toNat) with
        | false =>
          have hr2 : x = false := by rw [HX.out]; exact shaped_not s k hlt hb
          subst hr2
          obtain ⟨b1, b2⟩ := Bool.or_eq_false_iff.1 hb
          have B1 := Lib.hid b1
          have B2 := Lib.hid b2
          clear hb b1 b2
          go_wp2_with fail
          refine (letter_any _ _).mono ?_
          rintro e w1 ⟨rfl, hw⟩
          have hw' := hw.symm
          subst hw'
          clear hw
          rw [B1.out]
          go_wp2_with fail
          refine (digit_any _ _).mono ?_
          rintro e w2 ⟨rfl, hw⟩
          have hw' := hw.symm
          subst hw'
          clear hw
          rw [B2.out]
          go_wp2_with fail
          go_ret
          exact ⟨rfl, rfl⟩
        | true =>
          have hn : Hid (∀ j (h : j < s.size), j < k + 1 → (letN (s[j]'h).toNat || digN (s[j]'h).toNat) = true) := Lib.hid fun j h hj => by
            rcases Nat.lt_or_ge j k with h' | h'
            · exact hr.out j h h'
            · have : j = k := by omega
              subst this
              exact hb
          clear hr
          cases h1 : letN (s[k]'hlt).toNat with
          | true =>
            have B1 := Lib.hid h1
            clear hb h1
            go_wp2_with fail
            refine (letter_any _ _).mono ?_
            rintro e w1 ⟨rfl, hw⟩
            have hw' := hw.symm
            subst hw'
            clear hw
            rw [B1.out]
            go_wp2_with fail
            go_roundw
            case rel => exact ⟨k + 1, by omega, by go_num, by trivial, hn⟩
            case measure => simp [intOf]; try omega
          | false =>
            rw [h1, Bool.false_or] at hb
            have B1 := Lib.hid h1
            have B2 := Lib.hid hb
            clear hb h1
            go_wp2_with fail
            refine (letter_any _ _).mono ?_
            rintro e w1 ⟨rfl, hw⟩
            have hw' := hw.symm
            subst hw'
            clear hw
            rw [B1.out]
            go_wp2_with fail
            refine (digit_any _ _).mono ?_
            rintro e w2 ⟨rfl, hw⟩
            have hw' := hw.symm
            subst hw'
            clear hw
            rw [B2.out]
            go_wp2_with fail
            go_roundw
            case rel => exact ⟨k + 1, by omega, by go_num, by trivial, hn⟩
            case measure => simp [intOf]; try omega
      · have e2 : k = s.size := by omega
        subst e2
        have hr2 : x = true := by rw [HX.out]; exact shaped_yes s hpos H64.out HLT.out fun j h => hr.out j h h
        subst hr2
        clear hr hlt hk
        go_wp2_with fail
        go_ret
        exact ⟨rfl, rfl⟩
end Go.Proofs.YtljdphpbalioaaaGreatDoor
/- Off the shelf: strings.Fields, slices.Contains, strings.Join, internal/strconv.small. -/
namespace Go.Proofs
open Go.Shelf Go.Lib Go.RowKit
def Tryz.lays157_ren : Go.Shelf.Ren := ⟨fun | 157 => 22 | 229 => 33 | 199 => 34 | 261 => 57 | 311 => 76 | 312 => 77 | n => n, fun | 9 => 9 | 31 => 65 | 3 => 3 | 5 => 5 | 4 => 4 | 119 => 84 | 0 => 0 | 40 => 86 | 152 => 102 | 21 => 21 | 154 => 104 | 51 => 105 | 141 => 107 | 196 => 121 | 193 => 118 | 198 => 123 | 49 => 22 | 194 => 119 | 201 => 126 | 226 => 142 | 46 => 101 | 227 => 143 | n => n, fun | 0 => 1 | 6 => 2 | n => n⟩
theorem Tryz.lays157 : Go.Proofs.Lays.n157 Tryz.prog Tryz.lays157_ren := {
  mixed := by kernel_rfl
  f157 := Tryz.func22.trans (congrArg some (by kernel_rfl))
  f199 := Tryz.func34.trans (congrArg some (by kernel_rfl))
  f229 := Tryz.func33.trans (congrArg some (by kernel_rfl))
  f261 := Tryz.func57.trans (congrArg some (by kernel_rfl))
  f311 := Tryz.func76.trans (congrArg some (by kernel_rfl))
  f312 := Tryz.func77.trans (congrArg some (by kernel_rfl))
  t0 := Tryz.underlying0
  a0 := Tryz.isAgg0
  z0 := Tryz.sizeOf0
  v0 := Tryz.zeroValue0
  t3 := Tryz.underlying3
  a3 := Tryz.isAgg3
  z3 := Tryz.sizeOf3
  v3 := Tryz.zeroValue3
  t4 := Tryz.underlying4
  a4 := Tryz.isAgg4
  z4 := Tryz.sizeOf4
  v4 := Tryz.zeroValue4
  t5 := Tryz.underlying5
  a5 := Tryz.isAgg5
  z5 := Tryz.sizeOf5
  v5 := Tryz.zeroValue5
  t9 := Tryz.underlying9
  a9 := Tryz.isAgg9
  z9 := Tryz.sizeOf9
  v9 := Tryz.zeroValue9
  t21 := Tryz.underlying21
  a21 := Tryz.isAgg21
  z21 := Tryz.sizeOf21
  v21 := Tryz.zeroValue21
  t31 := Tryz.underlying65
  a31 := Tryz.isAgg65
  z31 := Tryz.sizeOf65
  v31 := Tryz.zeroValue65
  t40 := Tryz.underlying86
  a40 := Tryz.isAgg86
  z40 := Tryz.sizeOf86
  v40 := Tryz.zeroValue86
  t46 := Tryz.underlying101
  a46 := Tryz.isAgg101
  z46 := Tryz.sizeOf101
  v46 := Tryz.zeroValue101
  t49 := Tryz.underlying22
  a49 := Tryz.isAgg22
  z49 := Tryz.sizeOf22
  v49 := Tryz.zeroValue22
  t51 := Tryz.underlying105
  a51 := Tryz.isAgg105
  z51 := Tryz.sizeOf105
  v51 := Tryz.zeroValue105
  t119 := Tryz.underlying84
  a119 := Tryz.isAgg84
  z119 := Tryz.sizeOf84
  t141 := Tryz.underlying107
  a141 := Tryz.isAgg107
  z141 := Tryz.sizeOf107
  v141 := Tryz.zeroValue107
  t152 := Tryz.underlying102
  a152 := Tryz.isAgg102
  z152 := Tryz.sizeOf102
  v152 := Tryz.zeroValue102
  t154 := Tryz.underlying104
  a154 := Tryz.isAgg104
  z154 := Tryz.sizeOf104
  v154 := Tryz.zeroValue104
  t193 := Tryz.underlying118
  a193 := Tryz.isAgg118
  z193 := Tryz.sizeOf118
  v193 := Tryz.zeroValue118
  t194 := Tryz.underlying119
  a194 := Tryz.isAgg119
  z194 := Tryz.sizeOf119
  v194 := Tryz.zeroValue119
  t196 := Tryz.underlying121
  a196 := Tryz.isAgg121
  z196 := Tryz.sizeOf121
  v196 := Tryz.zeroValue121
  t198 := Tryz.underlying123
  a198 := Tryz.isAgg123
  z198 := Tryz.sizeOf123
  v198 := Tryz.zeroValue123
  t201 := Tryz.underlying126
  a201 := Tryz.isAgg126
  z201 := Tryz.sizeOf126
  v201 := Tryz.zeroValue126
  t226 := Tryz.underlying142
  a226 := Tryz.isAgg142
  z226 := Tryz.sizeOf142
  v226 := Tryz.zeroValue142
  t227 := Tryz.underlying143
  a227 := Tryz.isAgg143
  z227 := Tryz.sizeOf143
  v227 := Tryz.zeroValue143
  g0 := by kernel_rfl
  g6 := by kernel_rfl }
def Tryz.lays283_ren : Go.Shelf.Ren := ⟨fun | 283 => 83 | n => n, fun | 3 => 3 | 9 => 9 | 4 => 4 | n => n, fun | n => n⟩
theorem Tryz.lays283 : Go.Proofs.Lays.n283 Tryz.prog Tryz.lays283_ren := {
  mixed := by kernel_rfl
  f283 := Tryz.func83.trans (congrArg some (by kernel_rfl))
  t3 := Tryz.underlying3
  a3 := Tryz.isAgg3
  z3 := Tryz.sizeOf3
  v3 := Tryz.zeroValue3
  t4 := Tryz.underlying4
  a4 := Tryz.isAgg4
  z4 := Tryz.sizeOf4
  v4 := Tryz.zeroValue4
  t9 := Tryz.underlying9
  a9 := Tryz.isAgg9
  z9 := Tryz.sizeOf9
  v9 := Tryz.zeroValue9 }
def Tryz.lays110_ren : Go.Shelf.Ren := ⟨fun | 110 => 42 | 109 => 64 | n => n, fun | 31 => 65 | 9 => 9 | 4 => 4 | 3 => 3 | 0 => 0 | n => n, fun | n => n⟩
theorem Tryz.lays110 : Go.Proofs.Lays.n110 Tryz.prog Tryz.lays110_ren := {
  mixed := by kernel_rfl
  f109 := Tryz.func64.trans (congrArg some (by kernel_rfl))
  f110 := Tryz.func42.trans (congrArg some (by kernel_rfl))
  t0 := Tryz.underlying0
  a0 := Tryz.isAgg0
  z0 := Tryz.sizeOf0
  v0 := Tryz.zeroValue0
  t3 := Tryz.underlying3
  a3 := Tryz.isAgg3
  z3 := Tryz.sizeOf3
  v3 := Tryz.zeroValue3
  t4 := Tryz.underlying4
  a4 := Tryz.isAgg4
  z4 := Tryz.sizeOf4
  v4 := Tryz.zeroValue4
  t9 := Tryz.underlying9
  a9 := Tryz.isAgg9
  z9 := Tryz.sizeOf9
  v9 := Tryz.zeroValue9
  t31 := Tryz.underlying65
  a31 := Tryz.isAgg65
  z31 := Tryz.sizeOf65
  v31 := Tryz.zeroValue65 }

end Go.Proofs
namespace Go.Proofs.YtljdphpbalioaaaGreatDoor
open Go.RowKit

/-- the table of blanks, as the program's start lays it -/
def Sp (w : World) : Prop := ∀ c : Nat, c < 256 → w.cell? ⟨Tryz.lays157_ren.g 0, c, none⟩ = some (.int .u8 (if Lib.isSp (UInt8.ofNat c) then 1 else 0))
theorem Sp.below {w w' : World} (h : Sp w) (hb : Below w.heap.size w w') : Sp w' := fun c hc => (hb.cell (p := ⟨Tryz.lays157_ren.g 0, c, none⟩) (block_lt_of_cell (h c hc))).trans (h c hc)
theorem Sp.of_tab {w : World} (h : Lib.TabIs Tryz.prog w "strings.asciiSpace" .u8 Lib.asciiSpaceTab) : Sp w := fun c hc => by
  rw [h.cell (show Tryz.prog.globalNamed "strings.asciiSpace" = some (Tryz.lays157_ren.g 0) by kernel_rfl) c (by rw [Lib.asciiSpaceTab_length]; exact hc), Lib.asciiSpaceTab_at c hc]

def strV (l : List UInt8) : Value := .string ⟨l.toArray⟩

theorem fields_is (s : ByteArray) (ls : List (List UInt8)) (n : Nat) (w : World) (hsp : Sp w) (hl : Lib.fields s.data.toList = ls) (hn : ls.length = n) (hs : s.size < 4294967281) (hall : (s.data.toList.all fun b => decide (b.toNat < 128)) = true) :
    Calls Tryz.prog 22 #[.string s] w fun e w' => e = .returned (.slice (some ⟨w.heap.size, 0, none⟩) n n) ∧ w' = w.alloc (.cells (ls.map strV).toArray 9) := by
  subst hl
  subst hn
  refine (Any.strings_Fields_core Tryz.lays157 (by kernel_rfl) s w hs (fun j b hb => of_decide_eq_true ((List.all_eq_true.1 hall) b (List.mem_of_getElem? hb))) hsp).mono ?_
  rintro e w' ⟨rfl, rfl⟩
  exact ⟨rfl, rfl⟩

theorem small_any (i : Nat) (h : i < 100) (w : World) : Calls Tryz.prog 83 #[.int .i64 i] w fun e w' => e = .returned (strV (Lib.decDigits i)) ∧ w' = w :=
  Any.internal_strconv_small Tryz.lays283 i h w

theorem contains_any (b n : Nat) (zs : List ByteArray) (x : ByteArray) (w : World) (hz : zs.length = n) (hbig : n ≤ 9223372036854775807) (hc : ∀ j, j < zs.length → w.cell? ⟨b, 0 + j, none⟩ = some (.string (zs.getD j ByteArray.empty))) :
    Calls Tryz.prog 42 #[.slice (some ⟨b, 0, none⟩) n n, .string x] w fun e w' => e = .returned (.bool (Lib.containsS zs x)) ∧ w' = w := by
  have h := Any.slices_Contains_string Tryz.lays110 b 0 n n zs x w (by omega) hbig hc
  rw [show zs.take n = zs by rw [← hz, List.take_length]] at h
  exact h

end Go.Proofs.YtljdphpbalioaaaGreatDoor
/- The words: of the kinds of operations, of the language. -/
namespace Go.Proofs.YtljdphpbalioaaaGreatDoor
open Go.RowKit

def opWords : List (List UInt8) := [[114, 101, 110, 97, 109, 101, 45, 109, 111, 100, 117, 108, 101],
  [114, 101, 110, 97, 109, 101, 45, 102, 117, 110, 99],
  [114, 101, 110, 97, 109, 101, 45, 112, 97, 114, 97, 109],
  [114, 101, 110, 97, 109, 101, 45, 108, 101, 116],
  [109, 111, 118, 101, 45, 102, 117, 110, 99],
  [101, 120, 116, 114, 97, 99, 116, 45, 108, 101, 116],
  [105, 110, 108, 105, 110, 101, 45, 108, 101, 116],
  [101, 120, 116, 114, 97, 99, 116, 45, 102, 117, 110, 99],
  [105, 110, 108, 105, 110, 101, 45, 99, 97, 108, 108],
  [97, 100, 100, 45, 109, 111, 100, 117, 108, 101],
  [100, 114, 111, 112, 45, 109, 111, 100, 117, 108, 101],
  [100, 114, 111, 112, 45, 102, 117, 110, 99],
  [102, 108, 105, 112, 45, 105, 102],
  [115, 119, 97, 112, 45, 112, 97, 114, 116, 115]]
def opParts : List (List UInt8) := [[65, 78],
  [65, 78],
  [65, 78],
  [65, 78],
  [65, 66],
  [65, 78],
  [65],
  [65, 66, 78],
  [65],
  [78],
  [65],
  [65],
  [65],
  [65]]
def tokWords : List (List UInt8) := [[98, 111, 111, 108],
  [100, 111],
  [101, 108, 115, 101],
  [102, 97, 108, 115, 101],
  [102, 117, 110, 99],
  [105, 102],
  [105, 110, 116],
  [108, 101, 116],
  [109, 111, 100, 117, 108, 101],
  [112, 114, 105, 110, 116],
  [114, 101, 97, 100],
  [114, 101, 116, 117, 114, 110],
  [116, 114, 117, 101],
  [119, 104, 105, 108, 101]]
/-- a kind's word -/
def wordOf (k : Nat) : List UInt8 := if k = 0 then [] else opWords.getD (k - 1) []
/-- what it has -/
def partsOf (k : Nat) : List UInt8 := if k = 0 then [] else opParts.getD (k - 1) []


/-- strings that lie in a row -/
theorem strs_cell {w : World} {n e : Nat} {ls : List (List UInt8)} (h : w.heap[n]? = some (.cells (ls.map strV).toArray e (0, 0))) (j : Nat) (hj : j < ls.length) : w.cell? ⟨n, j, none⟩ = some (strV (ls.getD j [])) := by
  rw [cell_of_row w n j _ _ _ h]
  simp [List.getD_eq_getElem?_getD, List.getElem?_eq_getElem hj]

end Go.Proofs.YtljdphpbalioaaaGreatDoor
/- Walks: names; whether an operation may be. -/
namespace Go.Proofs.YtljdphpbalioaaaGreatDoor
open Go.RowKit

theorem anyZ_oneSkip {P : Program} {ops : Array Oper} {Q : Exit → Act → World → Prop} {md : Region.Mode} {S : World → Prop} {i z : Nat} {oi : Oper} {fuel : Nat} {listed : Array Bool} {a : Act} {w : World} (hcl : Closed md ops listed) (hr : Region.ready md ops listed = [i]) (hi : ops[i]? = some oi) (hg : Region.wanted oi (yielded ops a.tmps) = false)
    (hS : (listed.setIfInBounds i true).getD z true = false → S w) (h : Closed md ops (listed.setIfInBounds i true) → AnyZ P md ops Q S z fuel (listed.setIfInBounds i true) (a.put oi.dst undef) w) :
    AnyZ P md ops Q S z (fuel + 1) listed a w := by
  refine ⟨fun h0 => (by rw [hr] at h0; cases h0), fun j hj => ?_⟩
  rw [hr] at hj
  have hji : j = i := by simpa using hj
  subst hji
  unfold wpOp
  simp only [hi]
  rw [if_neg (by rw [hg]; decide)]
  exact ⟨hS, h (hcl.set (by rw [hr]; simp))⟩

theorem i64_and1 (n : Int) : bits .and .i64 n 1 = n % 2 := by
  have h1 : (BitVec.ofInt 64 1).toNat = 2 ^ 1 - 1 := by decide
  have key : (BitVec.ofInt 64 n &&& BitVec.ofInt 64 1).toNat = (n % ((2 ^ 64 : Nat) : Int)).toNat % 2 ^ 1 := by
    rw [BitVec.toNat_and, BitVec.toNat_ofInt, h1, Nat.and_two_pow_sub_one_eq_mod]
  show IntKind.i64.wrap ((BitVec.ofInt 64 n &&& BitVec.ofInt 64 1).toNat : Nat) = n % 2
  rw [key, IntKind.wrap_i64]
  omega

def mk8 (l : List UInt8) : ByteArray := ⟨l.toArray⟩
theorem strV_mk (l : List UInt8) : strV l = .string (mk8 l) := rfl

set_option maxRecDepth 100000 in
theorem twords_any (w : World) (hsp : Sp w) : Calls Tryz.prog 60 #[] w fun e w' => e = .returned (.slice (some ⟨w.heap.size, 0, none⟩) 14 14) ∧ w' = w.alloc (.cells (tokWords.map strV).toArray 9) := by
  go_enter Tryz.func60, Tryz.ntmps60
  go_wp2_with fail
  refine (fields_is _ tokWords 14 w hsp (by kernel_rfl) rfl (of_decide_eq_true (by kernel_rfl)) (by kernel_rfl)).mono ?_
  rintro e w1 ⟨rfl, rfl⟩
  go_wp2_with fail
  go_ret
  exact ⟨rfl, rfl⟩

def isWordB (s : ByteArray) : Bool := Lib.containsS (tokWords.map mk8) s
def nameB (s : ByteArray) : Bool := shapedB s.data.toList && !isWordB s

set_option maxRecDepth 100000 in
theorem isword_any (s : ByteArray) (w : World) (hsp : Sp w) : Calls Tryz.prog 38 #[.string s] w fun e w' => e = .returned (.bool (isWordB s)) ∧ Below w.heap.size w w' := by
  go_enter Tryz.func38, Tryz.ntmps38
  go_wp2_with fail
  refine (twords_any w hsp).mono ?_
  rintro e w1 ⟨rfl, rfl⟩
  have hb := bal (bre w) (.cells (tokWords.map strV).toArray 9)
  have hrow := heap_alloc_new w (.cells (tokWords.map strV).toArray 9)
  generalize w.alloc (.cells (tokWords.map strV).toArray 9) = W at *
  have hc : ∀ j, j < (tokWords.map mk8).length → W.cell? ⟨w.heap.size, 0 + j, none⟩ = some (.string ((tokWords.map mk8).getD j ByteArray.empty)) := fun j hj => by
    rw [List.length_map] at hj
    rw [Nat.zero_add, strs_cell hrow j hj, strV_mk]
    simp [List.getD_eq_getElem?_getD, List.getElem?_eq_getElem hj]
  have HB := Lib.hid hb
  have HC := Lib.hid hc
  clear hb hrow hc hsp
  go_wp2_with fail
  refine (contains_any w.heap.size 14 (tokWords.map mk8) s W rfl (by decide) HC.out).mono ?_
  rintro e w2 ⟨rfl, hw⟩
  have hw' := hw.symm
  subst hw'
  clear hw
  go_wp2_with fail
  go_ret
  exact ⟨rfl, HB.out⟩

/-- may an operation be? -/
def rightB (k a b : Nat) (nm : ByteArray) : Bool :=
  decide (1 ≤ k) && (decide (k ≤ 14) && ((decide (a ≠ 0) == decide (k ≠ 10)) && ((decide (b ≠ 0) == (288 : Nat).testBit k) && ((decide (nm.size ≠ 0) == (1374 : Nat).testBit k) && (decide (nm.size = 0) || nameB nm)))))

end Go.Proofs.YtljdphpbalioaaaGreatDoor
/- Walk: the reference's class of a byte. -/
namespace Go.Proofs.YtljdphpbalioaaaGreatDoor
open Go.RowKit

def classOf (n : Nat) : Nat := if letN n then 1 else if digN n then 2 else if n = 32 ∨ n = 9 ∨ n = 10 then 3 else 0

end Go.Proofs.YtljdphpbalioaaaGreatDoor
/- Walks: the document's Kinds, Parts, has. -/
namespace Go.Proofs.YtljdphpbalioaaaGreatDoor
open Go.RowKit

/-- the document's rows: word, blank, what it has -/
def opKinds : List (List UInt8) := List.zipWith (fun w p => w ++ 32 :: p) opWords opParts

theorem kinds_at (j : Nat) (h : j < 14) : opKinds.getD j [] = opWords.getD j [] ++ 32 :: opParts.getD j [] := by
  revert h
  revert j
  decide +kernel

theorem words_clean (j : Nat) (h : j < 14) : ∀ b ∈ opWords.getD j [], b.toNat ≠ 32 := by
  revert h
  revert j
  decide +kernel

theorem mk_eq {s : ByteArray} {l : List UInt8} (h : s.data.toList = l) : Value.string s = strV l := by
  subst h; rfl

def hasB (l : List UInt8) (c : Nat) : Bool := l.any fun b => b.toNat == c

theorem has_step (l : List UInt8) (k c : Nat) (h : k < l.length) (h1 : ∀ j, j < k → ∀ b, l[j]? = some b → b.toNat ≠ c) (b : UInt8) (hb : l[k]? = some b) (hne : b.toNat ≠ c) : ∀ j, j < k + 1 → ∀ b, l[j]? = some b → b.toNat ≠ c := fun j hj x hx => by
  rcases Nat.lt_or_ge j k with h' | h'
  · exact h1 j h' x hx
  · have : j = k := by omega
    subst this
    rw [hb] at hx
    cases hx
    exact hne

end Go.Proofs.YtljdphpbalioaaaGreatDoor
/- Walks: the document's Name, Right; own. -/
namespace Go.Proofs.YtljdphpbalioaaaGreatDoor
open Go.RowKit

theorem class_one (n : Nat) : (classOf n = 1) ↔ letN n = true := by
  unfold classOf
  cases letN n <;> simp
  split
  · simp
  · split <;> simp

theorem class_two (n : Nat) : (classOf n = 1 ∨ classOf n = 2) ↔ (letN n || digN n) = true := by
  unfold classOf
  cases letN n <;> cases digN n <;> simp
  split <;> simp

theorem isword_iff (s : ByteArray) : isWordB s = true ↔ ∃ j, j < 14 ∧ mk8 (tokWords.getD j []) = s := by
  unfold isWordB Lib.containsS
  rw [decide_eq_true_iff, Lib.idxOfS_nonneg_iff]
  have hl : tokWords.length = 14 := rfl
  constructor
  · intro hm
    obtain ⟨l, hl', rfl⟩ := List.mem_map.1 hm
    obtain ⟨j, hj⟩ := List.getElem?_of_mem hl'
    have hlt := (List.getElem?_eq_some_iff.1 hj).1
    exact ⟨j, by omega, by rw [List.getD_eq_getElem?_getD, hj]; rfl⟩
  · rintro ⟨j, hj, rfl⟩
    have hm : tokWords.getD j [] ∈ tokWords := by
      rw [List.getD_eq_getElem?_getD, List.getElem?_eq_getElem (by omega)]
      exact List.getElem_mem _
    exact List.mem_map_of_mem hm

theorem str_toList_inj {y s : ByteArray} (h : y.toList = s.toList) : y = s := by
  rw [ByteArray.toList_eq, ByteArray.toList_eq] at h
  cases y; cases s
  simp at h
  rw [h]
theorem str_eq_beq {y s : ByteArray} (h : y = s) : (y.toList == s.toList) = true := by subst h; simp
theorem str_ne_beq {y s : ByteArray} (h : y ≠ s) : (y.toList == s.toList) = false := beq_false_of_ne fun e => h (str_toList_inj e)
theorem str_ne_dec {y s : ByteArray} (h : y ≠ s) : decide (y.toList = s.toList) = false := decide_eq_false fun e => h (str_toList_inj e)

end Go.Proofs.YtljdphpbalioaaaGreatDoor
/- Plain: the tokens of a text. No program is in sight but for the words' lists. -/
namespace Go.Proofs.YtljdphpbalioaaaGreatDoor

def partN (n : Nat) : Bool := letN n || digN n

/-- the bytes of a class at a text's beginning -/
def runOf (l : List UInt8) : Nat := (l.takeWhile fun b => partN b.toNat).length
def noteOf (l : List UInt8) : Nat := (l.takeWhile fun b => b.toNat != 10).length

def signRows : List (List UInt8) := [[40], [41], [123], [125], [46], [44], [59], [61], [33], [43], [45], [42], [47], [37], [60], [60, 61], [62], [62, 61], [61, 61], [33, 61], [38, 38], [124, 124]]

/-- the value of some digits -/
def valOf (l : List UInt8) : Nat := l.foldl (fun n b => 10 * n + (b.toNat - 48)) 0

/-- is it a number? -/
def numB (l : List UInt8) : Bool := decide (1 ≤ l.length) && decide (l.length ≤ 19) && (decide (l.length = 1) || (l.getD 0 0).toNat != 48) && l.all (fun b => digN b.toNat) && decide (valOf l ≤ 9223372036854775807)

def kindOf (l : List UInt8) : Nat := if tokWords.contains l then 3 else if shapedB l then 1 else if numB l then 2 else 0

/-- the token that begins a text: its kind, its length; kind 0: there is none -/
def tokAt (l : List UInt8) : Nat × Nat :=
  if partN (l.getD 0 0).toNat then (kindOf (l.take (runOf l)), runOf l)
  else if signRows.contains (l.take 2) then (4, (l.take 2).length)
  else if signRows.contains (l.take 1) then (4, (l.take 1).length)
  else (0, 0)

structure Tok where
  kind : Nat
  text : List UInt8
  pos : Nat

def toks : Nat → Nat → List UInt8 → Option (List Tok)
  | 0, _, _ => none
  | _ + 1, _, [] => some []
  | f + 1, i, b :: r =>
    if classOf b.toNat = 3 then toks f (i + 1) r
    else if b.toNat = 35 then toks f (i + noteOf (b :: r)) ((b :: r).drop (noteOf (b :: r)))
    else if (tokAt (b :: r)).1 = 0 then none
    else (toks f (i + (tokAt (b :: r)).2) ((b :: r).drop (tokAt (b :: r)).2)).map (⟨(tokAt (b :: r)).1, (b :: r).take (tokAt (b :: r)).2, i⟩ :: ·)

theorem run_pos {b : UInt8} {r : List UInt8} (h : partN b.toNat = true) : 0 < runOf (b :: r) := by
  unfold runOf
  rw [List.takeWhile_cons, if_pos h]
  simp

theorem note_pos {b : UInt8} {r : List UInt8} (h : b.toNat = 35) : 0 < noteOf (b :: r) := by
  unfold noteOf
  rw [List.takeWhile_cons, if_pos (by rw [h]; rfl)]
  simp

theorem tok_pos {b : UInt8} {r : List UInt8} (h : (tokAt (b :: r)).1 ≠ 0) : 0 < (tokAt (b :: r)).2 := by
  unfold tokAt at h ⊢
  by_cases hp : partN ((b :: r).getD 0 0).toNat = true
  · rw [if_pos hp]
    exact run_pos hp
  · rw [if_neg hp] at h ⊢
    by_cases h2 : signRows.contains ((b :: r).take 2) = true
    · rw [if_pos h2]; simp
    · rw [if_neg h2] at h ⊢
      by_cases h1 : signRows.contains ((b :: r).take 1) = true
      · rw [if_pos h1]; simp
      · rw [if_neg h1] at h; exact absurd rfl h

theorem toks_fuel : ∀ (n f i : Nat) (l : List UInt8), l.length ≤ n → l.length < f → toks f i l = toks (l.length + 1) i l := by
  intro n
  induction n with
  | zero =>
    intro f i l hn hf
    have : l = [] := List.eq_nil_of_length_eq_zero (by omega)
    subst this
    obtain ⟨f, rfl⟩ : ∃ f', f = f' + 1 := ⟨f - 1, by omega⟩
    rfl
  | succ n ih =>
    intro f i l hn hf
    obtain ⟨f, rfl⟩ : ∃ f', f = f' + 1 := ⟨f - 1, by omega⟩
    cases l with
    | nil => rfl
    | cons b r =>
      simp only [List.length_cons] at hn hf
      have key : ∀ (j k : Nat), 0 < k → toks f j ((b :: r).drop k) = toks (r.length + 1) j ((b :: r).drop k) := fun j k hk => by
        have hl : ((b :: r).drop k).length ≤ r.length := by rw [List.length_drop, List.length_cons]; omega
        rw [ih f j _ (by omega) (by omega), ih (r.length + 1) j _ (by omega) (by omega)]
      rw [toks, List.length_cons, toks]
      by_cases h1 : classOf b.toNat = 3
      · rw [if_pos h1, if_pos h1]
        exact key (i + 1) 1 (by omega)
      rw [if_neg h1, if_neg h1]
      by_cases h2 : b.toNat = 35
      · rw [if_pos h2, if_pos h2]
        exact key _ _ (note_pos h2)
      rw [if_neg h2, if_neg h2]
      by_cases h3 : (tokAt (b :: r)).1 = 0
      · rw [if_pos h3, if_pos h3]
      rw [if_neg h3, if_neg h3, key _ _ (tok_pos h3)]

/-- the tokens from a place on -/
def toksFrom (l : List UInt8) (i : Nat) : Option (List Tok) := toks ((l.drop i).length + 1) i (l.drop i)
def toksOf (l : List UInt8) : Option (List Tok) := toksFrom l 0

theorem drop_cons (l : List UInt8) (i : Nat) (h : i < l.length) : l.drop i = l[i] :: l.drop (i + 1) := List.drop_eq_getElem_cons h

theorem from_end {l : List UInt8} {i : Nat} (h : l.length ≤ i) : toksFrom l i = some [] := by
  unfold toksFrom
  rw [List.drop_eq_nil_of_le h]
  rfl

theorem from_blank {l : List UInt8} {i : Nat} (h : i < l.length) (hc : classOf (l[i]).toNat = 3) : toksFrom l i = toksFrom l (i + 1) := by
  unfold toksFrom
  rw [drop_cons l i h, toks, if_pos hc, List.length_cons]

theorem from_note {l : List UInt8} {i : Nat} (h : i < l.length) (hc : (l[i]).toNat = 35) : toksFrom l i = toksFrom l (i + noteOf (l.drop i)) := by
  unfold toksFrom
  have hd := drop_cons l i h
  have hn : classOf (l[i]).toNat ≠ 3 := by rw [hc]; decide
  rw [← List.drop_drop]
  generalize l.drop i = m at *
  subst hd
  rw [toks, if_neg hn, if_pos hc]
  have hp := note_pos (b := l[i]) (r := l.drop (i + 1)) hc
  generalize noteOf (l[i] :: l.drop (i + 1)) = n at *
  exact toks_fuel _ _ _ _ (Nat.le_refl _) (by rw [List.length_drop, List.length_cons]; omega)

theorem from_none {l : List UInt8} {i : Nat} (h : i < l.length) (h1 : classOf (l[i]).toNat ≠ 3) (h2 : (l[i]).toNat ≠ 35) (h3 : (tokAt (l.drop i)).1 = 0) : toksFrom l i = none := by
  unfold toksFrom
  have hd := drop_cons l i h
  generalize l.drop i = m at *
  subst hd
  rw [toks, if_neg h1, if_neg h2, if_pos h3]

theorem from_tok {l : List UInt8} {i : Nat} (h : i < l.length) (h1 : classOf (l[i]).toNat ≠ 3) (h2 : (l[i]).toNat ≠ 35) (h3 : (tokAt (l.drop i)).1 ≠ 0) :
    toksFrom l i = (toksFrom l (i + (tokAt (l.drop i)).2)).map (⟨(tokAt (l.drop i)).1, (l.drop i).take (tokAt (l.drop i)).2, i⟩ :: ·) := by
  unfold toksFrom
  have hd := drop_cons l i h
  rw [← List.drop_drop]
  generalize l.drop i = m at *
  subst hd
  rw [toks, if_neg h1, if_neg h2, if_neg h3]
  have hp := tok_pos h3
  generalize tokAt (l[i] :: l.drop (i + 1)) = kn at *
  rw [toks_fuel _ (l[i] :: l.drop (i + 1)).length _ _ (Nat.le_refl _) (by rw [List.length_drop, List.length_cons]; omega)]

/-- what has been read, and what is still to come, are all -/
def Came (l : List UInt8) (i : Nat) (out : List Tok) : Prop := toksOf l = (toksFrom l i).map (out ++ ·)

theorem came_start (l : List UInt8) : Came l 0 [] := by
  unfold Came toksOf
  cases toksFrom l 0 <;> rfl
theorem came_blank {l : List UInt8} {i : Nat} {out : List Tok} (h : Came l i out) (hi : i < l.length) (hc : classOf (l[i]).toNat = 3) : Came l (i + 1) out := by
  unfold Came at *; rw [h, from_blank hi hc]
theorem came_note {l : List UInt8} {i : Nat} {out : List Tok} (h : Came l i out) (hi : i < l.length) (hc : (l[i]).toNat = 35) : Came l (i + noteOf (l.drop i)) out := by
  unfold Came at *; rw [h, from_note hi hc]
theorem came_none {l : List UInt8} {i : Nat} {out : List Tok} (h : Came l i out) (hi : i < l.length) (h1 : classOf (l[i]).toNat ≠ 3) (h2 : (l[i]).toNat ≠ 35) (h3 : (tokAt (l.drop i)).1 = 0) : toksOf l = none := by
  unfold Came at h; rw [h, from_none hi h1 h2 h3]; rfl
theorem came_tok {l : List UInt8} {i : Nat} {out : List Tok} (h : Came l i out) (hi : i < l.length) (h1 : classOf (l[i]).toNat ≠ 3) (h2 : (l[i]).toNat ≠ 35) (h3 : (tokAt (l.drop i)).1 ≠ 0) :
    Came l (i + (tokAt (l.drop i)).2) (out ++ [⟨(tokAt (l.drop i)).1, (l.drop i).take (tokAt (l.drop i)).2, i⟩]) := by
  unfold Came at *
  rw [h, from_tok hi h1 h2 h3]
  cases toksFrom l (i + (tokAt (l.drop i)).2) <;> simp
theorem came_end {l : List UInt8} {i : Nat} {out : List Tok} (h : Came l i out) (hi : l.length ≤ i) : toksOf l = some out := by
  unfold Came at h; rw [h, from_end hi]; simp
end Go.Proofs.YtljdphpbalioaaaGreatDoor
/- Plain: parts with a blank between are cut again; decimals are told apart. No program is in sight. -/
namespace Go.Proofs.YtljdphpbalioaaaGreatDoor

/-- the pieces of a text, cut at each blank -/
def cutSp : List UInt8 → List (List UInt8)
  | [] => [[]]
  | b :: l => if b = 32 then [] :: cutSp l else match cutSp l with
    | [] => [[b]]
    | x :: r => (b :: x) :: r

def noSp (l : List UInt8) : Prop := ∀ b ∈ l, b ≠ 32

theorem cutSp_ne (l : List UInt8) : cutSp l ≠ [] := by
  cases l with
  | nil => simp [cutSp]
  | cons b l =>
    unfold cutSp
    split
    · simp
    · split <;> simp

theorem cutSp_word (p : List UInt8) (h : noSp p) : cutSp p = [p] := by
  induction p with
  | nil => rfl
  | cons b p ih =>
    have hb : b ≠ 32 := h b (by simp)
    rw [cutSp, if_neg hb, ih (fun c hc => h c (by simp [hc]))]

theorem cutSp_app (p : List UInt8) (h : noSp p) (l : List UInt8) : cutSp (p ++ 32 :: l) = p :: cutSp l := by
  induction p with
  | nil => simp [cutSp]
  | cons b p ih =>
    have hb : b ≠ 32 := h b (by simp)
    rw [List.cons_append, cutSp, if_neg hb, ih (fun c hc => h c (by simp [hc]))]

theorem join_two (x y : List UInt8) (r : List (List UInt8)) : Lib.join (x :: y :: r) [32] = x ++ 32 :: Lib.join (y :: r) [32] := by
  rw [Lib.join_cons, Lib.join_cons]
  simp [Lib.joinTail]

theorem cutSp_join (ps : List (List UInt8)) (hne : ps ≠ []) (h : ∀ p ∈ ps, noSp p) : cutSp (Lib.join ps [32]) = ps := by
  induction ps with
  | nil => exact absurd rfl hne
  | cons x r ih =>
    cases r with
    | nil => rw [Lib.join_one]; exact cutSp_word x (h x (by simp))
    | cons y r => rw [join_two, cutSp_app x (h x (by simp)), ih (by simp) (fun p hp => h p (by simp [hp]))]

theorem join_cutSp (l : List UInt8) : Lib.join (cutSp l) [32] = l := by
  induction l with
  | nil => rfl
  | cons b l ih =>
    rw [cutSp]
    cases hc : cutSp l with
    | nil => exact absurd hc (cutSp_ne l)
    | cons x r =>
      rw [hc] at ih
      split
      · next hb =>
        subst hb
        rw [join_two, ih]
        rfl
      · show Lib.join ((b :: x) :: r) [32] = b :: l
        rw [← ih, Lib.join_cons, Lib.join_cons]
        rfl

theorem join_inj (ps qs : List (List UInt8)) (hp : ps ≠ []) (hq : qs ≠ []) (h1 : ∀ p ∈ ps, noSp p) (h2 : ∀ q ∈ qs, noSp q) (h : Lib.join ps [32] = Lib.join qs [32]) : ps = qs := by
  rw [← cutSp_join ps hp h1, ← cutSp_join qs hq h2, h]

/-- the value of some digits -/
def valD (l : List UInt8) : Nat := l.foldl (fun n b => 10 * n + (b.toNat - 48)) 0

theorem u8dig (r : Nat) (h : r < 10) : (UInt8.ofNat (48 + r)).toNat = 48 + r := by rw [UInt8.toNat_ofNat_of_lt' (by simp [UInt8.size]; omega)]

theorem valD_dec (u : Nat) : valD (Lib.decDigits u) = u := by
  induction u using Nat.strongRecOn with
  | _ u ih =>
    rw [Lib.decDigits]
    split
    · next h =>
      show 10 * 0 + ((UInt8.ofNat (48 + u)).toNat - 48) = u
      rw [u8dig u h]; omega
    · next h =>
      have := ih (u / 10) (by omega)
      unfold valD at this ⊢
      rw [List.foldl_append, this]
      show 10 * (u / 10) + ((UInt8.ofNat (48 + u % 10)).toNat - 48) = u
      rw [u8dig _ (by omega)]; omega

theorem dec_inj {a b : Nat} (h : Lib.decDigits a = Lib.decDigits b) : a = b := by rw [← valD_dec a, ← valD_dec b, h]

theorem dec_digits (u : Nat) : ∀ b ∈ Lib.decDigits u, 48 ≤ b.toNat ∧ b.toNat ≤ 57 := by
  induction u using Nat.strongRecOn with
  | _ u ih =>
    intro b hb
    rw [Lib.decDigits] at hb
    split at hb
    · next h =>
      have : b = UInt8.ofNat (48 + u) := by simpa using hb
      rw [this, u8dig u h]; omega
    · next h =>
      rcases List.mem_append.1 hb with hb | hb
      · exact ih (u / 10) (by omega) b hb
      · have : b = UInt8.ofNat (48 + u % 10) := by simpa using hb
        rw [this, u8dig _ (by omega)]; omega

theorem dec_noSp (u : Nat) : noSp (Lib.decDigits u) := fun b hb e => by
  have := dec_digits u b hb
  subst e
  simp at this

theorem dec_ne (u : Nat) : Lib.decDigits u ≠ [] := fun h => by
  have h1 := Lib.nDigits_pos u
  rw [← Lib.decDigits_length, h] at h1
  simp at h1
end Go.Proofs.YtljdphpbalioaaaGreatDoor
/- Plain: what is a number: by its digits, and as it is parsed and formatted. No program is in sight. -/
namespace Go.Proofs.YtljdphpbalioaaaGreatDoor

def valFrom (a : Nat) (l : List UInt8) : Nat := l.foldl (fun n b => 10 * n + (b.toNat - 48)) a
theorem valOf_from (l : List UInt8) : valOf l = valFrom 0 l := rfl
theorem from_cons (a : Nat) (b : UInt8) (l : List UInt8) : valFrom a (b :: l) = valFrom (10 * a + (b.toNat - 48)) l := by
  unfold valFrom; rw [List.foldl_cons]
theorem from_ge (l : List UInt8) : ∀ a, a ≤ valFrom a l := by
  induction l with
  | nil => intro a; exact Nat.le_refl _
  | cons b l ih => intro a; exact Nat.le_trans (show a ≤ 10 * a + (b.toNat - 48) by omega) (ih (10 * a + (b.toNat - 48)))

theorem digN_iff (b : UInt8) : digN b.toNat = true ↔ 48 ≤ b.toNat ∧ b.toNat ≤ 57 := by
  unfold digN
  rw [Bool.and_eq_true, decide_eq_true_iff, decide_eq_true_iff]

theorem parse_ok (l : List UInt8) : ∀ a, (∀ b ∈ l, digN b.toNat = true) → valFrom a l ≤ 18446744073709551615 → Lib.parseUintM 18446744073709551615 a l = .ok (valFrom a l) := by
  induction l with
  | nil => intro a _ _; rfl
  | cons b l ih =>
    intro a hd hv
    obtain ⟨h1, h2⟩ := (digN_iff b).1 (hd b (by simp))
    have hg := from_ge l (10 * a + (b.toNat - 48))
    rw [from_cons] at hv
    rw [Lib.parseUintM, if_pos ⟨h1, h2⟩, if_neg (by omega), if_neg (by omega), show a * 10 + (b.toNat - 48) = 10 * a + (b.toNat - 48) by omega, ih _ (fun c hc => hd c (by simp [hc])) hv]
    rfl

theorem ok_parse (l : List UInt8) : ∀ a u, Lib.parseUintM 18446744073709551615 a l = .ok u → (∀ b ∈ l, digN b.toNat = true) ∧ u = valFrom a l := by
  induction l with
  | nil => intro a u h; cases h; exact ⟨fun b hb => by simp at hb, rfl⟩
  | cons b l ih =>
    intro a u h
    rw [Lib.parseUintM] at h
    split at h
    · next hd =>
      split at h
      · cases h
      · split at h
        · cases h
        · obtain ⟨e1, e2⟩ := ih _ _ h
          rw [show a * 10 + (b.toNat - 48) = 10 * a + (b.toNat - 48) by omega] at e2
          refine ⟨fun c hc => ?_, e2⟩
          rcases List.mem_cons.1 hc with rfl | hc
          · exact (digN_iff c).2 hd
          · exact e1 c hc
    · cases h

theorem part_sign {b : UInt8} (h : partN b.toNat = true) : b.toNat ≠ 43 ∧ b.toNat ≠ 45 := by
  constructor <;> intro e <;> rw [e] at h <;> revert h <;> decide

theorem parse_int (l : List UInt8) (hne : l ≠ []) (hp : ∀ b ∈ l, partN b.toNat = true) (v : Int) : Lib.parseIntB 64 l = .ok v ↔ (∀ b ∈ l, digN b.toNat = true) ∧ valOf l ≤ 9223372036854775807 ∧ v = valOf l := by
  cases l with
  | nil => exact absurd rfl hne
  | cons c r =>
    obtain ⟨s1, s2⟩ := part_sign (hp c (by simp))
    unfold Lib.parseIntB Lib.parseUintB
    simp only [s1, s2, or_self, if_false]
    rw [if_neg (by simp)]
    have e64 : 2 ^ 64 - 1 = 18446744073709551615 := rfl
    have e63 : 2 ^ (64 - 1) = 9223372036854775808 := rfl
    rw [e64, e63]
    cases hq : Lib.parseUintM 18446744073709551615 0 (c :: r) with
    | ok u =>
      obtain ⟨e1, e2⟩ := ok_parse _ _ _ hq
      rw [← valOf_from] at e2
      simp only [not_false_eq_true, true_and, false_and, if_false]
      by_cases hu : 9223372036854775808 ≤ u
      · rw [if_pos hu]
        constructor
        · intro h; cases h
        · rintro ⟨_, h, _⟩; omega
      · rw [if_neg hu]
        constructor
        · intro h; cases h; exact ⟨e1, by omega, by rw [e2]⟩
        · rintro ⟨_, _, h⟩; rw [h, e2]
    | _ =>
      constructor
      · intro h; cases h
      · rintro ⟨h1, h2, _⟩
        rw [valOf_from] at h2
        rw [parse_ok _ 0 h1 (by omega)] at hq
        cases hq

theorem val_snoc (m : List UInt8) (b : UInt8) : valOf (m ++ [b]) = 10 * valOf m + (b.toNat - 48) := by
  unfold valOf
  rw [List.foldl_append]
  rfl

theorem val_pos : ∀ (n : Nat) (l : List UInt8), l.length = n → l ≠ [] → (∀ b ∈ l, digN b.toNat = true) → (l.getD 0 0).toNat ≠ 48 → 1 ≤ valOf l := by
  intro n l _ hne hd h0
  cases l with
  | nil => exact absurd rfl hne
  | cons c r =>
    obtain ⟨h1, _⟩ := (digN_iff c).1 (hd c (by simp))
    have h0' : c.toNat ≠ 48 := h0
    rw [valOf_from, from_cons]
    have := from_ge r (10 * 0 + (c.toNat - 48))
    omega

theorem snoc_cases (l : List UInt8) (h : l ≠ []) : ∃ m b, l = m ++ [b] := ⟨l.dropLast, l.getLast h, (List.dropLast_concat_getLast h).symm⟩

theorem digit_of {b : UInt8} (h : digN b.toNat = true) : UInt8.ofNat (48 + (b.toNat - 48)) = b := by
  obtain ⟨h1, h2⟩ := (digN_iff b).1 h
  rw [show 48 + (b.toNat - 48) = b.toNat by omega]
  exact UInt8.ofNat_toNat

theorem dec_val : ∀ (n : Nat) (l : List UInt8), l.length = n → l ≠ [] → (∀ b ∈ l, digN b.toNat = true) → (l.length = 1 ∨ (l.getD 0 0).toNat ≠ 48) → Lib.decDigits (valOf l) = l := by
  intro n
  induction n with
  | zero => intro l h hne; exact absurd (List.eq_nil_of_length_eq_zero h) hne
  | succ n ih =>
    intro l h hne hd h0
    obtain ⟨m, b, rfl⟩ := snoc_cases l hne
    have hb := hd b (by simp)
    obtain ⟨b1, b2⟩ := (digN_iff b).1 hb
    rw [val_snoc]
    by_cases hm : m = []
    · subst hm
      rw [Lib.decDigits, dif_pos (show 10 * valOf [] + (b.toNat - 48) < 10 by show 10 * 0 + _ < 10; omega)]
      show [UInt8.ofNat (48 + (10 * 0 + (b.toNat - 48)))] = [b]
      rw [show 10 * 0 + (b.toNat - 48) = b.toNat - 48 by omega, digit_of hb]
    · have hl : m.length = n := by simpa using h
      have h0' : (m.getD 0 0).toNat ≠ 48 := by
        rcases h0 with h0 | h0
        · have : m.length = 0 := by simpa using h0
          exact absurd (List.eq_nil_of_length_eq_zero this) hm
        · cases m with
          | nil => exact absurd rfl hm
          | cons c r => exact h0
      have hdm : ∀ b ∈ m, digN b.toNat = true := fun c hc => hd c (by simp [hc])
      have hv := val_pos n m hl hm hdm h0'
      rw [Lib.decDigits, dif_neg (by omega), show (10 * valOf m + (b.toNat - 48)) / 10 = valOf m by omega, show (10 * valOf m + (b.toNat - 48)) % 10 = b.toNat - 48 by omega, ih m hl hm hdm (.inr h0'), digit_of hb]

theorem dec_head (v : Nat) (h : 1 ≤ v) : ((Lib.decDigits v).getD 0 0).toNat ≠ 48 := by
  induction v using Nat.strongRecOn with
  | _ v ih =>
    rw [Lib.decDigits]
    split
    · next hv =>
      show (UInt8.ofNat (48 + v)).toNat ≠ 48
      rw [u8dig v hv]; omega
    · next hv =>
      have := ih (v / 10) (by omega) (by omega)
      cases hd : Lib.decDigits (v / 10) with
      | nil => exact absurd hd (dec_ne _)
      | cons c r => rw [hd] at this; exact this

theorem dec_short {v : Nat} (h : v ≤ 9223372036854775807) : (Lib.decDigits v).length ≤ 19 := by
  rw [Lib.decDigits_length]
  rcases Nat.eq_zero_or_pos v with rfl | h1
  · rw [Lib.nDigits_small (by omega)]; omega
  · rcases Nat.lt_or_ge (Lib.nDigits v) 20 with h2 | h2
    · omega
    · exfalso
      have hlow : ∀ (k u : Nat), Lib.nDigits u = k + 1 → 1 ≤ u → 10 ^ k ≤ u := by
        intro k
        induction k with
        | zero => intro u _ hu; simpa using hu
        | succ k ih =>
          intro u hu h1
          by_cases h10 : u < 10
          · rw [Lib.nDigits_small h10] at hu; omega
          · rw [Lib.nDigits_big h10] at hu
            have := ih (u / 10) (by omega) (by omega)
            rw [Nat.pow_succ]
            omega
      have := hlow (Lib.nDigits v - 1) v (by omega) h1
      have h3 : (10 : Nat) ^ 19 ≤ 10 ^ (Lib.nDigits v - 1) := Nat.pow_le_pow_right (by omega) (by omega)
      have h4 : (10 : Nat) ^ 19 = 10000000000000000000 := rfl
      omega

/-- a number is what parses, and is formatted again the same -/
theorem num_prog (l : List UInt8) (hne : l ≠ []) (hp : ∀ b ∈ l, partN b.toNat = true) : numB l = true ↔ ∃ v, Lib.parseIntB 64 l = .ok v ∧ Lib.itoa v = l := by
  have hl : 1 ≤ l.length := by
    cases l with
    | nil => exact absurd rfl hne
    | cons _ _ => simp
  unfold numB
  simp only [Bool.and_eq_true, Bool.or_eq_true, decide_eq_true_eq, bne_iff_ne, List.all_eq_true]
  constructor
  · rintro ⟨⟨⟨⟨_, _⟩, h3⟩, h4⟩, h5⟩
    refine ⟨(valOf l : Int), (parse_int l hne hp _).2 ⟨h4, h5, rfl⟩, ?_⟩
    unfold Lib.itoa
    rw [if_neg (by omega)]
    show Lib.decDigits (valOf l) = l
    exact dec_val _ l rfl hne h4 h3
  · rintro ⟨v, h1, h2⟩
    obtain ⟨e1, e2, rfl⟩ := (parse_int l hne hp v).1 h1
    unfold Lib.itoa at h2
    rw [if_neg (by omega)] at h2
    have h2' : Lib.decDigits (valOf l) = l := h2
    refine ⟨⟨⟨⟨hl, ?_⟩, ?_⟩, e1⟩, e2⟩
    · have := dec_short e2; rw [h2'] at this; exact this
    · rcases Nat.eq_zero_or_pos (valOf l) with h0 | h0
      · left
        rw [← h2', h0, Lib.decDigits_one (by omega)]
        rfl
      · right
        have := dec_head _ h0
        rw [h2'] at this
        exact this

theorem num_val {l : List UInt8} {v : Int} (hne : l ≠ []) (hp : ∀ b ∈ l, partN b.toNat = true) (h : Lib.parseIntB 64 l = .ok v) : v = valOf l := ((parse_int l hne hp v).1 h).2.2
end Go.Proofs.YtljdphpbalioaaaGreatDoor
/- Off the shelf: strconv.ParseInt, strconv.FormatInt at base 10. -/
namespace Go.Proofs
open Go.Shelf Go.Lib Go.RowKit
def Tryz.lays174_ren : Go.Shelf.Ren := ⟨fun | 174 => 40 | 247 => 61 | 245 => 62 | 287 => 78 | 279 => 79 | 280 => 80 | 281 => 81 | 282 => 82 | 321 => 90 | 322 => 91 | 316 => 92 | 171 => 94 | 205 => 93 | 243 => 100 | 246 => 63 | 283 => 83 | 284 => 84 | 285 => 85 | 286 => 86 | 129 => 96 | 317 => 95 | 318 => 97 | 319 => 98 | 320 => 99 | 337 => 101 | 338 => 102 | n => n, fun | 9 => 9 | 3 => 3 | 2 => 2 | 75 => 90 | 85 => 91 | 4 => 4 | 167 => 128 | 5 => 5 | 53 => 33 | 175 => 129 | 46 => 101 | 168 => 131 | 37 => 138 | 0 => 0 | 210 => 147 | 21 => 21 | 127 => 154 | 145 => 157 | 143 => 155 | 171 => 135 | 173 => 139 | 212 => 150 | 51 => 105 | 20 => 20 | 213 => 151 | 232 => 159 | 233 => 160 | 80 => 77 | n => n, fun | 15 => 3 | 16 => 4 | 17 => 5 | 18 => 6 | 19 => 7 | n => n⟩
theorem Tryz.lays174 : Go.Proofs.LaysC.n174 Tryz.prog Tryz.lays174_ren := {
  mixed := by kernel_rfl
  f129 := Tryz.func96.trans (congrArg some (by kernel_rfl))
  f171 := Tryz.func94.trans (congrArg some (by kernel_rfl))
  f174 := Tryz.func40.trans (congrArg some (by kernel_rfl))
  f205 := Tryz.func93.trans (congrArg some (by kernel_rfl))
  f243 := Tryz.func100.trans (congrArg some (by kernel_rfl))
  f245 := Tryz.func62.trans (congrArg some (by kernel_rfl))
  f246 := Tryz.func63.trans (congrArg some (by kernel_rfl))
  f247 := Tryz.func61.trans (congrArg some (by kernel_rfl))
  f279 := Tryz.func79.trans (congrArg some (by kernel_rfl))
  f280 := Tryz.func80.trans (congrArg some (by kernel_rfl))
  f281 := Tryz.func81.trans (congrArg some (by kernel_rfl))
  f282 := Tryz.func82.trans (congrArg some (by kernel_rfl))
  f283 := Tryz.func83.trans (congrArg some (by kernel_rfl))
  f284 := Tryz.func84.trans (congrArg some (by kernel_rfl))
  f285 := Tryz.func85.trans (congrArg some (by kernel_rfl))
  f286 := Tryz.func86.trans (congrArg some (by kernel_rfl))
  f287 := Tryz.func78.trans (congrArg some (by kernel_rfl))
  f316 := Tryz.func92.trans (congrArg some (by kernel_rfl))
  f317 := Tryz.func95.trans (congrArg some (by kernel_rfl))
  f318 := Tryz.func97.trans (congrArg some (by kernel_rfl))
  f319 := Tryz.func98.trans (congrArg some (by kernel_rfl))
  f320 := Tryz.func99.trans (congrArg some (by kernel_rfl))
  f321 := Tryz.func90.trans (congrArg some (by kernel_rfl))
  f322 := Tryz.func91.trans (congrArg some (by kernel_rfl))
  f337 := Tryz.func101.trans (congrArg some (by kernel_rfl))
  f338 := Tryz.func102.trans (congrArg some (by kernel_rfl))
  t0 := Tryz.underlying0
  a0 := Tryz.isAgg0
  z0 := Tryz.sizeOf0
  v0 := Tryz.zeroValue0
  t2 := Tryz.underlying2
  a2 := Tryz.isAgg2
  z2 := Tryz.sizeOf2
  v2 := Tryz.zeroValue2
  t3 := Tryz.underlying3
  a3 := Tryz.isAgg3
  z3 := Tryz.sizeOf3
  v3 := Tryz.zeroValue3
  t4 := Tryz.underlying4
  a4 := Tryz.isAgg4
  z4 := Tryz.sizeOf4
  v4 := Tryz.zeroValue4
  t5 := Tryz.underlying5
  a5 := Tryz.isAgg5
  z5 := Tryz.sizeOf5
  v5 := Tryz.zeroValue5
  t9 := Tryz.underlying9
  a9 := Tryz.isAgg9
  z9 := Tryz.sizeOf9
  v9 := Tryz.zeroValue9
  t20 := Tryz.underlying20
  a20 := Tryz.isAgg20
  z20 := Tryz.sizeOf20
  v20 := Tryz.zeroValue20
  t21 := Tryz.underlying21
  a21 := Tryz.isAgg21
  z21 := Tryz.sizeOf21
  v21 := Tryz.zeroValue21
  t37 := Tryz.underlying138
  a37 := Tryz.isAgg138
  z37 := Tryz.sizeOf138
  v37 := Tryz.zeroValue138
  t46 := Tryz.underlying101
  a46 := Tryz.isAgg101
  z46 := Tryz.sizeOf101
  v46 := Tryz.zeroValue101
  t51 := Tryz.underlying105
  a51 := Tryz.isAgg105
  z51 := Tryz.sizeOf105
  v51 := Tryz.zeroValue105
  t53 := Tryz.underlying33
  a53 := Tryz.isAgg33
  z53 := Tryz.sizeOf33
  v53 := Tryz.zeroValue33
  t75 := Tryz.underlying90
  a75 := Tryz.isAgg90
  z75 := Tryz.sizeOf90
  v75 := Tryz.zeroValue90
  t85 := Tryz.underlying91
  a85 := Tryz.isAgg91
  z85 := Tryz.sizeOf91
  v85 := Tryz.zeroValue91
  t127 := Tryz.underlying154
  a127 := Tryz.isAgg154
  z127 := Tryz.sizeOf154
  v127 := Tryz.zeroValue154
  t143 := Tryz.underlying155
  a143 := Tryz.isAgg155
  z143 := Tryz.sizeOf155
  v143 := Tryz.zeroValue155
  t145 := Tryz.underlying157
  a145 := Tryz.isAgg157
  z145 := Tryz.sizeOf157
  v145 := Tryz.zeroValue157
  t167 := Tryz.underlying128
  a167 := Tryz.isAgg128
  z167 := Tryz.sizeOf128
  v167 := Tryz.zeroValue128
  t168 := Tryz.underlying131
  a168 := Tryz.isAgg131
  z168 := Tryz.sizeOf131
  v168 := Tryz.zeroValue131
  t171 := Tryz.underlying135
  a171 := Tryz.isAgg135
  z171 := Tryz.sizeOf135
  v171 := Tryz.zeroValue135
  t173 := Tryz.underlying139
  a173 := Tryz.isAgg139
  z173 := Tryz.sizeOf139
  v173 := Tryz.zeroValue139
  t175 := Tryz.underlying129
  a175 := Tryz.isAgg129
  z175 := Tryz.sizeOf129
  v175 := Tryz.zeroValue129
  t210 := Tryz.underlying147
  a210 := Tryz.isAgg147
  z210 := Tryz.sizeOf147
  v210 := Tryz.zeroValue147
  t212 := Tryz.underlying150
  a212 := Tryz.isAgg150
  z212 := Tryz.sizeOf150
  v212 := Tryz.zeroValue150
  t213 := Tryz.underlying151
  a213 := Tryz.isAgg151
  z213 := Tryz.sizeOf151
  t232 := Tryz.underlying159
  a232 := Tryz.isAgg159
  z232 := Tryz.sizeOf159
  v232 := Tryz.zeroValue159
  t233 := Tryz.underlying160
  a233 := Tryz.isAgg160
  z233 := Tryz.sizeOf160
  v233 := Tryz.zeroValue160
  g15 := by kernel_rfl
  g16 := by kernel_rfl
  g17 := by kernel_rfl
  g18 := by kernel_rfl
  g19 := by kernel_rfl
  t80 := Tryz.underlying77
  a80 := Tryz.isAgg77
  z80 := Tryz.sizeOf77
  v80 := Tryz.zeroValue77
  i0 := by kernel_rfl
  i2 := by kernel_rfl
  i3 := by kernel_rfl
  i4 := by kernel_rfl
  i5 := by kernel_rfl
  i9 := by kernel_rfl
  i20 := by kernel_rfl
  i21 := by kernel_rfl
  i37 := by kernel_rfl
  i46 := by kernel_rfl
  i51 := by kernel_rfl
  i53 := by kernel_rfl
  i75 := by kernel_rfl
  i80 := by kernel_rfl
  i85 := by kernel_rfl
  i127 := by kernel_rfl
  i143 := by kernel_rfl
  i145 := by kernel_rfl
  i167 := by kernel_rfl
  i168 := by kernel_rfl
  i171 := by kernel_rfl
  i173 := by kernel_rfl
  i175 := by kernel_rfl
  i210 := by kernel_rfl
  i212 := by kernel_rfl
  i232 := by kernel_rfl
  i233 := by kernel_rfl
  m15 := by kernel_rfl
  m16 := by kernel_rfl
  m17 := by kernel_rfl
  m18 := by kernel_rfl
  m19 := by kernel_rfl
  c0 := by kernel_rfl
  c2 := by kernel_rfl
  c3 := by kernel_rfl
  c4 := by kernel_rfl
  c5 := by kernel_rfl
  c9 := by kernel_rfl
  c20 := by kernel_rfl
  c21 := by kernel_rfl
  c37 := by kernel_rfl
  c46 := by kernel_rfl
  c51 := by kernel_rfl
  c53 := by kernel_rfl
  c75 := by kernel_rfl
  c80 := by kernel_rfl
  c85 := by kernel_rfl
  c127 := by kernel_rfl
  c143 := by kernel_rfl
  c145 := by kernel_rfl
  c167 := by kernel_rfl
  c168 := by kernel_rfl
  c171 := by kernel_rfl
  c173 := by kernel_rfl
  c175 := by kernel_rfl
  c210 := by kernel_rfl
  c212 := by kernel_rfl
  c213 := by kernel_rfl
  c232 := by kernel_rfl
  c233 := by kernel_rfl }
def Tryz.lays173_ren : Go.Shelf.Ren := ⟨fun | 173 => 41 | 246 => 63 | 283 => 83 | 284 => 84 | 285 => 85 | 286 => 86 | 129 => 96 | 317 => 95 | 318 => 97 | 319 => 98 | 320 => 99 | 337 => 101 | 338 => 102 | n => n, fun | 2 => 2 | 3 => 3 | 9 => 9 | 4 => 4 | 171 => 135 | 0 => 0 | 53 => 33 | 37 => 138 | 5 => 5 | 173 => 139 | 212 => 150 | 51 => 105 | 20 => 20 | 213 => 151 | 46 => 101 | 232 => 159 | 233 => 160 | n => n, fun | 17 => 5 | 18 => 6 | 19 => 7 | n => n⟩
theorem Tryz.lays173 : Go.Proofs.LaysM.n173 Tryz.prog Tryz.lays173_ren := {
  mixed := by kernel_rfl
  f129 := Tryz.func96.trans (congrArg some (by kernel_rfl))
  f173 := Tryz.func41.trans (congrArg some (by kernel_rfl))
  f246 := Tryz.func63.trans (congrArg some (by kernel_rfl))
  f283 := Tryz.func83.trans (congrArg some (by kernel_rfl))
  f284 := Tryz.func84.trans (congrArg some (by kernel_rfl))
  f285 := Tryz.func85.trans (congrArg some (by kernel_rfl))
  f286 := Tryz.func86.trans (congrArg some (by kernel_rfl))
  f317 := Tryz.func95.trans (congrArg some (by kernel_rfl))
  f318 := Tryz.func97.trans (congrArg some (by kernel_rfl))
  f319 := Tryz.func98.trans (congrArg some (by kernel_rfl))
  f320 := Tryz.func99.trans (congrArg some (by kernel_rfl))
  f337 := Tryz.func101.trans (congrArg some (by kernel_rfl))
  f338 := Tryz.func102.trans (congrArg some (by kernel_rfl))
  t0 := Tryz.underlying0
  a0 := Tryz.isAgg0
  z0 := Tryz.sizeOf0
  v0 := Tryz.zeroValue0
  t2 := Tryz.underlying2
  a2 := Tryz.isAgg2
  z2 := Tryz.sizeOf2
  v2 := Tryz.zeroValue2
  t3 := Tryz.underlying3
  a3 := Tryz.isAgg3
  z3 := Tryz.sizeOf3
  v3 := Tryz.zeroValue3
  t4 := Tryz.underlying4
  a4 := Tryz.isAgg4
  z4 := Tryz.sizeOf4
  v4 := Tryz.zeroValue4
  t5 := Tryz.underlying5
  a5 := Tryz.isAgg5
  z5 := Tryz.sizeOf5
  v5 := Tryz.zeroValue5
  t9 := Tryz.underlying9
  a9 := Tryz.isAgg9
  z9 := Tryz.sizeOf9
  v9 := Tryz.zeroValue9
  t20 := Tryz.underlying20
  a20 := Tryz.isAgg20
  z20 := Tryz.sizeOf20
  v20 := Tryz.zeroValue20
  t37 := Tryz.underlying138
  a37 := Tryz.isAgg138
  z37 := Tryz.sizeOf138
  v37 := Tryz.zeroValue138
  t46 := Tryz.underlying101
  a46 := Tryz.isAgg101
  z46 := Tryz.sizeOf101
  v46 := Tryz.zeroValue101
  t51 := Tryz.underlying105
  a51 := Tryz.isAgg105
  z51 := Tryz.sizeOf105
  v51 := Tryz.zeroValue105
  t53 := Tryz.underlying33
  a53 := Tryz.isAgg33
  z53 := Tryz.sizeOf33
  v53 := Tryz.zeroValue33
  t171 := Tryz.underlying135
  a171 := Tryz.isAgg135
  z171 := Tryz.sizeOf135
  v171 := Tryz.zeroValue135
  t173 := Tryz.underlying139
  a173 := Tryz.isAgg139
  z173 := Tryz.sizeOf139
  v173 := Tryz.zeroValue139
  t212 := Tryz.underlying150
  a212 := Tryz.isAgg150
  z212 := Tryz.sizeOf150
  v212 := Tryz.zeroValue150
  t213 := Tryz.underlying151
  a213 := Tryz.isAgg151
  z213 := Tryz.sizeOf151
  t232 := Tryz.underlying159
  a232 := Tryz.isAgg159
  z232 := Tryz.sizeOf159
  v232 := Tryz.zeroValue159
  t233 := Tryz.underlying160
  a233 := Tryz.isAgg160
  z233 := Tryz.sizeOf160
  v233 := Tryz.zeroValue160
  g17 := by kernel_rfl
  g18 := by kernel_rfl
  g19 := by kernel_rfl
  i0 := by kernel_rfl
  i2 := by kernel_rfl
  i3 := by kernel_rfl
  i4 := by kernel_rfl
  i5 := by kernel_rfl
  i9 := by kernel_rfl
  i20 := by kernel_rfl
  i37 := by kernel_rfl
  i46 := by kernel_rfl
  i51 := by kernel_rfl
  i53 := by kernel_rfl
  i171 := by kernel_rfl
  i173 := by kernel_rfl
  i212 := by kernel_rfl
  i232 := by kernel_rfl
  i233 := by kernel_rfl
  m17 := by kernel_rfl
  m18 := by kernel_rfl
  m19 := by kernel_rfl }
end Go.Proofs
namespace Go.Proofs.YtljdphpbalioaaaGreatDoor
open Go.RowKit Go.Lib

/-- the table of powers of ten -/
def P10 (w : World) : Prop := Lib.TabIs Tryz.prog w "internal/strconv.uint64pow10" .u64 Lib.pow10Tab
theorem P10.below {w w' : World} (h : P10 w) (hb : Below w.heap.size w w') : P10 w' := (tabBelow_of_tabIs h) w' hb

/-- the two errors -/
structure Errs (w : World) : Prop where
  s : ∃ t p, w.cell? ⟨Tryz.lays174_ren.g 15, 0, none⟩ = some (.iface t p)
  r : ∃ t p, w.cell? ⟨Tryz.lays174_ren.g 16, 0, none⟩ = some (.iface t p)
theorem Errs.below {w w' : World} (h : Errs w) (hb : Below w.heap.size w w') : Errs w' := by
  obtain ⟨⟨t, p, h1⟩, ⟨t2, p2, h2⟩⟩ := h
  exact ⟨⟨t, p, (hb.cell (p := ⟨Tryz.lays174_ren.g 15, 0, none⟩) (block_lt_of_cell h1)).trans h1⟩, ⟨t2, p2, (hb.cell (p := ⟨Tryz.lays174_ren.g 16, 0, none⟩) (block_lt_of_cell h2)).trans h2⟩⟩

theorem pint_ok (s : ByteArray) (hs : s.size ≤ 281474976710656) (v : Int) (h : Lib.parseIntB 64 s.data.toList = .ok v) (w : World) :
    Calls Tryz.prog 40 #[.string s, .int .i64 10, .int .i64 64] w fun e w' => e = .returned (.tuple #[.int .i64 v, .nilIface]) ∧ Below w.heap.size w w' := by
  refine (Any.strconv_ParseInt_10_at64_ok Tryz.lays174 s (by omega) v h w).mono ?_
  rintro e w' ⟨rfl, hw⟩
  refine ⟨rfl, ?_⟩
  rcases hw with rfl | ⟨t, rfl⟩
  · exact Below.refl _ _
  · exact Lib.bytesWorld_below _ _ _

def PintBad (w : World) (e : Ending) (w' : World) : Prop := ∃ x t p, e = .returned (.tuple #[.int .i64 x, .iface t p]) ∧ Below w.heap.size w w'

theorem pint_bad (s : ByteArray) (hs : s.size ≤ 281474976710656) (h : ∀ v, Lib.parseIntB 64 s.data.toList ≠ .ok v) (w : World) (hE : Errs w) :
    Calls Tryz.prog 40 #[.string s, .int .i64 10, .int .i64 64] w (PintBad w) := by
  obtain ⟨⟨t1, p1, h1⟩, ⟨t2, p2, h2⟩⟩ := hE
  cases hq : Lib.parseIntB 64 s.data.toList
  · next v => exact absurd hq (h v)
  · refine (Any.strconv_ParseInt_10_at64_syntax Tryz.lays174 s hs hq _ w h1 (.inr ⟨_, _, rfl⟩)).mono ?_
    rintro e w' ⟨N, rfl, -, -, hb⟩
    exact ⟨_, _, _, rfl, hb⟩
  · refine (Any.strconv_ParseInt_10_at64_range Tryz.lays174 s hs hq _ w h2 (.inr ⟨_, _, rfl⟩)).mono ?_
    rintro e w' ⟨N, rfl, -, -, hb⟩
    exact ⟨_, _, _, rfl, hb⟩

theorem fint_any (n : Int) (h0 : -9223372036854775808 ≤ n) (h1 : n ≤ 9223372036854775807) (w : World) (ht : P10 w) :
    Calls Tryz.prog 41 #[.int .i64 n, .int .i64 10] w fun e w' => e = .returned (strV (Lib.itoa n)) ∧ Below w.heap.size w w' := by
  refine (Any.strconv_FormatInt_10 Tryz.lays173 n h0 h1 w ht).mono ?_
  rintro e w' ⟨rfl, k, os, rfl⟩
  exact ⟨rfl, Lib.below_grow _ _ (Nat.le_refl _) _ _⟩
end Go.Proofs.YtljdphpbalioaaaGreatDoor
/- Walks: part; the bytes of a class from here on. -/
namespace Go.Proofs.YtljdphpbalioaaaGreatDoor
open Go.RowKit

/-- a text that is scanned, and the place in it -/
def ScanAt (w : World) (g : Nat) (s : ByteArray) (i : Nat) : Prop := w.heap[g]? = some (.cells #[.string s, .int .i64 i] 69 (0, 0))

theorem scan_drewN {w : World} {g : Nat} {s : ByteArray} {i : Nat} (h : ScanAt w g s i) (n : Nat) : ScanAt (w.drewN n) g s i := h
theorem scan_set {w : World} {g : Nat} {s : ByteArray} {i : Nat} (h : ScanAt w g s i) (j : Nat) : ScanAt (w.setCell ⟨g, 1, none⟩ (.int .i64 j)) g s j := heap_setCell_same w g 1 _ _ (.int .i64 j) h
theorem scan_keep {w w' : World} {g : Nat} {s : ByteArray} {i : Nat} (h : ScanAt w g s i) (hb : Below w.heap.size w w') : ScanAt w' g s i := (hb.block g (Array.getElem?_eq_some_iff.1 h).1).trans h

set_option maxRecDepth 10000 in
theorem part_any (n : Nat) (w : World) : Calls Tryz.prog 37 #[.int .u8 n] w fun e w' => e = .returned (.bool (partN n)) ∧ w' = w := by
  obtain ⟨x, hx⟩ : ∃ x, x = partN n := ⟨_, rfl⟩
  rw [← hx]
  unfold partN at hx
  have HX := Lib.hid hx
  clear hx
  go_enter Tryz.func37, Tryz.ntmps37
  go_wp2_with fail
  refine (letter_any n w).mono ?_
  rintro e w1 ⟨rfl, hw⟩
  have hw' := hw.symm
  subst hw'
  clear hw
  cases h1 : letN n with
  | true =>
    have hr : x = true := by rw [HX.out, h1]; rfl
    subst hr
    clear h1
    go_wp2_with fail
    go_ret
    exact ⟨rfl, rfl⟩
  | false =>
    have hr : Hid (x = digN n) := Lib.hid (by rw [HX.out, h1]; rfl)
    clear h1
    go_wp2_with fail
    refine (digit_any n _).mono ?_
    rintro e w2 ⟨rfl, hw⟩
    have hw' := hw.symm
    subst hw'
    clear hw
    go_wp2_with fail
    go_ret
    exact ⟨by rw [hr.out]; rfl, rfl⟩

def noteN (n : Nat) : Bool := n != 10

set_option maxRecDepth 10000 in
theorem note_any (n : Nat) (w : World) : Calls Tryz.prog 36 #[.int .u8 n] w fun e w' => e = .returned (.bool (noteN n)) ∧ w' = w := by
  obtain ⟨x, hx⟩ : ∃ x, x = noteN n := ⟨_, rfl⟩
  rw [← hx]
  have HX := Lib.hid hx
  clear hx
  go_enter Tryz.func36, Tryz.ntmps36
  go_wp2_with fail
  go_ret
  have hb : ((n : Int) != 10) = noteN n := by
    unfold noteN
    rw [Bool.eq_iff_iff, bne_iff_ne, bne_iff_ne]
    omega
  exact ⟨by rw [HX.out, ← hb]; rfl, rfl⟩

theorem take_while_end {p : UInt8 → Bool} (l : List UInt8) (n : Nat) (hn : n ≤ l.length) (h1 : ∀ j (h : j < l.length), j < n → p (l[j]) = true) (h2 : ∀ h : n < l.length, p (l[n]) = false) : (l.takeWhile p).length = n := by
  induction n generalizing l with
  | zero =>
    cases l with
    | nil => rfl
    | cons b r =>
      have := h2 (by simp)
      rw [List.takeWhile_cons, if_neg (by simpa using this)]
      rfl
  | succ n ih =>
    cases l with
    | nil => simp at hn
    | cons b r =>
      have hb := h1 0 (by simp) (by omega)
      rw [List.takeWhile_cons, if_pos (by simpa using hb)]
      rw [List.length_cons, ih r (by simpa using hn) (fun j h hj => by have := h1 (j + 1) (by simp; omega) (by omega); simpa using this) (fun h => by have := h2 (by simp; omega); simpa using this)]

theorem str_get (s : ByteArray) (j : Nat) (h : j < s.size) : s.data.toList[j]'(by rw [str_len]; exact h) = s[j]'h := by
  have := str_at s j h
  rw [List.getElem?_eq_getElem (by rw [str_len]; exact h)] at this
  exact Option.some.inj this

/-- how far a class of bytes goes -/
theorem run_until (p : Nat → Bool) (s : ByteArray) (i k : Nat) (hi : i ≤ k) (hk : k ≤ s.size) (h1 : ∀ j (h : j < s.size), i ≤ j → j < k → p (s[j]'h).toNat = true) (h2 : ∀ h : k < s.size, p (s[k]'h).toNat = false) :
    ((s.data.toList.drop i).takeWhile fun b => p b.toNat).length = k - i := by
  refine take_while_end _ _ (by rw [List.length_drop, str_len]; omega) (fun j h hj => ?_) (fun h => ?_)
  · rw [List.length_drop, str_len] at h
    rw [List.getElem_drop, str_get s (i + j) (by omega)]
    exact h1 (i + j) (by omega) (by omega) (by omega)
  · rw [List.length_drop, str_len] at h
    rw [List.getElem_drop, str_get s (i + (k - i)) (by omega)]
    have e : i + (k - i) = k := by omega
    have := h2 (by omega)
    simp only [e]
    exact this

theorem mid_bytes (s : ByteArray) (i k : Nat) : (s.extract i k).data.toList = (s.data.toList.drop i).take (k - i) := Lib.extract_data s i k

set_option maxRecDepth 100000 in
set_option maxHeartbeats 1600000 in
theorem run_part (g i : Nat) (s : ByteArray) (w : World) (hr : ScanAt w g s i) (hi : i ≤ s.size) (hs : s.size ≤ 281474976710656) :
    Calls Tryz.prog 35 #[.pointer (some ⟨g, 0, none⟩), .func (.func 37) #[] #[]] w fun e w' => e = .returned (strV ((s.data.toList.drop i).take (runOf (s.data.toList.drop i)))) ∧ ScanAt w' g s (i + runOf (s.data.toList.drop i)) ∧ Only w w' (fun k => k = g) := by
  have hc1 := cell_of_row w g 1 _ _ _ hr
  have HR := Lib.hid hr
  have HI := Lib.hid hi
  clear hr
  go_enter Tryz.func35, Tryz.ntmps35
  go_wp2_with fail
  go_loopw [] (fun wr => ∃ k : Nat, i ≤ k ∧ k ≤ s.size ∧ Hid (ScanAt wr g s k) ∧ Hid (Only w wr (fun k => k = g)) ∧ Hid (∀ j (h : j < s.size), i ≤ j → j < k → partN (s[j]'h).toNat = true)) (fun wr => s.size - (intOf ((wr.cell? ⟨g, 1, none⟩).getD undef)).toNat)
  case atStart => exact ⟨i, Nat.le_refl _, hi, HR, Lib.hid (Only.refl _ _), Lib.hid fun j _ h1 h2 => absurd h1 (by omega)⟩
  case round =>
    obtain ⟨k, hik, hk, hsc, hon, hall⟩ := hrel
    clear hc1 HR
    have c0 := cell_of_row wr g 0 _ _ _ hsc.out
    have c1 := cell_of_row wr g 1 _ _ _ hsc.out
    have f1 := frozen_of_row wr g 1 _ _ hsc.out
    by_cases hlt : k < s.size
    · have d1 : decide ((k : Int) < s.size) = true := decide_eq_true (by omega)
      have d1n : decide (k < s.size) = true := decide_eq_true hlt
      cases hp : partN (s[k]'hlt).toNat with
      | true =>
        have HN : Hid (∀ j (h : j < s.size), i ≤ j → j < k + 1 → partN (s[j]'h).toNat = true) := Lib.hid fun j h h1 h2 => by
          rcases Nat.lt_or_ge j k with h' | h'
          · exact hall.out j h h1 h'
          · have : j = k := by omega
            subst this
            exact hp
        have HP : Hid (∀ w', Calls Tryz.prog 37 #[.int .u8 (s[k]'hlt).toNat] w' fun e w'' => e = .returned (.bool true) ∧ w'' = w') := Lib.hid fun w' => by rw [← hp]; exact part_any _ w'
        clear hp hall
        go_upto_region 2 with fail
        go_quiet ((go_at_call 37; exact Calls.quiet_of_same (HP.out _)))
        clear HP
        go_wp2_with fail
        go_roundw
        case rel => exact ⟨k + 1, by omega, by omega, Lib.hid (by have := scan_set (scan_drewN hsc.out nq) (k + 1); exact this), Lib.hid ((hon.out.drewN nq).trans (Only.setCell _ _ _) fun _ _ h => h), HN⟩
        case measure =>
          have e1 := cell_of_row _ g 1 _ _ _ (scan_set (scan_drewN hsc.out nq) (k + 1))
          have e2 := cell_of_row _ g 1 _ _ _ hsc.out
          show s.size - (intOf ((((wr.drewN nq).setCell ⟨g, 1, none⟩ (.int .i64 ((k + 1 : Nat) : Int))).cell? ⟨g, 1, none⟩).getD undef)).toNat < s.size - (intOf ((wr.cell? ⟨g, 1, none⟩).getD undef)).toNat
          rw [e1, e2]
          simp [intOf]
          omega
      | false =>
        have HP : Hid (∀ w', Calls Tryz.prog 37 #[.int .u8 (s[k]'hlt).toNat] w' fun e w'' => e = .returned (.bool false) ∧ w'' = w') := Lib.hid fun w' => by rw [← hp]; exact part_any _ w'
        have HL : Hid (runOf (s.data.toList.drop i) = k - i) := Lib.hid (run_until partN s i k hik hk (fun j h h1 h2 => hall.out j h h1 h2) (fun _ => hp))
        clear hp hall
        go_upto_region 2 with fail
        go_quiet ((go_at_call 37; exact Calls.quiet_of_same (HP.out _)))
        clear HP
        go_wp2_with fail
        have HSC : Hid (ScanAt (wr.drewN nq) g s k) := Lib.hid (scan_drewN hsc.out nq)
        have HON : Hid (Only w (wr.drewN nq) (fun k => k = g)) := Lib.hid (hon.out.drewN nq)
        have c0 := cell_of_row _ g 0 _ _ _ HSC.out
        have c1 := cell_of_row _ g 1 _ _ _ HSC.out
        clear f1 d1 d1n hsc hon
        generalize wr.drewN nq = w2 at *
        go_quiet (fail)
        go_wp2_with fail
        go_ret
        have e1 := mk_eq (show (s.extract i k).data.toList = (s.data.toList.drop i).take (runOf (s.data.toList.drop i)) by rw [mid_bytes, HL.out])
        refine ⟨by rw [← e1]; rfl, ?_, HON.out.drewN _⟩
        rw [HL.out, show i + (k - i) = k by omega]
        exact scan_drewN HSC.out _
    · have ek : k = s.size := by omega
      subst ek
      have d1 : decide ((s.size : Int) < s.size) = false := decide_eq_false (by omega)
      have HL : Hid (runOf (s.data.toList.drop i) = s.size - i) := Lib.hid (run_until partN s i s.size hik (Nat.le_refl _) (fun j h h1 h2 => hall.out j h h1 h2) (fun h => absurd h (Nat.lt_irrefl _)))
      clear hall
      go_upto_region 2 with fail
      go_quiet (fail)
      go_wp2_with fail
      have HSC : Hid (ScanAt (wr.drewN nq) g s s.size) := Lib.hid (scan_drewN hsc.out nq)
      have HON : Hid (Only w (wr.drewN nq) (fun k => k = g)) := Lib.hid (hon.out.drewN nq)
      have c0 := cell_of_row _ g 0 _ _ _ HSC.out
      have c1 := cell_of_row _ g 1 _ _ _ HSC.out
      clear f1 d1 hsc hon
      generalize wr.drewN nq = w2 at *
      go_quiet (fail)
      go_wp2_with fail
      go_ret
      have e1 := mk_eq (show (s.extract i s.size).data.toList = (s.data.toList.drop i).take (runOf (s.data.toList.drop i)) by rw [mid_bytes, HL.out])
      refine ⟨by rw [← e1]; rfl, ?_, HON.out.drewN _⟩
      rw [HL.out, show i + (s.size - i) = s.size by omega]
      exact scan_drewN HSC.out _

set_option maxRecDepth 100000 in
set_option maxHeartbeats 1600000 in
theorem run_note (g i : Nat) (s : ByteArray) (w : World) (hr : ScanAt w g s i) (hi : i ≤ s.size) (hs : s.size ≤ 281474976710656) :
    Calls Tryz.prog 35 #[.pointer (some ⟨g, 0, none⟩), .func (.func 36) #[] #[]] w fun e w' => e = .returned (strV ((s.data.toList.drop i).take (noteOf (s.data.toList.drop i)))) ∧ ScanAt w' g s (i + noteOf (s.data.toList.drop i)) ∧ Only w w' (fun k => k = g) := by
  have hc1 := cell_of_row w g 1 _ _ _ hr
  have HR := Lib.hid hr
  have HI := Lib.hid hi
  clear hr
  go_enter Tryz.func35, Tryz.ntmps35
  go_wp2_with fail
  go_loopw [] (fun wr => ∃ k : Nat, i ≤ k ∧ k ≤ s.size ∧ Hid (ScanAt wr g s k) ∧ Hid (Only w wr (fun k => k = g)) ∧ Hid (∀ j (h : j < s.size), i ≤ j → j < k → noteN (s[j]'h).toNat = true)) (fun wr => s.size - (intOf ((wr.cell? ⟨g, 1, none⟩).getD undef)).toNat)
  case atStart => exact ⟨i, Nat.le_refl _, hi, HR, Lib.hid (Only.refl _ _), Lib.hid fun j _ h1 h2 => absurd h1 (by omega)⟩
  case round =>
    obtain ⟨k, hik, hk, hsc, hon, hall⟩ := hrel
    clear hc1 HR
    have c0 := cell_of_row wr g 0 _ _ _ hsc.out
    have c1 := cell_of_row wr g 1 _ _ _ hsc.out
    have f1 := frozen_of_row wr g 1 _ _ hsc.out
    by_cases hlt : k < s.size
    · have d1 : decide ((k : Int) < s.size) = true := decide_eq_true (by omega)
      have d1n : decide (k < s.size) = true := decide_eq_true hlt
      cases hp : noteN (s[k]'hlt).toNat with
      | true =>
        have HN : Hid (∀ j (h : j < s.size), i ≤ j → j < k + 1 → noteN (s[j]'h).toNat = true) := Lib.hid fun j h h1 h2 => by
          rcases Nat.lt_or_ge j k with h' | h'
          · exact hall.out j h h1 h'
          · have : j = k := by omega
            subst this
            exact hp
        have HP : Hid (∀ w', Calls Tryz.prog 36 #[.int .u8 (s[k]'hlt).toNat] w' fun e w'' => e = .returned (.bool true) ∧ w'' = w') := Lib.hid fun w' => by rw [← hp]; exact note_any _ w'
        clear hp hall
        go_upto_region 2 with fail
        go_quiet ((go_at_call 36; exact Calls.quiet_of_same (HP.out _)))
        clear HP
        go_wp2_with fail
        go_roundw
        case rel => exact ⟨k + 1, by omega, by omega, Lib.hid (by have := scan_set (scan_drewN hsc.out nq) (k + 1); exact this), Lib.hid ((hon.out.drewN nq).trans (Only.setCell _ _ _) fun _ _ h => h), HN⟩
        case measure =>
          have e1 := cell_of_row _ g 1 _ _ _ (scan_set (scan_drewN hsc.out nq) (k + 1))
          have e2 := cell_of_row _ g 1 _ _ _ hsc.out
          show s.size - (intOf ((((wr.drewN nq).setCell ⟨g, 1, none⟩ (.int .i64 ((k + 1 : Nat) : Int))).cell? ⟨g, 1, none⟩).getD undef)).toNat < s.size - (intOf ((wr.cell? ⟨g, 1, none⟩).getD undef)).toNat
          rw [e1, e2]
          simp [intOf]
          omega
      | false =>
        have HP : Hid (∀ w', Calls Tryz.prog 36 #[.int .u8 (s[k]'hlt).toNat] w' fun e w'' => e = .returned (.bool false) ∧ w'' = w') := Lib.hid fun w' => by rw [← hp]; exact note_any _ w'
        have HL : Hid (noteOf (s.data.toList.drop i) = k - i) := Lib.hid (run_until noteN s i k hik hk (fun j h h1 h2 => hall.out j h h1 h2) (fun _ => hp))
        clear hp hall
        go_upto_region 2 with fail
        go_quiet ((go_at_call 36; exact Calls.quiet_of_same (HP.out _)))
        clear HP
        go_wp2_with fail
        have HSC : Hid (ScanAt (wr.drewN nq) g s k) := Lib.hid (scan_drewN hsc.out nq)
        have HON : Hid (Only w (wr.drewN nq) (fun k => k = g)) := Lib.hid (hon.out.drewN nq)
        have c0 := cell_of_row _ g 0 _ _ _ HSC.out
        have c1 := cell_of_row _ g 1 _ _ _ HSC.out
        clear f1 d1 d1n hsc hon
        generalize wr.drewN nq = w2 at *
        go_quiet (fail)
        go_wp2_with fail
        go_ret
        have e1 := mk_eq (show (s.extract i k).data.toList = (s.data.toList.drop i).take (noteOf (s.data.toList.drop i)) by rw [mid_bytes, HL.out])
        refine ⟨by rw [← e1]; rfl, ?_, HON.out.drewN _⟩
        rw [HL.out, show i + (k - i) = k by omega]
        exact scan_drewN HSC.out _
    · have ek : k = s.size := by omega
      subst ek
      have d1 : decide ((s.size : Int) < s.size) = false := decide_eq_false (by omega)
      have HL : Hid (noteOf (s.data.toList.drop i) = s.size - i) := Lib.hid (run_until noteN s i s.size hik (Nat.le_refl _) (fun j h h1 h2 => hall.out j h h1 h2) (fun h => absurd h (Nat.lt_irrefl _)))
      clear hall
      go_upto_region 2 with fail
      go_quiet (fail)
      go_wp2_with fail
      have HSC : Hid (ScanAt (wr.drewN nq) g s s.size) := Lib.hid (scan_drewN hsc.out nq)
      have HON : Hid (Only w (wr.drewN nq) (fun k => k = g)) := Lib.hid (hon.out.drewN nq)
      have c0 := cell_of_row _ g 0 _ _ _ HSC.out
      have c1 := cell_of_row _ g 1 _ _ _ HSC.out
      clear f1 d1 hsc hon
      generalize wr.drewN nq = w2 at *
      go_quiet (fail)
      go_wp2_with fail
      go_ret
      have e1 := mk_eq (show (s.extract i s.size).data.toList = (s.data.toList.drop i).take (noteOf (s.data.toList.drop i)) by rw [mid_bytes, HL.out])
      refine ⟨by rw [← e1]; rfl, ?_, HON.out.drewN _⟩
      rw [HL.out, show i + (s.size - i) = s.size by omega]
      exact scan_drewN HSC.out _

end Go.Proofs.YtljdphpbalioaaaGreatDoor
/- Walk: what stands between tokens is skipped. -/
namespace Go.Proofs.YtljdphpbalioaaaGreatDoor
open Go.RowKit

theorem class_three (n : Nat) : classOf n = 3 ↔ n = 32 ∨ n = 9 ∨ n = 10 := by
  unfold classOf
  have h : (n = 32 ∨ n = 9 ∨ n = 10) → letN n = false ∧ digN n = false := by
    rintro (rfl | rfl | rfl) <;> exact ⟨rfl, rfl⟩
  constructor
  · intro hc
    revert hc
    cases letN n
    · cases digN n
      · simp only [Bool.false_eq_true, if_false]
        split
        · next h => exact fun _ => h
        · intro h; cases h
      · intro h; cases h
    · intro h; cases h
  · intro hc
    obtain ⟨h1, h2⟩ := h hc
    rw [h1, h2, if_neg (by decide), if_neg (by decide), if_pos hc]

/-- the next place at which a token may begin -/
structure Skipped (l : List UInt8) (i j : Nat) : Prop where
  ge : i ≤ j
  le : j ≤ l.length
  came : ∀ out, Came l i out → Came l j out
  stop : ∀ h : j < l.length, classOf (l[j]).toNat ≠ 3 ∧ (l[j]).toNat ≠ 35

def SkipPost (w : World) (g : Nat) (s : ByteArray) (i : Nat) (e : Ending) (w' : World) : Prop := e = .returned (.tuple #[]) ∧ ∃ j, ScanAt w' g s j ∧ Only w w' (fun k => k = g) ∧ Skipped s.data.toList i j

set_option maxRecDepth 100000 in
set_option maxHeartbeats 3200000 in
theorem skip_any (g i : Nat) (s : ByteArray) (w : World) (hr : ScanAt w g s i) (hi : i ≤ s.size) (hs : s.size ≤ 281474976710656) :
    Calls Tryz.prog 23 #[.pointer (some ⟨g, 0, none⟩)] w (SkipPost w g s i) := by
  have HR := Lib.hid hr
  clear hr
  go_enter Tryz.func23, Tryz.ntmps23
  go_wp2_with fail
  go_loopw [] (fun wr => ∃ k : Nat, i ≤ k ∧ k ≤ s.size ∧ Hid (ScanAt wr g s k) ∧ Hid (Only w wr (fun k => k = g)) ∧ Hid (∀ out, Came s.data.toList i out → Came s.data.toList k out)) (fun wr => s.size - (intOf ((wr.cell? ⟨g, 1, none⟩).getD undef)).toNat)
  case atStart => exact ⟨i, Nat.le_refl _, hi, HR, Lib.hid (Only.refl _ _), Lib.hid fun _ h => h⟩
  case round =>
    obtain ⟨k, hik, hk, hsc, hon, hall⟩ := hrel
    clear HR
    have c0 := cell_of_row wr g 0 _ _ _ hsc.out
    have c1 := cell_of_row wr g 1 _ _ _ hsc.out
    by_cases hlt : k < s.size
    rotate_left
    · have ek : k = s.size := by omega
      subst ek
      have d1 : decide ((s.size : Int) < s.size) = false := decide_eq_false (by omega)
      go_upto_region 0 with fail
      go_quiet (fail)
      go_wp2_with fail
      refine bodyPost_end (results_none rfl _ _ _) rfl ?_
      exact ⟨rfl, s.size, scan_drewN hsc.out _, hon.out.drewN _, ⟨hik, by rw [str_len]; omega, hall.out, fun h => absurd h (by rw [str_len]; omega)⟩⟩
    have hll : k < s.data.toList.length := by rw [str_len]; exact hlt
    have d1 : decide ((k : Int) < s.size) = true := decide_eq_true (by omega)
    have d1n : decide (k < s.size) = true := decide_eq_true hlt
    have hgb := str_get s k hlt
    go_upto_region 0 with fail
    go_quiet (fail)
    have HSC : Hid (ScanAt (wr.drewN nq) g s k) := Lib.hid (scan_drewN hsc.out nq)
    have HON : Hid (Only w (wr.drewN nq) (fun k => k = g)) := Lib.hid (hon.out.drewN nq)
    have HM : Hid (s.size - (intOf ((wr.cell? ⟨g, 1, none⟩).getD undef)).toNat = s.size - k) := Lib.hid (by rw [c1]; simp [intOf])
    have c0 := cell_of_row _ g 0 _ _ _ HSC.out
    have c1 := cell_of_row _ g 1 _ _ _ HSC.out
    clear hsc hon
    generalize wr.drewN nq = w2 at *
    clear nq
    go_upto_region 1 with fail
    go_quiet (fail)
    have HSC : Hid (ScanAt (w2.drewN nq) g s k) := Lib.hid (scan_drewN HSC.out nq)
    have HON : Hid (Only w (w2.drewN nq) (fun k => k = g)) := Lib.hid (HON.out.drewN nq)
    have c0 := cell_of_row _ g 0 _ _ _ HSC.out
    have c1 := cell_of_row _ g 1 _ _ _ HSC.out
    have f1 := frozen_of_row _ g 1 _ _ HSC.out
    generalize w2.drewN nq = w3 at *
    clear nq d1 d1n
    obtain ⟨b, hb⟩ : ∃ b, b = (s[k]'hlt).toNat := ⟨_, rfl⟩
    have hbl : (s.data.toList[k]'hll).toNat = b := by rw [hgb, ← hb]
    rw [← hb]
    have HBL := Lib.hid hbl
    clear hgb hb hbl
    rcases (by omega : b = 32 ∨ b = 9 ∨ b = 10 ∨ b = 35 ∨ (b ≠ 32 ∧ b ≠ 9 ∧ b ≠ 10 ∧ b ≠ 35)) with hb1 | hb1 | hb1 | hb1 | ⟨h32, h9, h10, h35⟩
    · have HN : Hid (∀ out, Came s.data.toList i out → Came s.data.toList (k + 1) out) := Lib.hid fun out h => came_blank (hall.out out h) hll (by rw [HBL.out]; exact (class_three _).2 (by omega))
      have e32 : ((b : Int) == 32) = true := by rw [hb1]; rfl
      have g32 : decide ((b : Int) = 32) = true := e32
      clear hall hb1 HBL
      go_wp2_with fail
      go_roundw
      case rel => exact ⟨k + 1, by omega, by omega, Lib.hid (by have := scan_set HSC.out (k + 1); exact this), Lib.hid (HON.out.trans (Only.setCell _ _ _) fun _ _ h => h), HN⟩
      case measure =>
        have e1 := cell_of_row _ g 1 _ _ _ (scan_set HSC.out (k + 1))
        show s.size - (intOf (((w3.setCell ⟨g, 1, none⟩ (.int .i64 ((k + 1 : Nat) : Int))).cell? ⟨g, 1, none⟩).getD undef)).toNat < s.size - (intOf ((wr.cell? ⟨g, 1, none⟩).getD undef)).toNat
        rw [e1, HM.out]
        simp [intOf]
        omega
    · have HN : Hid (∀ out, Came s.data.toList i out → Came s.data.toList (k + 1) out) := Lib.hid fun out h => came_blank (hall.out out h) hll (by rw [HBL.out]; exact (class_three _).2 (by omega))
      have e32 : ((b : Int) == 32) = false := beq_false_of_ne (by omega)
      have g32 : decide ((b : Int) = 32) = false := e32
      have e9 : ((b : Int) == 9) = true := by rw [hb1]; rfl
      have g9 : decide ((b : Int) = 9) = true := e9
      clear hall hb1 HBL
      go_wp2_with fail
      go_roundw
      case rel => exact ⟨k + 1, by omega, by omega, Lib.hid (by have := scan_set HSC.out (k + 1); exact this), Lib.hid (HON.out.trans (Only.setCell _ _ _) fun _ _ h => h), HN⟩
      case measure =>
        have e1 := cell_of_row _ g 1 _ _ _ (scan_set HSC.out (k + 1))
        show s.size - (intOf (((w3.setCell ⟨g, 1, none⟩ (.int .i64 ((k + 1 : Nat) : Int))).cell? ⟨g, 1, none⟩).getD undef)).toNat < s.size - (intOf ((wr.cell? ⟨g, 1, none⟩).getD undef)).toNat
        rw [e1, HM.out]
        simp [intOf]
        omega
    · have HN : Hid (∀ out, Came s.data.toList i out → Came s.data.toList (k + 1) out) := Lib.hid fun out h => came_blank (hall.out out h) hll (by rw [HBL.out]; exact (class_three _).2 (by omega))
      have e32 : ((b : Int) == 32) = false := beq_false_of_ne (by omega)
      have g32 : decide ((b : Int) = 32) = false := e32
      have e9 : ((b : Int) == 9) = false := beq_false_of_ne (by omega)
      have g9 : decide ((b : Int) = 9) = false := e9
      have e10 : ((b : Int) == 10) = true := by rw [hb1]; rfl
      have g10 : decide ((b : Int) = 10) = true := e10
      clear hall hb1 HBL
      go_wp2_with fail
      go_roundw
      case rel => exact ⟨k + 1, by omega, by omega, Lib.hid (by have := scan_set HSC.out (k + 1); exact this), Lib.hid (HON.out.trans (Only.setCell _ _ _) fun _ _ h => h), HN⟩
      case measure =>
        have e1 := cell_of_row _ g 1 _ _ _ (scan_set HSC.out (k + 1))
        show s.size - (intOf (((w3.setCell ⟨g, 1, none⟩ (.int .i64 ((k + 1 : Nat) : Int))).cell? ⟨g, 1, none⟩).getD undef)).toNat < s.size - (intOf ((wr.cell? ⟨g, 1, none⟩).getD undef)).toNat
        rw [e1, HM.out]
        simp [intOf]
        omega
    · have HN : Hid (∀ out, Came s.data.toList i out → Came s.data.toList (k + noteOf (s.data.toList.drop k)) out) := Lib.hid fun out h => came_note (hall.out out h) hll (by rw [HBL.out]; exact hb1)
      have HP : Hid (0 < noteOf (s.data.toList.drop k)) := Lib.hid (by rw [drop_cons _ k hll]; exact note_pos (by rw [HBL.out]; exact hb1))
      have HQ : Hid (k + noteOf (s.data.toList.drop k) ≤ s.size) := Lib.hid (by
        have h1 : (s.data.toList.drop k).length = s.size - k := by rw [List.length_drop, str_len]
        have h2 : noteOf (s.data.toList.drop k) ≤ (s.data.toList.drop k).length := by
          unfold noteOf
          exact (List.takeWhile_sublist _).length_le
        omega)
      have e32 : ((b : Int) == 32) = false := beq_false_of_ne (by omega)
      have g32 : decide ((b : Int) = 32) = false := e32
      have e9 : ((b : Int) == 9) = false := beq_false_of_ne (by omega)
      have g9 : decide ((b : Int) = 9) = false := e9
      have e10 : ((b : Int) == 10) = false := beq_false_of_ne (by omega)
      have g10 : decide ((b : Int) = 10) = false := e10
      have e35 : ((b : Int) == 35) = true := by rw [hb1]; rfl
      have g35 : decide ((b : Int) = 35) = true := e35
      clear hall hb1 HBL
      go_wp2_with fail
      refine (run_note g k s w3 HSC.out hk hs).mono ?_
      rintro e w4 ⟨rfl, hs4, ho4⟩
      have HS4 := Lib.hid hs4
      have HO4 := Lib.hid ho4
      clear hs4 ho4
      go_wp2_with fail
      go_roundw
      case rel => exact ⟨k + noteOf (s.data.toList.drop k), by omega, HQ.out, HS4, Lib.hid (HON.out.trans HO4.out fun _ _ h => h), HN⟩
      case measure =>
        have e1 := cell_of_row _ g 1 _ _ _ HS4.out
        rw [HM.out]
        rw [e1]
        have h1 := HP.out
        have h2 := HQ.out
        simp [intOf]
        omega
    · have HST : Hid (∀ h : k < s.data.toList.length, classOf (s.data.toList[k]).toNat ≠ 3 ∧ (s.data.toList[k]).toNat ≠ 35) := Lib.hid fun _ => by
        rw [HBL.out]
        exact ⟨fun h => by rcases (class_three _).1 h with h | h | h <;> omega, h35⟩
      have e32 : ((b : Int) == 32) = false := beq_false_of_ne (by omega)
      have g32 : decide ((b : Int) = 32) = false := e32
      have e9 : ((b : Int) == 9) = false := beq_false_of_ne (by omega)
      have g9 : decide ((b : Int) = 9) = false := e9
      have e10 : ((b : Int) == 10) = false := beq_false_of_ne (by omega)
      have g10 : decide ((b : Int) = 10) = false := e10
      have e35 : ((b : Int) == 35) = false := beq_false_of_ne (by omega)
      have g35 : decide ((b : Int) = 35) = false := e35
      clear h32 h9 h10 h35 HBL
      go_wp2_with fail
      refine bodyPost_end (results_none rfl _ _ _) rfl ?_
      exact ⟨rfl, k, HSC.out, HON.out, ⟨hik, Nat.le_of_lt hll, hall.out, HST.out⟩⟩
end Go.Proofs.YtljdphpbalioaaaGreatDoor
/- Walk: the next token. -/
namespace Go.Proofs.YtljdphpbalioaaaGreatDoor
open Go.RowKit

/-- what the tables hold, and goes on holding while only what is new turns -/
def Tb (B : Nat) (w : World) : Prop := ∀ w', Below B w w' → Sp w' ∧ P10 w' ∧ Errs w'
theorem Tb.below {B : Nat} {w w' : World} (h : Tb B w) (hb : Below B w w') : Tb B w' := fun _ k => h _ (hb.trans k)
theorem Tb.here {B : Nat} {w : World} (h : Tb B w) : Sp w ∧ P10 w ∧ Errs w := h w (Below.refl _ _)
theorem Tb.mk' {w : World} (h1 : Sp w) (h2 : P10 w) (h3 : Errs w) : Tb w.heap.size w := fun _ hb => ⟨h1.below hb, h2.below hb, h3.below hb⟩

theorem mk8_list (l : List UInt8) : (mk8 l).toList = l := by rw [ByteArray.toList_eq]; rfl

theorem words_mem (T : List UInt8) : tokWords.contains T = isWordB (mk8 T) := by
  rw [Bool.eq_iff_iff, isword_iff, List.contains_iff_mem]
  constructor
  · intro h
    obtain ⟨j, hj⟩ := List.getElem?_of_mem h
    have hlt := (List.getElem?_eq_some_iff.1 hj).1
    exact ⟨j, hlt, by rw [List.getD_eq_getElem?_getD, hj]; rfl⟩
  · rintro ⟨j, hj, he⟩
    have e : tokWords.getD j [] = T := by
      have := congrArg (fun s : ByteArray => s.data.toList) he
      exact this
    rw [← e, List.getD_eq_getElem?_getD, List.getElem?_eq_getElem hj]
    exact List.getElem_mem _

theorem signs_mem (T : List UInt8) : Lib.containsS (signRows.map mk8) (mk8 T) = signRows.contains T := by
  rw [Bool.eq_iff_iff, List.contains_iff_mem]
  unfold Lib.containsS
  rw [decide_eq_true_iff, Lib.idxOfS_nonneg_iff]
  constructor
  · intro hm
    obtain ⟨l, hl', he⟩ := List.mem_map.1 hm
    have e : l = T := congrArg (fun s : ByteArray => s.data.toList) he
    rw [← e]
    exact hl'
  · intro h
    exact List.mem_map_of_mem h

set_option maxRecDepth 100000 in
theorem signs_any (w : World) (hsp : Sp w) : Calls Tryz.prog 43 #[] w fun e w' => e = .returned (.slice (some ⟨w.heap.size, 0, none⟩) 22 22) ∧ w' = w.alloc (.cells (signRows.map strV).toArray 9) := by
  go_enter Tryz.func43, Tryz.ntmps43
  go_wp2_with fail
  refine (fields_is _ signRows 22 w hsp (by kernel_rfl) rfl (of_decide_eq_true (by kernel_rfl)) (by kernel_rfl)).mono ?_
  rintro e w1 ⟨rfl, rfl⟩
  go_wp2_with fail
  go_ret
  exact ⟨rfl, rfl⟩

def tokV (k : Nat) (T : List UInt8) (i : Nat) : Value := .agg #[.int .u8 k, strV T, .int .i64 i]

/-- what next tells -/
structure NextSays (w : World) (g : Nat) (s : ByteArray) (i : Nat) (kn : Nat × Nat) (e : Ending) (w' : World) : Prop where
  no : kn.1 = 0 → ∃ k T p, e = .returned (.tuple #[tokV k T p, .bool false])
  yes : kn.1 ≠ 0 → e = .returned (.tuple #[tokV kn.1 ((s.data.toList.drop i).take kn.2) i, .bool true]) ∧ ScanAt w' g s (i + kn.2)
  only : Only w w' (fun k => k = g)

theorem run_parts (l : List UInt8) : ∀ b ∈ l.take (runOf l), partN b.toNat = true := by
  induction l with
  | nil => intro b hb; simp at hb
  | cons c r ih =>
    intro b hb
    unfold runOf at hb
    rw [List.takeWhile_cons] at hb
    split at hb
    · next hc =>
      rw [List.length_cons, List.take_succ_cons] at hb
      rcases List.mem_cons.1 hb with rfl | hb
      · exact hc
      · exact ih b hb
    · simp at hb

theorem run_le (l : List UInt8) : runOf l ≤ l.length := (List.takeWhile_sublist _).length_le

theorem tok_stored {w w3 : World} {g n2 j k i : Nat} {s : ByteArray} {T : List UInt8} {a b c : Value} (hr : w3.heap[n2]? = some (.cells #[a, b, c] 71 (0, 0))) (hs : ScanAt w3 g s j) (ho : Only w w3 (fun k => k = g)) (hn : w.heap.size ≤ n2) (hne : n2 ≠ g) :
    ((((w3.setCell ⟨n2, 0, none⟩ (.int .u8 k)).setCell ⟨n2, 1, none⟩ (.string (mk8 T))).setCell ⟨n2, 2, none⟩ (.int .i64 i)).heap[n2]? = some (.cells #[.int .u8 k, .string (mk8 T), .int .i64 i] 71 (0, 0))) ∧
    ScanAt (((w3.setCell ⟨n2, 0, none⟩ (.int .u8 k)).setCell ⟨n2, 1, none⟩ (.string (mk8 T))).setCell ⟨n2, 2, none⟩ (.int .i64 i)) g s j ∧
    Only w (((w3.setCell ⟨n2, 0, none⟩ (.int .u8 k)).setCell ⟨n2, 1, none⟩ (.string (mk8 T))).setCell ⟨n2, 2, none⟩ (.int .i64 i)) (fun k => k = g) := by
  have h1 : (w3.setCell ⟨n2, 0, none⟩ (.int .u8 k)).heap[n2]? = some (.cells #[.int .u8 k, b, c] 71 (0, 0)) := heap_setCell_same w3 n2 0 _ _ (.int .u8 k) hr
  generalize hw1 : w3.setCell ⟨n2, 0, none⟩ (.int .u8 k) = w1 at *
  have h2 : (w1.setCell ⟨n2, 1, none⟩ (.string (mk8 T))).heap[n2]? = some (.cells #[.int .u8 k, .string (mk8 T), c] 71 (0, 0)) := heap_setCell_same w1 n2 1 _ _ (.string (mk8 T)) h1
  generalize hw2 : w1.setCell ⟨n2, 1, none⟩ (.string (mk8 T)) = w2 at *
  have h3 : (w2.setCell ⟨n2, 2, none⟩ (.int .i64 i)).heap[n2]? = some (.cells #[.int .u8 k, .string (mk8 T), .int .i64 i] 71 (0, 0)) := heap_setCell_same w2 n2 2 _ _ (.int .i64 i) h2
  have o1 : Only w3 w1 (fun k => k = n2) := by rw [← hw1]; exact Only.setCell w3 ⟨n2, 0, none⟩ _
  have o2 : Only w1 w2 (fun k => k = n2) := by rw [← hw2]; exact Only.setCell w1 ⟨n2, 1, none⟩ _
  have ho3 : Only w3 (w2.setCell ⟨n2, 2, none⟩ (.int .i64 i)) (fun k => k = n2) := (o1.trans o2 fun _ _ h => h).trans (Only.setCell w2 ⟨n2, 2, none⟩ _) fun _ _ h => h
  refine ⟨h3, (ho3.block g (Array.getElem?_eq_some_iff.1 hs).1 (fun h => hne h.symm)).trans hs, ho.trans ho3 fun q hq h => ?_⟩
  omega

set_option maxRecDepth 100000 in
set_option maxHeartbeats 3200000 in
theorem next_part (B g i : Nat) (s : ByteArray) (w : World) (hr : ScanAt w g s i) (hi : i < s.size) (hs : s.size ≤ 281474976710656) (ht : Tb B w) (hB : B ≤ w.heap.size) (hg : B ≤ g)
    (hp : partN (s[i]'hi).toNat = true) : Calls Tryz.prog 24 #[.pointer (some ⟨g, 0, none⟩)] w (NextSays w g s i (tokAt (s.data.toList.drop i))) := by
  have hll : i < s.data.toList.length := by rw [str_len]; exact hi
  have hd := drop_cons s.data.toList i hll
  rw [str_get s i hi] at hd
  obtain ⟨T, hT⟩ : ∃ T, T = (s.data.toList.drop i).take (runOf (s.data.toList.drop i)) := ⟨_, rfl⟩
  obtain ⟨n, hn⟩ : ∃ n, n = runOf (s.data.toList.drop i) := ⟨_, rfl⟩
  have hta : tokAt (s.data.toList.drop i) = (kindOf T, n) := by
    unfold tokAt
    rw [if_pos (by rw [hd]; exact hp), ← hT, ← hn]
  have hpt : ∀ b ∈ T, partN b.toNat = true := by rw [hT]; exact run_parts _
  have hne : T ≠ [] := by
    rw [hT]
    intro h
    have h1 := congrArg List.length h
    rw [List.length_take, Nat.min_eq_left (run_le _)] at h1
    have h2 : 0 < runOf (s.data.toList.drop i) := by rw [hd]; exact run_pos hp
    simp at h1
    omega
  have hTl : T.length ≤ s.size := by
    rw [hT, List.length_take, List.length_drop, str_len]; omega
  have hTn : (s.data.toList.drop i).take n = T := by rw [hT, hn]
  rw [hta]
  have HRUN : Hid (∀ w', ScanAt w' g s i → Calls Tryz.prog 35 #[.pointer (some ⟨g, 0, none⟩), .func (.func 37) #[] #[]] w' fun e w'' => e = .returned (strV T) ∧ ScanAt w'' g s (i + n) ∧ Only w' w'' (fun k => k = g)) := Lib.hid fun w' h => by
    have := run_part g i s w' h (Nat.le_of_lt hi) hs
    rw [← hT, ← hn] at this
    exact this
  have HPT := Lib.hid hpt
  have HNE := Lib.hid hne
  have HTL := Lib.hid hTl
  have HTN := Lib.hid hTn
  have HSC := Lib.hid hr
  have HT := Lib.hid ht
  have HGL : Hid (g < w.heap.size) := Lib.hid (Array.getElem?_eq_some_iff.1 hr).1
  clear hd hT hn hta hpt hne hTl hTn hr ht hll
  go_enter Tryz.func24, Tryz.ntmps24
  go_upto_region 1 with fail
  have hb0 := bal (bre w) (.cells #[.int .u8 0, .string ⟨#[]⟩, .int .i64 0] 71)
  have hr0 := heap_alloc_new w (.cells #[.int .u8 0, .string ⟨#[]⟩, .int .i64 0] 71)
  generalize w.alloc (.cells #[.int .u8 0, .string ⟨#[]⟩, .int .i64 0] 71) = W0 at *
  obtain ⟨n2, hn2⟩ : ∃ n, n = w.heap.size := ⟨_, rfl⟩
  rw [← hn2] at hr0 ⊢
  have hne2 : n2 ≠ g := by have := HGL.out; omega
  have HNE2 := Lib.hid hne2
  have HS0 : Hid (ScanAt W0 g s i) := Lib.hid (scan_keep HSC.out hb0)
  have HB0 := Lib.hid hb0
  have HN2 : Hid (w.heap.size ≤ n2) := Lib.hid (by omega)
  have HR0 := Lib.hid hr0
  have c0 := cell_of_row W0 g 0 _ _ _ HS0.out
  have c1 := cell_of_row W0 g 1 _ _ _ HS0.out
  have HPA : Hid (∀ w', Calls Tryz.prog 37 #[.int .u8 (s[i]'hi).toNat] w' fun e w'' => e = .returned (.bool true) ∧ w'' = w') := Lib.hid fun w' => by rw [← hp]; exact part_any _ w'
  clear hb0 hr0 hn2 hne2 HSC hp
  go_wp2_with fail
  refine (HPA.out _).mono ?_
  rintro e w1 ⟨rfl, hw⟩
  have hw' := hw.symm
  subst hw'
  clear hw HPA
  go_wp2_with fail
  refine (HRUN.out _ HS0.out).mono ?_
  rintro e w2 ⟨rfl, hs2, ho2⟩
  have HS2 := Lib.hid hs2
  have HO2 : Hid (Only w w2 (fun k => k = g)) := Lib.hid ((Only.of_below HB0.out _).trans ho2 fun _ _ h => h)
  have HR2 : Hid (w2.heap[n2]? = some (.cells #[.int .u8 0, .string ⟨#[]⟩, .int .i64 0] 71 (0, 0))) := Lib.hid ((ho2.block n2 (Array.getElem?_eq_some_iff.1 HR0.out).1 HNE2.out).trans HR0.out)
  clear hs2 ho2 c0 c1 HRUN HS0 HR0
  rw [strV_mk]
  have HT2 : Hid (Tb B w2) := Lib.hid (HT.out.below (HO2.out.below B hB fun k hk h => by omega))
  go_wp2_with fail
  refine (isword_any (mk8 T) w2 HT2.out.here.1).mono ?_
  rintro e w3 ⟨rfl, hb3⟩
  have HO3 : Hid (Only w w3 (fun k => k = g)) := Lib.hid (HO2.out.trans (Only.of_below hb3 _) fun _ _ h => h)
  have HS3 : Hid (ScanAt w3 g s (i + n)) := Lib.hid (scan_keep HS2.out hb3)
  have HR3 : Hid (w3.heap[n2]? = some (.cells #[.int .u8 0, .string ⟨#[]⟩, .int .i64 0] 71 (0, 0))) := Lib.hid ((hb3.block n2 (Array.getElem?_eq_some_iff.1 HR2.out).1).trans HR2.out)
  clear hb3 HO2 HR2 HS2 HT2
  cases hw : isWordB (mk8 T) with
  | true =>
    have hk : kindOf T = 3 := by unfold kindOf; rw [if_pos (by rw [words_mem]; exact hw)]
    have HK := Lib.hid hk
    clear hw hk
    have c0 := cell_of_row w3 n2 0 _ _ _ HR3.out
    have c1 := cell_of_row w3 n2 1 _ _ _ HR3.out
    have c2 := cell_of_row w3 n2 2 _ _ _ HR3.out
    have f0 := frozen_of_row w3 n2 0 _ _ HR3.out
    have f1 := frozen_of_row w3 n2 1 _ _ HR3.out
    have f2 := frozen_of_row w3 n2 2 _ _ HR3.out
    go_wp2_with fail
    obtain ⟨hrow, hsc, hon⟩ := tok_stored (k := 3) (T := T) (i := i) HR3.out HS3.out HO3.out HN2.out HNE2.out
    have d0 := cell_of_row _ n2 0 _ _ _ hrow
    have d1 := cell_of_row _ n2 1 _ _ _ hrow
    have d2 := cell_of_row _ n2 2 _ _ _ hrow
    have HSC := Lib.hid hsc
    have HON := Lib.hid hon
    clear hrow hsc hon
    generalize ((w3.setCell ⟨n2, 0, none⟩ (.int .u8 3)).setCell ⟨n2, 1, none⟩ (.string (mk8 T))).setCell ⟨n2, 2, none⟩ (.int .i64 i) = W9 at *
    refine bodyPost_ret (v := .tuple #[tokV 3 T i, .bool true]) (by simp [results, Tryz.results24, go_sem, d0, d1, d2, tokV, strV_mk]) rfl ?_
    exact ⟨fun h => absurd h (by rw [HK.out]; exact Nat.succ_ne_zero _), fun _ => ⟨by rw [HK.out, HTN.out], HSC.out⟩, HON.out⟩
  | false =>
    have HW : Hid (tokWords.contains T = false) := Lib.hid (by rw [words_mem]; exact hw)
    clear hw
    go_wp2_with fail
    refine (shaped_any (mk8 T) w3 (by rw [← str_len]; show T.length ≤ _; have := HTL.out; omega)).mono ?_
    rintro e w4 ⟨rfl, hw⟩
    have hw' := hw.symm
    subst hw'
    clear hw
    have hmk : shapedB (mk8 T).data.toList = shapedB T := rfl
    rw [hmk]
    clear hmk
    cases hsh : shapedB T with
    | true =>
      have HK : Hid (kindOf T = 1) := Lib.hid (by unfold kindOf; rw [HW.out, if_neg (by decide), if_pos hsh])
      clear hsh
      have c0 := cell_of_row w3 n2 0 _ _ _ HR3.out
      have f0 := frozen_of_row w3 n2 0 _ _ HR3.out
      have c1 := cell_of_row w3 n2 1 _ _ _ HR3.out
      have f1 := frozen_of_row w3 n2 1 _ _ HR3.out
      have c2 := cell_of_row w3 n2 2 _ _ _ HR3.out
      have f2 := frozen_of_row w3 n2 2 _ _ HR3.out
      go_wp2_with fail
      obtain ⟨hrow, hsc, hon⟩ := tok_stored (k := 1) (T := T) (i := i) HR3.out HS3.out HO3.out HN2.out HNE2.out
      have d0 := cell_of_row _ n2 0 _ _ _ hrow
      have d1 := cell_of_row _ n2 1 _ _ _ hrow
      have d2 := cell_of_row _ n2 2 _ _ _ hrow
      have HSC := Lib.hid hsc
      have HON := Lib.hid hon
      clear hrow hsc hon
      generalize ((w3.setCell ⟨n2, 0, none⟩ (.int .u8 1)).setCell ⟨n2, 1, none⟩ (.string (mk8 T))).setCell ⟨n2, 2, none⟩ (.int .i64 i) = W9 at *
      refine bodyPost_ret (v := .tuple #[tokV 1 T i, .bool true]) (by simp [results, Tryz.results24, go_sem, d0, d1, d2, tokV, strV_mk]) rfl ?_
      exact ⟨fun h => absurd h (by rw [HK.out]; exact Nat.succ_ne_zero _), fun _ => ⟨by rw [HK.out, HTN.out], HSC.out⟩, HON.out⟩
    | false =>
      have HKN : Hid (kindOf T = if numB T then 2 else 0) := Lib.hid (by unfold kindOf; rw [HW.out, if_neg (by decide), hsh, if_neg (by decide)])
      have HNP := Lib.hid (num_prog T HNE.out HPT.out)
      have HSZ : Hid ((mk8 T).size ≤ 281474976710656) := Lib.hid (by rw [← str_len]; show T.length ≤ _; have := HTL.out; omega)
      have HT4 : Hid (Tb B w3) := Lib.hid (HT.out.below (HO3.out.below B hB fun k hk h => by omega))
      clear hsh
      by_cases hq : ∃ v, Lib.parseIntB 64 T = .ok v
      · obtain ⟨v, hv⟩ := hq
        obtain ⟨-, v2, v3⟩ := (parse_int T HNE.out HPT.out v).1 hv
        go_wp2_with fail
        refine (pint_ok (mk8 T) HSZ.out v hv w3).mono ?_
        rintro e w5 ⟨rfl, hb5⟩
        have HO5 : Hid (Only w w5 (fun k => k = g)) := Lib.hid (HO3.out.trans (Only.of_below hb5 _) fun _ _ h => h)
        have HS5 : Hid (ScanAt w5 g s (i + n)) := Lib.hid (scan_keep HS3.out hb5)
        have HR5 : Hid (w5.heap[n2]? = some (.cells #[.int .u8 0, .string ⟨#[]⟩, .int .i64 0] 71 (0, 0))) := Lib.hid ((hb5.block n2 (Array.getElem?_eq_some_iff.1 HR3.out).1).trans HR3.out)
        have HT5 : Hid (Tb B w5) := Lib.hid (HT.out.below (HO5.out.below B hB fun k hk h => by omega))
        have HV := Lib.hid hv
        have HV2 : Hid (-9223372036854775808 ≤ v ∧ v ≤ 9223372036854775807) := Lib.hid (by omega)
        clear hb5 hv v2 v3 HO3 HS3 HR3 HT4
        go_wp2_with fail
        refine (fint_any v HV2.out.1 HV2.out.2 w5 HT5.out.here.2.1).mono ?_
        rintro e w6 ⟨rfl, hb6⟩
        have HO6 : Hid (Only w w6 (fun k => k = g)) := Lib.hid (HO5.out.trans (Only.of_below hb6 _) fun _ _ h => h)
        have HS6 : Hid (ScanAt w6 g s (i + n)) := Lib.hid (scan_keep HS5.out hb6)
        have HR6 : Hid (w6.heap[n2]? = some (.cells #[.int .u8 0, .string ⟨#[]⟩, .int .i64 0] 71 (0, 0))) := Lib.hid ((hb6.block n2 (Array.getElem?_eq_some_iff.1 HR5.out).1).trans HR5.out)
        clear hb6 HO5 HS5 HR5 HT5
        rw [strV_mk]
        have c0 := cell_of_row w6 n2 0 _ _ _ HR6.out
        have f0 := frozen_of_row w6 n2 0 _ _ HR6.out
        have c1 := cell_of_row w6 n2 1 _ _ _ HR6.out
        have f1 := frozen_of_row w6 n2 1 _ _ HR6.out
        have c2 := cell_of_row w6 n2 2 _ _ _ HR6.out
        have f2 := frozen_of_row w6 n2 2 _ _ HR6.out
        by_cases he : Lib.itoa v = T
        · have HK : Hid (kindOf T = 2) := Lib.hid (by rw [HKN.out, if_pos (HNP.out.2 ⟨v, HV.out, he⟩)])
          have hq : ((mk8 (Lib.itoa v)).toList == (mk8 T).toList) = true := by rw [mk8_list, mk8_list, he]; simp
          have HQ := Lib.hid he
          clear he
          go_wp2_with fail
          obtain ⟨hrow, hsc, hon⟩ := tok_stored (k := 2) (T := T) (i := i) HR6.out HS6.out HO6.out HN2.out HNE2.out
          have d0 := cell_of_row _ n2 0 _ _ _ hrow
          have d1 := cell_of_row _ n2 1 _ _ _ hrow
          have d2 := cell_of_row _ n2 2 _ _ _ hrow
          have HSC := Lib.hid hsc
          have HON := Lib.hid hon
          clear hrow hsc hon
          generalize ((w6.setCell ⟨n2, 0, none⟩ (.int .u8 2)).setCell ⟨n2, 1, none⟩ (.string (mk8 T))).setCell ⟨n2, 2, none⟩ (.int .i64 i) = W9 at *
          refine bodyPost_ret (v := .tuple #[tokV 2 T i, .bool true]) (by simp [results, Tryz.results24, go_sem, d0, d1, d2, tokV, strV_mk]) rfl ?_
          exact ⟨fun h => absurd h (by rw [HK.out]; exact Nat.succ_ne_zero _), fun _ => ⟨by rw [HK.out, HTN.out], HSC.out⟩, HON.out⟩
        · have HK : Hid (kindOf T = 0) := Lib.hid (by
            rw [HKN.out, if_neg]
            intro h
            obtain ⟨v', h1, h2⟩ := HNP.out.1 h
            rw [HV.out] at h1
            cases h1
            exact he h2)
          have hq : ((mk8 (Lib.itoa v)).toList == (mk8 T).toList) = false := by rw [mk8_list, mk8_list]; exact beq_false_of_ne he
          clear he
          go_wp2_with fail
          obtain ⟨hrow, hsc, hon⟩ := tok_stored (k := 2) (T := T) (i := i) HR6.out HS6.out HO6.out HN2.out HNE2.out
          have d0 := cell_of_row _ n2 0 _ _ _ hrow
          have d1 := cell_of_row _ n2 1 _ _ _ hrow
          have d2 := cell_of_row _ n2 2 _ _ _ hrow
          have HSC := Lib.hid hsc
          have HON := Lib.hid hon
          clear hrow hsc hon
          generalize ((w6.setCell ⟨n2, 0, none⟩ (.int .u8 2)).setCell ⟨n2, 1, none⟩ (.string (mk8 T))).setCell ⟨n2, 2, none⟩ (.int .i64 i) = W9 at *
          refine bodyPost_ret (v := .tuple #[tokV 2 T i, .bool false]) (by simp [results, Tryz.results24, go_sem, d0, d1, d2, tokV, strV_mk]) rfl ?_
          exact ⟨fun _ => ⟨_, _, _, rfl⟩, fun h => absurd HK.out h, HON.out⟩
      · have HK : Hid (kindOf T = 0) := Lib.hid (by
          rw [HKN.out, if_neg]
          intro h
          obtain ⟨v', h1, h2⟩ := HNP.out.1 h
          exact hq ⟨v', h1⟩)
        have HNQ : Hid (∀ v, Lib.parseIntB 64 (mk8 T).data.toList ≠ .ok v) := Lib.hid fun v h => hq ⟨v, h⟩
        clear hq
        go_wp2_with fail
        refine (pint_bad (mk8 T) HSZ.out HNQ.out w3 HT4.out.here.2.2).mono ?_
        rintro e w5 ⟨x, t, p, rfl, hb5⟩
        have HO5 : Hid (Only w w5 (fun k => k = g)) := Lib.hid (HO3.out.trans (Only.of_below hb5 _) fun _ _ h => h)
        have HS5 : Hid (ScanAt w5 g s (i + n)) := Lib.hid (scan_keep HS3.out hb5)
        have HR5 : Hid (w5.heap[n2]? = some (.cells #[.int .u8 0, .string ⟨#[]⟩, .int .i64 0] 71 (0, 0))) := Lib.hid ((hb5.block n2 (Array.getElem?_eq_some_iff.1 HR3.out).1).trans HR3.out)
        clear hb5 HO3 HS3 HR3 HT4
        have c0 := cell_of_row w5 n2 0 _ _ _ HR5.out
        have f0 := frozen_of_row w5 n2 0 _ _ HR5.out
        have c1 := cell_of_row w5 n2 1 _ _ _ HR5.out
        have f1 := frozen_of_row w5 n2 1 _ _ HR5.out
        have c2 := cell_of_row w5 n2 2 _ _ _ HR5.out
        have f2 := frozen_of_row w5 n2 2 _ _ HR5.out
        go_wp2_with fail
        obtain ⟨hrow, hsc, hon⟩ := tok_stored (k := 2) (T := T) (i := i) HR5.out HS5.out HO5.out HN2.out HNE2.out
        have d0 := cell_of_row _ n2 0 _ _ _ hrow
        have d1 := cell_of_row _ n2 1 _ _ _ hrow
        have d2 := cell_of_row _ n2 2 _ _ _ hrow
        have HSC := Lib.hid hsc
        have HON := Lib.hid hon
        clear hrow hsc hon
        generalize ((w5.setCell ⟨n2, 0, none⟩ (.int .u8 2)).setCell ⟨n2, 1, none⟩ (.string (mk8 T))).setCell ⟨n2, 2, none⟩ (.int .i64 i) = W9 at *
        refine bodyPost_ret (v := .tuple #[tokV 2 T i, .bool false]) (by simp [results, Tryz.results24, go_sem, d0, d1, d2, tokV, strV_mk]) rfl ?_
        exact ⟨fun _ => ⟨_, _, _, rfl⟩, fun h => absurd HK.out h, HON.out⟩
end Go.Proofs.YtljdphpbalioaaaGreatDoor
/- Walk: the next token where it is a sign, or none. -/
namespace Go.Proofs.YtljdphpbalioaaaGreatDoor
open Go.RowKit

theorem signs_cells {w : World} {n e : Nat} (h : w.heap[n]? = some (.cells (signRows.map strV).toArray e (0, 0))) : ∀ j, j < (signRows.map mk8).length → w.cell? ⟨n, 0 + j, none⟩ = some (.string ((signRows.map mk8).getD j ByteArray.empty)) := fun j hj => by
  rw [List.length_map] at hj
  rw [Nat.zero_add, strs_cell h j hj, strV_mk]
  simp [List.getD_eq_getElem?_getD, List.getElem?_eq_getElem hj]

theorem Below.drewN' {B : Nat} {a b : World} (h : Below B a b) (n : Nat) : Below B a (b.drewN n) := ⟨h.os, h.tape, h.output, h.size, h.block⟩

/-- is a text a sign? -/
theorem sign_in (T : List UInt8) (w : World) (hsp : Sp w) : Calls Tryz.prog 43 #[] w fun e w' => e = .returned (.slice (some ⟨w.heap.size, 0, none⟩) 22 22) ∧ Below w.heap.size w w' ∧ (∀ w2, w2 = w' → Calls Tryz.prog 42 #[.slice (some ⟨w.heap.size, 0, none⟩) 22 22, .string (mk8 T)] w2 fun e w3 => e = .returned (.bool (signRows.contains T)) ∧ w3 = w2) := by
  refine (signs_any w hsp).mono ?_
  rintro e w1 ⟨rfl, rfl⟩
  refine ⟨rfl, bal (bre w) _, fun w2 h => ?_⟩
  subst h
  rw [← signs_mem]
  exact contains_any w.heap.size 22 (signRows.map mk8) (mk8 T) _ rfl (by decide) (signs_cells (heap_alloc_new w _))

theorem sign_cut (s : ByteArray) (i m K : Nat) (hi : i < s.size) (hK : K = if i + m ≤ s.size then i + m else s.size) : s.extract i K = mk8 ((s.data.toList.drop i).take m) := by
  have h1 := mid_bytes s i K
  have h2 : (s.data.toList.drop i).take (K - i) = (s.data.toList.drop i).take m := by
    subst hK
    split
    · rw [Nat.add_sub_cancel_left]
    · rw [List.take_of_length_le (by rw [List.length_drop, str_len]; exact Nat.le_refl _), List.take_of_length_le (by rw [List.length_drop, str_len]; omega)]
  rw [h2] at h1
  have h3 := mk_eq h1
  rw [strV_mk] at h3
  exact Value.string.inj h3

set_option maxRecDepth 100000 in
set_option maxHeartbeats 3200000 in
theorem next_sign (B g i : Nat) (s : ByteArray) (w : World) (hr : ScanAt w g s i) (hi : i < s.size) (hs : s.size ≤ 281474976710656) (ht : Tb B w) (hB : B ≤ w.heap.size) (hg : B ≤ g)
    (hp : partN (s[i]'hi).toNat = false) : Calls Tryz.prog 24 #[.pointer (some ⟨g, 0, none⟩)] w (NextSays w g s i (tokAt (s.data.toList.drop i))) := by
  have hll : i < s.data.toList.length := by rw [str_len]; exact hi
  have hd := drop_cons s.data.toList i hll
  rw [str_get s i hi] at hd
  obtain ⟨r, hrr⟩ : ∃ r, r = s.data.toList.drop i := ⟨_, rfl⟩
  have hta : tokAt (s.data.toList.drop i) = if signRows.contains (r.take 2) then (4, (r.take 2).length) else if signRows.contains (r.take 1) then (4, (r.take 1).length) else (0, 0) := by
    unfold tokAt
    rw [if_neg (by rw [hd]; show ¬ partN (s[i]'hi).toNat = true; rw [hp]; decide), ← hrr]
  obtain ⟨kn, hkn⟩ : ∃ kn, kn = tokAt (s.data.toList.drop i) := ⟨_, rfl⟩
  rw [← hkn]
  have HTA : Hid (kn = if signRows.contains (r.take 2) then (4, (r.take 2).length) else if signRows.contains (r.take 1) then (4, (r.take 1).length) else (0, 0)) := Lib.hid (hkn.trans hta)
  have HRR := Lib.hid hrr
  have HSC := Lib.hid hr
  have HT := Lib.hid ht
  have HGL : Hid (g < w.heap.size) := Lib.hid (Array.getElem?_eq_some_iff.1 hr).1
  clear hd hrr hta hkn hr ht hll
  go_enter Tryz.func24, Tryz.ntmps24
  go_upto_region 1 with fail
  have hb0 := bal (bre w) (.cells #[.int .u8 0, .string ⟨#[]⟩, .int .i64 0] 71)
  have hr0 := heap_alloc_new w (.cells #[.int .u8 0, .string ⟨#[]⟩, .int .i64 0] 71)
  generalize w.alloc (.cells #[.int .u8 0, .string ⟨#[]⟩, .int .i64 0] 71) = W0 at *
  obtain ⟨n2, hn2⟩ : ∃ n, n = w.heap.size := ⟨_, rfl⟩
  rw [← hn2] at hr0 ⊢
  have HNE2 : Hid (n2 ≠ g) := Lib.hid (by have := HGL.out; omega)
  have HS0 : Hid (ScanAt W0 g s i) := Lib.hid (scan_keep HSC.out hb0)
  have HO0 : Hid (Only w W0 (fun k => k = g)) := Lib.hid (Only.of_below hb0 _)
  have HN2 : Hid (w.heap.size ≤ n2) := Lib.hid (by omega)
  have HR0 := Lib.hid hr0
  have c0 := cell_of_row W0 g 0 _ _ _ HS0.out
  have c1 := cell_of_row W0 g 1 _ _ _ HS0.out
  have HPA : Hid (∀ w', Calls Tryz.prog 37 #[.int .u8 (s[i]'hi).toNat] w' fun e w'' => e = .returned (.bool false) ∧ w'' = w') := Lib.hid fun w' => by rw [← hp]; exact part_any _ w'
  clear hb0 hr0 hn2 HSC hp
  go_wp2_with fail
  refine (HPA.out _).mono ?_
  rintro e w1 ⟨rfl, hw⟩
  have hw' := hw.symm
  subst hw'
  clear hw HPA
  go_wp2_with fail
  clear c0 c1
  go_loopw [8, 9] (fun s8 _ wr => ∃ m : Nat, m ≤ 2 ∧ s8 = .int .i64 m ∧ Hid (∀ j, m < j → j ≤ 2 → signRows.contains (r.take j) = false) ∧ Hid (ScanAt wr g s i) ∧ Hid (wr.heap[n2]? = some (.cells #[.int .u8 0, .string ⟨#[]⟩, .int .i64 0] 71 (0, 0))) ∧ Hid (Only w wr (fun k => k = g))) (fun s8 _ _ => (intOf s8).toNat)
  case atStart => exact ⟨2, Nat.le_refl _, rfl, Lib.hid fun j h1 h2 => absurd h1 (by omega), HS0, HR0, HO0⟩
  case round =>
    obtain ⟨m, hm, rfl, hnot, hsc, hrow, hon⟩ := hrel
    clear HS0 HR0 HO0
    have HTB : Hid (Tb B wr) := Lib.hid (HT.out.below (hon.out.below B hB fun k hk h => by omega))
    rcases (by omega : m = 0 ∨ m = 1 ∨ m = 2) with rfl | rfl | rfl
    · have HK : Hid (kn = (0, 0)) := Lib.hid (by rw [HTA.out, hnot.out 2 (by omega) (by omega), hnot.out 1 (by omega) (by omega)]; rfl)
      have c0 := cell_of_row wr n2 0 _ _ _ hrow.out
      have f0 := frozen_of_row wr n2 0 _ _ hrow.out
      have c1 := cell_of_row wr n2 1 _ _ _ hrow.out
      have f1 := frozen_of_row wr n2 1 _ _ hrow.out
      have c2 := cell_of_row wr n2 2 _ _ _ hrow.out
      have f2 := frozen_of_row wr n2 2 _ _ hrow.out
      go_wp2_with fail
      obtain ⟨hrw, hsc2, hon2⟩ := tok_stored (k := 0) (T := []) (i := 0) hrow.out hsc.out hon.out HN2.out HNE2.out
      have d0 := cell_of_row _ n2 0 _ _ _ hrw
      have d1 := cell_of_row _ n2 1 _ _ _ hrw
      have d2 := cell_of_row _ n2 2 _ _ _ hrw
      have HON := Lib.hid hon2
      clear hrw hsc2 hon2
      show bodyPost _ _ _ _ _ (((wr.setCell ⟨n2, 0, none⟩ (.int .u8 ((0 : Nat) : Int))).setCell ⟨n2, 1, none⟩ (.string (mk8 []))).setCell ⟨n2, 2, none⟩ (.int .i64 ((0 : Nat) : Int)))
      generalize ((wr.setCell ⟨n2, 0, none⟩ (.int .u8 ((0 : Nat) : Int))).setCell ⟨n2, 1, none⟩ (.string (mk8 []))).setCell ⟨n2, 2, none⟩ (.int .i64 ((0 : Nat) : Int)) = W9 at *
      refine bodyPost_ret (v := .tuple #[tokV 0 [] 0, .bool false]) (by simp [results, Tryz.results24, go_sem, d0, d1, d2, tokV, strV_mk]) rfl ?_
      exact ⟨fun _ => ⟨_, _, _, rfl⟩, fun h => absurd (by rw [HK.out]) h, HON.out⟩
    · have hwr : IntKind.i64.wrap ((i : Int) + 1) = (i : Int) + 1 := by rw [IntKind.wrap_i64]; omega
      obtain ⟨K, hK⟩ : ∃ K, K = if i + 1 ≤ s.size then i + 1 else s.size := ⟨_, rfl⟩
      have hKc := sign_cut s i 1 K hi hK
      rw [← HRR.out] at hKc
      have hiK : i ≤ K := by rw [hK]; split <;> omega
      have hKs : K ≤ s.size := by rw [hK]; split <;> omega
      have hmin : (min ((i : Int) + 1) (s.size : Int)).toNat = K := by rw [hK]; split <;> omega
      have HMIN := Lib.hid hmin
      obtain ⟨T, hT⟩ : ∃ T, T = r.take 1 := ⟨_, rfl⟩
      obtain ⟨n, hn⟩ : ∃ n, n = T.length := ⟨_, rfl⟩
      have hrl : r.length = s.size - i := by rw [HRR.out, List.length_drop, str_len]
      have hTn : r.take n = T := by rw [hn, hT, List.length_take, ← List.take_eq_take_min]
      have hin : i + n ≤ s.size := by rw [hn, hT, List.length_take, hrl]; omega
      have hsz : (mk8 T).size = n := by rw [hn]; exact (str_len (mk8 T)).symm
      have HTN : Hid ((s.data.toList.drop i).take n = T) := Lib.hid (by rw [← HRR.out]; exact hTn)
      have HKT : Hid (signRows.contains T = true → kn = (4, n)) := Lib.hid fun h => by
        rw [HTA.out]
        rw [hnot.out 2 (by omega) (by omega), if_neg (by decide), ← hT, if_pos h, ← hn]
      have HKF : Hid (signRows.contains T = false → ∀ j, 1 - 1 < j → j ≤ 2 → signRows.contains (r.take j) = false) := Lib.hid fun h j h1 h2 => by
        rcases (by omega : j = 1 ∨ 1 < j) with rfl | h3
        · rw [← hT]; exact h
        · exact hnot.out j h3 h2
      rw [← hT] at hKc
      have HKC := Lib.hid hKc
      have HN := Lib.hid hsz
      clear hK hKc hmin hT hn hrl hTn hsz hnot
      have c0 := cell_of_row wr g 0 _ _ _ hsc.out
      have c1 := cell_of_row wr g 1 _ _ _ hsc.out
      go_upto_region 13 with fail
      go_quiet (fail)
      rw [HMIN.out, HKC.out]
      have HS2 : Hid (ScanAt (wr.drewN nq) g s i) := Lib.hid (scan_drewN hsc.out nq)
      have HO2 : Hid (Only w (wr.drewN nq) (fun k => k = g)) := Lib.hid (hon.out.drewN nq)
      have HR2 : Hid ((wr.drewN nq).heap[n2]? = some (.cells #[.int .u8 0, .string ⟨#[]⟩, .int .i64 0] 71 (0, 0))) := Lib.hid hrow.out
      have HT2 : Hid (Tb B (wr.drewN nq)) := Lib.hid (HTB.out.below (Below.drewN' (Below.refl _ _) nq))
      clear c0 c1 hwr hsc hon hrow HTB hiK hKs
      generalize wr.drewN nq = w2 at *
      clear nq HKC HMIN
      go_wp2_with fail
      refine (sign_in T w2 HT2.out.here.1).mono ?_
      rintro e w3 ⟨rfl, hb3, hcon⟩
      have HCON := Lib.hid (hcon _ rfl)
      have HS3 : Hid (ScanAt w3 g s i) := Lib.hid (scan_keep HS2.out hb3)
      have HO3 : Hid (Only w w3 (fun k => k = g)) := Lib.hid (HO2.out.trans (Only.of_below hb3 _) fun _ _ h => h)
      have HR3 : Hid (w3.heap[n2]? = some (.cells #[.int .u8 0, .string ⟨#[]⟩, .int .i64 0] 71 (0, 0))) := Lib.hid ((hb3.block n2 (Array.getElem?_eq_some_iff.1 HR2.out).1).trans HR2.out)
      clear hb3 hcon HS2 HO2 HR2 HT2
      go_wp2_with fail
      refine HCON.out.mono ?_
      rintro e w4 ⟨rfl, hw⟩
      have hw' := hw.symm
      subst hw'
      clear hw HCON
      cases hc : signRows.contains T with
      | false =>
        have HF := Lib.hid (HKF.out hc)
        clear hc HKF HKT
        go_wp2_with fail
        go_roundw
        case rel => exact ⟨1 - 1, by omega, by rfl, HF, HS3, HR3, HO3⟩
        case measure => simp [intOf]
      | true =>
        have HK := Lib.hid (HKT.out hc)
        clear hc HKF HKT
        have hsz := HN.out
        have c1 := cell_of_row w3 g 1 _ _ _ HS3.out
        have f1 := frozen_of_row w3 g 1 _ _ HS3.out
        go_upto_region 16 with fail
        have HS4 : Hid (ScanAt (w3.setCell ⟨g, 1, none⟩ (.int .i64 ((i + n : Nat) : Int))) g s (i + n)) := Lib.hid (scan_set HS3.out (i + n))
        have HR4 : Hid ((w3.setCell ⟨g, 1, none⟩ (.int .i64 ((i + n : Nat) : Int))).heap[n2]? = some (.cells #[.int .u8 0, .string ⟨#[]⟩, .int .i64 0] 71 (0, 0))) := Lib.hid ((Below.heap_setCell _ _ _ _ HNE2.out).trans HR3.out)
        have HO4 : Hid (Only w (w3.setCell ⟨g, 1, none⟩ (.int .i64 ((i + n : Nat) : Int))) (fun k => k = g)) := Lib.hid (HO3.out.trans (Only.setCell _ _ _) fun _ _ h => h)
        have hcast : ((i : Int) + (n : Int)) = ((i + n : Nat) : Int) := by omega
        rw [hcast]
        clear hcast c1 f1 hsz HS3 HO3 HR3
        generalize w3.setCell ⟨g, 1, none⟩ (.int .i64 ((i + n : Nat) : Int)) = w5 at *
        have c0 := cell_of_row w5 n2 0 _ _ _ HR4.out
        have f0 := frozen_of_row w5 n2 0 _ _ HR4.out
        have c1 := cell_of_row w5 n2 1 _ _ _ HR4.out
        have f1 := frozen_of_row w5 n2 1 _ _ HR4.out
        have c2 := cell_of_row w5 n2 2 _ _ _ HR4.out
        have f2 := frozen_of_row w5 n2 2 _ _ HR4.out
        go_wp2_with fail
        obtain ⟨hrw, hsc2, hon2⟩ := tok_stored (k := 4) (T := T) (i := i) HR4.out HS4.out HO4.out HN2.out HNE2.out
        have d0 := cell_of_row _ n2 0 _ _ _ hrw
        have d1 := cell_of_row _ n2 1 _ _ _ hrw
        have d2 := cell_of_row _ n2 2 _ _ _ hrw
        have HSC := Lib.hid hsc2
        have HON := Lib.hid hon2
        clear hrw hsc2 hon2
        generalize ((w5.setCell ⟨n2, 0, none⟩ (.int .u8 4)).setCell ⟨n2, 1, none⟩ (.string (mk8 T))).setCell ⟨n2, 2, none⟩ (.int .i64 i) = W9 at *
        refine bodyPost_ret (v := .tuple #[tokV 4 T i, .bool true]) (by simp [results, Tryz.results24, go_sem, d0, d1, d2, tokV, strV_mk]) rfl ?_
        exact ⟨fun h => absurd h (by rw [HK.out]; exact Nat.succ_ne_zero _), fun _ => ⟨by rw [HK.out, HTN.out], by rw [HK.out]; exact HSC.out⟩, HON.out⟩
    · have hwr : IntKind.i64.wrap ((i : Int) + 2) = (i : Int) + 2 := by rw [IntKind.wrap_i64]; omega
      obtain ⟨K, hK⟩ : ∃ K, K = if i + 2 ≤ s.size then i + 2 else s.size := ⟨_, rfl⟩
      have hKc := sign_cut s i 2 K hi hK
      rw [← HRR.out] at hKc
      have hiK : i ≤ K := by rw [hK]; split <;> omega
      have hKs : K ≤ s.size := by rw [hK]; split <;> omega
      have hmin : (min ((i : Int) + 2) (s.size : Int)).toNat = K := by rw [hK]; split <;> omega
      have HMIN := Lib.hid hmin
      obtain ⟨T, hT⟩ : ∃ T, T = r.take 2 := ⟨_, rfl⟩
      obtain ⟨n, hn⟩ : ∃ n, n = T.length := ⟨_, rfl⟩
      have hrl : r.length = s.size - i := by rw [HRR.out, List.length_drop, str_len]
      have hTn : r.take n = T := by rw [hn, hT, List.length_take, ← List.take_eq_take_min]
      have hin : i + n ≤ s.size := by rw [hn, hT, List.length_take, hrl]; omega
      have hsz : (mk8 T).size = n := by rw [hn]; exact (str_len (mk8 T)).symm
      have HTN : Hid ((s.data.toList.drop i).take n = T) := Lib.hid (by rw [← HRR.out]; exact hTn)
      have HKT : Hid (signRows.contains T = true → kn = (4, n)) := Lib.hid fun h => by
        rw [HTA.out]
        rw [← hT, if_pos h, ← hn]
      have HKF : Hid (signRows.contains T = false → ∀ j, 2 - 1 < j → j ≤ 2 → signRows.contains (r.take j) = false) := Lib.hid fun h j h1 h2 => by
        rcases (by omega : j = 2 ∨ 2 < j) with rfl | h3
        · rw [← hT]; exact h
        · exact hnot.out j h3 h2
      rw [← hT] at hKc
      have HKC := Lib.hid hKc
      have HN := Lib.hid hsz
      clear hK hKc hmin hT hn hrl hTn hsz hnot
      have c0 := cell_of_row wr g 0 _ _ _ hsc.out
      have c1 := cell_of_row wr g 1 _ _ _ hsc.out
      go_upto_region 13 with fail
      go_quiet (fail)
      rw [HMIN.out, HKC.out]
      have HS2 : Hid (ScanAt (wr.drewN nq) g s i) := Lib.hid (scan_drewN hsc.out nq)
      have HO2 : Hid (Only w (wr.drewN nq) (fun k => k = g)) := Lib.hid (hon.out.drewN nq)
      have HR2 : Hid ((wr.drewN nq).heap[n2]? = some (.cells #[.int .u8 0, .string ⟨#[]⟩, .int .i64 0] 71 (0, 0))) := Lib.hid hrow.out
      have HT2 : Hid (Tb B (wr.drewN nq)) := Lib.hid (HTB.out.below (Below.drewN' (Below.refl _ _) nq))
      clear c0 c1 hwr hsc hon hrow HTB hiK hKs
      generalize wr.drewN nq = w2 at *
      clear nq HKC HMIN
      go_wp2_with fail
      refine (sign_in T w2 HT2.out.here.1).mono ?_
      rintro e w3 ⟨rfl, hb3, hcon⟩
      have HCON := Lib.hid (hcon _ rfl)
      have HS3 : Hid (ScanAt w3 g s i) := Lib.hid (scan_keep HS2.out hb3)
      have HO3 : Hid (Only w w3 (fun k => k = g)) := Lib.hid (HO2.out.trans (Only.of_below hb3 _) fun _ _ h => h)
      have HR3 : Hid (w3.heap[n2]? = some (.cells #[.int .u8 0, .string ⟨#[]⟩, .int .i64 0] 71 (0, 0))) := Lib.hid ((hb3.block n2 (Array.getElem?_eq_some_iff.1 HR2.out).1).trans HR2.out)
      clear hb3 hcon HS2 HO2 HR2 HT2
      go_wp2_with fail
      refine HCON.out.mono ?_
      rintro e w4 ⟨rfl, hw⟩
      have hw' := hw.symm
      subst hw'
      clear hw HCON
      cases hc : signRows.contains T with
      | false =>
        have HF := Lib.hid (HKF.out hc)
        clear hc HKF HKT
        go_wp2_with fail
        go_roundw
        case rel => exact ⟨2 - 1, by omega, by rfl, HF, HS3, HR3, HO3⟩
        case measure => simp [intOf]
      | true =>
        have HK := Lib.hid (HKT.out hc)
        clear hc HKF HKT
        have hsz := HN.out
        have c1 := cell_of_row w3 g 1 _ _ _ HS3.out
        have f1 := frozen_of_row w3 g 1 _ _ HS3.out
        go_upto_region 16 with fail
        have HS4 : Hid (ScanAt (w3.setCell ⟨g, 1, none⟩ (.int .i64 ((i + n : Nat) : Int))) g s (i + n)) := Lib.hid (scan_set HS3.out (i + n))
        have HR4 : Hid ((w3.setCell ⟨g, 1, none⟩ (.int .i64 ((i + n : Nat) : Int))).heap[n2]? = some (.cells #[.int .u8 0, .string ⟨#[]⟩, .int .i64 0] 71 (0, 0))) := Lib.hid ((Below.heap_setCell _ _ _ _ HNE2.out).trans HR3.out)
        have HO4 : Hid (Only w (w3.setCell ⟨g, 1, none⟩ (.int .i64 ((i + n : Nat) : Int))) (fun k => k = g)) := Lib.hid (HO3.out.trans (Only.setCell _ _ _) fun _ _ h => h)
        have hcast : ((i : Int) + (n : Int)) = ((i + n : Nat) : Int) := by omega
        rw [hcast]
        clear hcast c1 f1 hsz HS3 HO3 HR3
        generalize w3.setCell ⟨g, 1, none⟩ (.int .i64 ((i + n : Nat) : Int)) = w5 at *
        have c0 := cell_of_row w5 n2 0 _ _ _ HR4.out
        have f0 := frozen_of_row w5 n2 0 _ _ HR4.out
        have c1 := cell_of_row w5 n2 1 _ _ _ HR4.out
        have f1 := frozen_of_row w5 n2 1 _ _ HR4.out
        have c2 := cell_of_row w5 n2 2 _ _ _ HR4.out
        have f2 := frozen_of_row w5 n2 2 _ _ HR4.out
        go_wp2_with fail
        obtain ⟨hrw, hsc2, hon2⟩ := tok_stored (k := 4) (T := T) (i := i) HR4.out HS4.out HO4.out HN2.out HNE2.out
        have d0 := cell_of_row _ n2 0 _ _ _ hrw
        have d1 := cell_of_row _ n2 1 _ _ _ hrw
        have d2 := cell_of_row _ n2 2 _ _ _ hrw
        have HSC := Lib.hid hsc2
        have HON := Lib.hid hon2
        clear hrw hsc2 hon2
        generalize ((w5.setCell ⟨n2, 0, none⟩ (.int .u8 4)).setCell ⟨n2, 1, none⟩ (.string (mk8 T))).setCell ⟨n2, 2, none⟩ (.int .i64 i) = W9 at *
        refine bodyPost_ret (v := .tuple #[tokV 4 T i, .bool true]) (by simp [results, Tryz.results24, go_sem, d0, d1, d2, tokV, strV_mk]) rfl ?_
        exact ⟨fun h => absurd h (by rw [HK.out]; exact Nat.succ_ne_zero _), fun _ => ⟨by rw [HK.out, HTN.out], by rw [HK.out]; exact HSC.out⟩, HON.out⟩
end Go.Proofs.YtljdphpbalioaaaGreatDoor
/- Walk: all tokens of a text. -/
namespace Go.Proofs.YtljdphpbalioaaaGreatDoor
open Go.RowKit

theorem next_any (B g i : Nat) (s : ByteArray) (w : World) (hr : ScanAt w g s i) (hi : i < s.size) (hs : s.size ≤ 281474976710656) (ht : Tb B w) (hB : B ≤ w.heap.size) (hg : B ≤ g) :
    Calls Tryz.prog 24 #[.pointer (some ⟨g, 0, none⟩)] w (NextSays w g s i (tokAt (s.data.toList.drop i))) := by
  cases hp : partN (s[i]'hi).toNat with
  | true => exact next_part B g i s w hr hi hs ht hB hg hp
  | false => exact next_sign B g i s w hr hi hs ht hB hg hp

theorem tok_le (l : List UInt8) : (tokAt l).2 ≤ l.length := by
  unfold tokAt
  split
  · exact run_le l
  · split
    · rw [List.length_take]; exact Nat.min_le_right _ _
    · split
      · rw [List.length_take]; exact Nat.min_le_right _ _
      · exact Nat.zero_le _

def tokCells (t : Tok) : List Value := [.int .u8 t.kind, .string (mk8 t.text), .int .i64 t.pos]
def OwnToks (base : Nat) (w : World) (v : Value) (ts : List Tok) : Prop := w.ownsRow base 71 3 v ts.length (ts.flatMap tokCells)
theorem rowTok : RowTy Tryz.prog 41 71 3 32 := RowTy.mk' (z := .agg #[.int .u8 0, .string ByteArray.empty, .int .i64 0]) Tryz.underlying41 (by kernel_rfl) rfl (by omega)

theorem lies_three (w : World) (x y z : Value) (t : TypeId) : Lies (w.alloc (.cells #[x, y, z] t)) (some ⟨w.heap.size, 0, none⟩) [x, y, z] :=
  .inr ⟨_, _, rfl, fun j u hu => by
    have := World.cell?_alloc_new w #[x, y, z] t j
    rw [Nat.zero_add, this]
    simpa using hu⟩

def AllPost (w : World) (l : List UInt8) (e : Ending) (w' : World) : Prop :=
  (toksOf l = none → e = .returned (.tuple #[.slice none 0 0, .int .i64 20])) ∧ (∀ ts, toksOf l = some ts → ∃ v, e = .returned (.tuple #[v, .int .i64 0]) ∧ OwnToks w.heap.size w' v ts) ∧ Below w.heap.size w w'

theorem flat_snoc (ts : List Tok) (t : Tok) : (ts ++ [t]).flatMap tokCells = ts.flatMap tokCells ++ tokCells t := by simp

set_option maxRecDepth 100000 in
theorem all_long (s : ByteArray) (h : 200000 < s.size) (w : World) : Calls Tryz.prog 12 #[.string s] w fun e w' => e = .returned (.tuple #[.slice none 0 0, .int .i64 4]) ∧ w' = w := by
  have d1 : decide ((200000 : Int) < s.size) = true := decide_eq_true (by omega)
  clear h
  go_enter Tryz.func12, Tryz.ntmps12
  go_wp2_with fail
  go_ret2
  exact ⟨rfl, rfl⟩

set_option maxRecDepth 100000 in
set_option maxHeartbeats 3200000 in
theorem all_any (s : ByteArray) (hs : s.size ≤ 200000) (w : World) (ht : Tb w.heap.size w) : Calls Tryz.prog 12 #[.string s] w (AllPost w s.data.toList) := by
  have d1 : decide ((200000 : Int) < s.size) = false := decide_eq_false (by omega)
  have HT := Lib.hid ht
  clear ht
  go_enter Tryz.func12, Tryz.ntmps12
  go_upto_region 5 with fail
  have hb0 := bal (bre w) (.cells #[.string s, .int .i64 0] 69)
  have hr0 := heap_alloc_new w (.cells #[.string s, .int .i64 0] 69)
  generalize w.alloc (.cells #[.string s, .int .i64 0] 69) = W0 at *
  obtain ⟨g, hg⟩ : ∃ n, n = w.heap.size := ⟨_, rfl⟩
  rw [← hg] at hr0 ⊢
  have HG : Hid (w.heap.size ≤ g) := Lib.hid (by omega)
  have HB0 := Lib.hid hb0
  have hs0 : ScanAt W0 g s 0 := hr0
  have HS0 := Lib.hid hs0
  clear hb0 hr0 hg hs0 d1
  go_wp2_with fail
  refine (skip_any g 0 s W0 HS0.out (by omega) (by omega)).mono ?_
  rintro e w1 ⟨rfl, j, hs1, ho1, hsk⟩
  have HS1 := Lib.hid hs1
  have HB1 : Hid (Below w.heap.size w w1) := Lib.hid (HB0.out.trans (ho1.below _ HB0.out.size fun k hk h => by have := HG.out; omega))
  have HSK := Lib.hid hsk
  clear hs1 ho1 hsk HS0 HB0
  go_wp2_with fail
  go_loopw [4, 6, 7] (fun v _ _ wr => ∃ (i : Nat) (ts : List Tok), Hid (ScanAt wr g s i) ∧ Hid (Below w.heap.size w wr) ∧ Hid (OwnToks w.heap.size wr v ts) ∧ Hid (Came s.data.toList i ts) ∧ i ≤ s.size ∧ ts.length ≤ i ∧ Hid (∀ h : i < s.data.toList.length, classOf (s.data.toList[i]).toNat ≠ 3 ∧ (s.data.toList[i]).toNat ≠ 35)) (fun _ _ _ wr => s.size - (intOf ((wr.cell? ⟨g, 1, none⟩).getD undef)).toNat)
  case atStart => exact ⟨j, [], HS1, HB1, Lib.hid (World.ownsRow_nil _ _ _ _), Lib.hid (HSK.out.came _ (came_start _)), by have := HSK.out.le; rw [str_len] at this; exact this, by simp, Lib.hid HSK.out.stop⟩
  case round =>
    obtain ⟨i, ts, hsc, hbl, hown, hcm, hi, htl, hst⟩ := hrel
    clear HS1 HB1 HSK
    have c1 := cell_of_row wr g 1 _ _ _ hsc.out
    by_cases hlt : i < s.size
    rotate_left
    · have d1 : decide ((i : Int) < s.size) = false := decide_eq_false (by omega)
      have d1n : decide (i < s.size) = false := decide_eq_false hlt
      have HE : Hid (toksOf s.data.toList = some ts) := Lib.hid (came_end hcm.out (by rw [str_len]; omega))
      clear hcm hst hi htl hlt
      go_wp2_with fail
      go_ret2
      exact ⟨(fun h => by rw [HE.out] at h; cases h), (fun ts' h => by rw [HE.out] at h; cases h; exact ⟨_, rfl, hown.out⟩), hbl.out⟩
    have hll : i < s.data.toList.length := by rw [str_len]; exact hlt
    have d1 : decide ((i : Int) < s.size) = true := decide_eq_true (by omega)
    have d1n : decide (i < s.size) = true := decide_eq_true hlt
    have HST := Lib.hid (hst.out hll)
    have HM : Hid (s.size - (intOf ((wr.cell? ⟨g, 1, none⟩).getD undef)).toNat = s.size - i) := Lib.hid (by rw [c1]; simp [intOf])
    have HLL := Lib.hid hll
    clear hst
    go_wp2_with fail
    refine (next_any w.heap.size g i s wr hsc.out hlt (by omega) (HT.out.below hbl.out) hbl.out.size HG.out).mono ?_
    rintro e w2 ⟨hno, hyes, hon⟩
    have HB2 : Hid (Below w.heap.size w w2) := Lib.hid (hbl.out.trans (hon.below _ hbl.out.size fun k hk h => by have := HG.out; omega))
    obtain ⟨kn, hkn⟩ : ∃ kn, kn = tokAt (s.data.toList.drop i) := ⟨_, rfl⟩
    rw [← hkn] at hno hyes
    by_cases h0 : kn.1 = 0
    · obtain ⟨a, b, c, rfl⟩ := hno h0
      unfold tokV
      rw [strV_mk]
      have HE : Hid (toksOf s.data.toList = none) := Lib.hid (came_none hcm.out HLL.out HST.out.1 HST.out.2 (by rw [← hkn]; exact h0))
      clear hno hyes hon hkn h0 hcm hown hsc hbl c1 d1 d1n hi htl HM
      go_wp2_with fail
      go_ret2
      exact ⟨fun _ => rfl, (fun ts' h => by rw [HE.out] at h; cases h), HB2.out.alloc HB2.out.size _⟩
    · obtain ⟨rfl, hs2⟩ := hyes h0
      have HS2 := Lib.hid hs2
      have HOW2 : Hid (OwnToks w.heap.size w2 u4 ts) := Lib.hid (own_only hown.out hon fun k hk h => by subst h; exact own_ne hown.out hsc.out (by decide) hk)
      have hcm2 := came_tok hcm.out HLL.out HST.out.1 HST.out.2 (by rw [← hkn]; exact h0)
      rw [← hkn] at hcm2
      have hpos : 0 < kn.2 := by
        have := drop_cons s.data.toList i HLL.out
        rw [hkn, this]
        exact tok_pos (by rw [← this, ← hkn]; exact h0)
      have HCM2 := Lib.hid hcm2
      obtain ⟨T, hT⟩ : ∃ T, T = (s.data.toList.drop i).take kn.2 := ⟨_, rfl⟩
      obtain ⟨K, hK⟩ : ∃ K, K = kn.1 := ⟨_, rfl⟩
      obtain ⟨n, hn⟩ : ∃ n, n = kn.2 := ⟨_, rfl⟩
      have htn : i + n ≤ s.size := by
        have h1 := tok_le (s.data.toList.drop i)
        rw [← hkn, ← hn, List.length_drop, str_len] at h1
        omega
      have hpn : 0 < n := by omega
      unfold tokV
      rw [← hT, ← hK, strV_mk]
      have HCM3 : Hid (Came s.data.toList (i + n) (ts ++ [⟨K, T, i⟩])) := Lib.hid (by rw [hn, hK, hT]; exact HCM2.out)
      rw [← hn] at hs2
      have HS2 := Lib.hid hs2
      clear hno hyes hon hkn h0 hcm hown hsc hbl c1 hs2 hcm2 hT hK hn d1 d1n HCM2 hpos
      go_upto_region 11 with fail
      have hb3 := bal (bre w2) (.cells #[.int .u8 K, .string (mk8 T), .int .i64 i] 71)
      have hr3 := heap_alloc_new w2 (.cells #[.int .u8 K, .string (mk8 T), .int .i64 i] 71)
      have ho3 := World.ownsRow.alloc HOW2.out (.cells #[.int .u8 K, .string (mk8 T), .int .i64 i] 71)
      generalize w2.alloc (.cells #[.int .u8 K, .string (mk8 T), .int .i64 i] 71) = w3 at *
      obtain ⟨n6, hn6⟩ : ∃ n, n = w2.heap.size := ⟨_, rfl⟩
      rw [← hn6] at hr3 ⊢
      have HS3 : Hid (ScanAt w3 g s (i + n)) := Lib.hid (scan_keep HS2.out hb3)
      have HB3 : Hid (Below w.heap.size w w3) := Lib.hid (HB2.out.trans (hb3.mono HB2.out.size))
      have HOW3 := Lib.hid ho3
      have d0 := cell_of_row w3 n6 0 _ _ _ hr3
      have d1 := cell_of_row w3 n6 1 _ _ _ hr3
      have d2 := cell_of_row w3 n6 2 _ _ _ hr3
      clear hb3 hr3 ho3 hn6 HS2 HB2 HOW2
      go_upto_region 7 with (at_builtin; refine wpList_app rfl _ _ 41 71 3 32 rowTok rfl w.heap.size _ ts.length (ts.flatMap tokCells) rfl (World.ownsRow.alloc HOW3.out _) _ 1 1 (tokCells ⟨K, T, i⟩) rfl rfl (lies_three _ _ _ _ _) (Nat.le_refl _) (fun h => by cases h) (by simp [Value.oneCell', tokCells]) (by unfold maxLen; omega) (by omega) (by exact (HB3.out.alloc HB3.out.size _).size) ?_; intro v' w6 h6 hg6 hb6)
      have HOW6 : Hid (OwnToks w.heap.size w6 v' (ts ++ [⟨K, T, i⟩])) := Lib.hid (by unfold OwnToks; rw [flat_snoc, List.length_append]; exact h6)
      have hba := bal (bre w3) (.cells #[.int .u8 K, .string (mk8 T), .int .i64 i] 71)
      have hsa := scan_keep HS3.out hba
      have hoA := World.ownsRow.alloc HOW3.out (.cells #[.int .u8 K, .string (mk8 T), .int .i64 i] 71)
      have HS6 : Hid (ScanAt w6 g s (i + n)) := Lib.hid ((hg6.block g (Array.getElem?_eq_some_iff.1 hsa).1 (fun e => own_ne hoA hsa (by decide) e.symm)).trans hsa)
      have HB6 : Hid (Below w.heap.size w w6) := Lib.hid ((HB3.out.alloc HB3.out.size _).trans hb6)
      clear h6 hg6 hb6 hba hsa hoA d0 d1 d2 HS3 HB3 HOW3
      go_wp2_with fail
      refine (skip_any g (i + n) s w6 HS6.out htn (by omega)).mono ?_
      rintro e w7 ⟨rfl, j, hs7, ho7, hsk⟩
      have HS7 := Lib.hid hs7
      have HB7 : Hid (Below w.heap.size w w7) := Lib.hid (HB6.out.trans (ho7.below _ HB6.out.size fun k hk h => by have := HG.out; omega))
      have HOW7 : Hid (OwnToks w.heap.size w7 v' (ts ++ [⟨K, T, i⟩])) := Lib.hid (own_only HOW6.out ho7 fun k hk h => by subst h; exact own_ne HOW6.out HS6.out (by decide) hk)
      have HSK := Lib.hid hsk
      clear hs7 ho7 hsk HS6 HB6 HOW6
      go_wp2_with fail
      go_roundw
      case rel => exact ⟨j, ts ++ [⟨K, T, i⟩], HS7, HB7, HOW7, Lib.hid (HSK.out.came _ HCM3.out), by have := HSK.out.le; rw [str_len] at this; exact this, by have := HSK.out.ge; simp; omega, Lib.hid HSK.out.stop⟩
      case measure =>
        have e1 := cell_of_row _ g 1 _ _ _ HS7.out
        have h1 := HSK.out.ge
        rw [HM.out, e1]
        simp [intOf]
        omega
end Go.Proofs.YtljdphpbalioaaaGreatDoor
