/- Walks: letters, digits, what is shaped as a name. -/
import Derived.Test.YtminfdlhbecnhaaGreatDoorChecked
import Derived.Test.YtminfdlhbecnhaaGreatDoorBase
namespace Go.Proofs.YtminfdlhbecnhaaGreatDoor
open Go.RowKit

def letN (n : Nat) : Bool := decide (97 ≤ n) && decide (n ≤ 122) || (decide (65 ≤ n) && decide (n ≤ 90) || decide (n = 95))
def digN (n : Nat) : Bool := decide (48 ≤ n) && decide (n ≤ 57)

set_option maxRecDepth 10000 in
theorem letter_any (n : Nat) (w : World) : Calls Tryz.prog 64 #[.int .u8 n] w fun e w' => e = .returned (.bool (letN n)) ∧ w' = w := by
  obtain ⟨x, hx⟩ : ∃ x, x = letN n := ⟨_, rfl⟩
  rw [← hx]
  unfold letN at hx
  have c1 : decide ((97 : Int) ≤ n) = decide (97 ≤ n) := by rw [Bool.eq_iff_iff, decide_eq_true_iff, decide_eq_true_iff]; omega
  have c2 : decide ((n : Int) ≤ 122) = decide (n ≤ 122) := by rw [Bool.eq_iff_iff, decide_eq_true_iff, decide_eq_true_iff]; omega
  have c3 : decide ((65 : Int) ≤ n) = decide (65 ≤ n) := by rw [Bool.eq_iff_iff, decide_eq_true_iff, decide_eq_true_iff]; omega
  have c4 : decide ((n : Int) ≤ 90) = decide (n ≤ 90) := by rw [Bool.eq_iff_iff, decide_eq_true_iff, decide_eq_true_iff]; omega
  have c5 : decide ((n : Int) = 95) = decide (n = 95) := by rw [Bool.eq_iff_iff, decide_eq_true_iff, decide_eq_true_iff]; omega
  have c6 : ((n : Int) == 95) = decide ((n : Int) = 95) := rfl
  rw [c5] at c6
  generalize decide (97 ≤ n) = b1 at *
  generalize decide (n ≤ 122) = b2 at *
  generalize decide (65 ≤ n) = b3 at *
  generalize decide (n ≤ 90) = b4 at *
  generalize decide (n = 95) = b5 at *
  have HX := Lib.hid hx
  clear hx
  cases b1 <;> cases b2 <;> cases b3 <;> cases b4 <;> cases b5 <;> (
    go_enter Tryz.func64, Tryz.ntmps64
    go_wp2
    go_ret
    exact ⟨by rw [HX.out]; rfl, rfl⟩)

set_option maxRecDepth 10000 in
theorem digit_any (n : Nat) (w : World) : Calls Tryz.prog 65 #[.int .u8 n] w fun e w' => e = .returned (.bool (digN n)) ∧ w' = w := by
  obtain ⟨x, hx⟩ : ∃ x, x = digN n := ⟨_, rfl⟩
  rw [← hx]
  unfold digN at hx
  have c1 : decide ((48 : Int) ≤ n) = decide (48 ≤ n) := by rw [Bool.eq_iff_iff, decide_eq_true_iff, decide_eq_true_iff]; omega
  have c2 : decide ((n : Int) ≤ 57) = decide (n ≤ 57) := by rw [Bool.eq_iff_iff, decide_eq_true_iff, decide_eq_true_iff]; omega
  generalize decide (48 ≤ n) = b1 at *
  generalize decide (n ≤ 57) = b2 at *
  have HX := Lib.hid hx
  clear hx
  cases b1 <;> cases b2 <;> (
    go_enter Tryz.func65, Tryz.ntmps65
    go_wp2
    go_ret
    exact ⟨by rw [HX.out]; rfl, rfl⟩)

def shapedB (l : List UInt8) : Bool := !l.isEmpty && decide (l.length ≤ 64) && letN (l.getD 0 0).toNat && l.all (fun b => letN b.toNat || digN b.toNat)

theorem str_isEmpty (s : ByteArray) : s.toList.isEmpty = decide (s.size = 0) := by
  rw [ByteArray.toList_eq, Bool.eq_iff_iff, decide_eq_true_iff, List.isEmpty_iff]
  constructor
  · intro h
    show s.data.size = 0
    rw [← Array.length_toList, h]
    rfl
  · intro h
    exact List.eq_nil_of_length_eq_zero (by rw [Array.length_toList]; exact h)

theorem str_at (s : ByteArray) (k : Nat) (h : k < s.size) : s.data.toList[k]? = some (s[k]'h) := by
  rw [Array.getElem?_toList]
  exact Array.getElem?_eq_getElem h

theorem str_len (s : ByteArray) : s.data.toList.length = s.size := Array.length_toList

theorem shaped_not (s : ByteArray) (k : Nat) (h : k < s.size) (hb : (letN (s[k]'h).toNat || digN (s[k]'h).toNat) = false) : shapedB s.data.toList = false := by
  unfold shapedB
  rw [Bool.and_eq_false_iff]
  refine .inr (Bool.eq_false_iff.2 fun ha => ?_)
  have := (List.all_eq_true.1 ha) _ (List.mem_of_getElem? (str_at s k h))
  rw [this] at hb
  cases hb

theorem shaped_yes (s : ByteArray) (h0 : 0 < s.size) (h64 : s.size ≤ 64) (hl : letN (s[0]'h0).toNat = true) (ha : ∀ j (h : j < s.size), (letN (s[j]'h).toNat || digN (s[j]'h).toNat) = true) : shapedB s.data.toList = true := by
  unfold shapedB
  have e1 : s.data.toList.isEmpty = false := by
    rw [Bool.eq_false_iff]
    intro h
    have := str_len s
    rw [List.isEmpty_iff.1 h] at this
    simp at this
    omega
  have e2 : decide (s.data.toList.length ≤ 64) = true := decide_eq_true (by rw [str_len]; exact h64)
  have e3 : s.data.toList.getD 0 0 = s[0]'h0 := by rw [List.getD_eq_getElem?_getD, str_at s 0 h0]; rfl
  rw [e1, e2, e3, hl]
  simp only [Bool.not_false, Bool.true_and]
  refine List.all_eq_true.2 fun b hb => ?_
  obtain ⟨j, hj⟩ := List.getElem?_of_mem hb
  have hlt : j < s.size := by
    rcases Nat.lt_or_ge j s.size with h | h
    · exact h
    · rw [List.getElem?_eq_none (by rw [str_len]; exact h)] at hj; cases hj
  rw [str_at s j hlt] at hj
  cases hj
  exact ha j hlt

set_option maxRecDepth 10000 in
set_option maxHeartbeats 1600000 in
theorem shaped_any (s : ByteArray) (w : World) (hs : s.size ≤ 9223372036854775807) : Calls Tryz.prog 46 #[.string s] w fun e w' => e = .returned (.bool (shapedB s.data.toList)) ∧ w' = w := by
  obtain ⟨x, hx⟩ : ∃ x, x = shapedB s.data.toList := ⟨_, rfl⟩
  rw [← hx]
  have HX := Lib.hid hx
  clear hx
  have hse := str_isEmpty s
  by_cases h0 : s.size = 0
  · rw [decide_eq_true h0] at hse
    have hr : x = false := by
      rw [HX.out]
      unfold shapedB
      have : s.data.toList = [] := List.eq_nil_of_length_eq_zero (by rw [str_len]; exact h0)
      rw [this]
      rfl
    subst hr
    clear h0 hs
    go_enter Tryz.func46, Tryz.ntmps46
    go_wp2_with fail
    go_ret
    exact ⟨rfl, rfl⟩
  rw [decide_eq_false h0] at hse
  have hpos : 0 < s.size := by omega
  by_cases h64 : 64 < s.size
  · have hd : decide ((64 : Int) < s.size) = true := decide_eq_true (by omega)
    have hr : x = false := by
      rw [HX.out]
      unfold shapedB
      have : decide (s.data.toList.length ≤ 64) = false := decide_eq_false (by rw [str_len]; omega)
      rw [this]
      simp
    subst hr
    clear h0 hs
    go_enter Tryz.func46, Tryz.ntmps46
    go_wp2_with fail
    go_ret
    exact ⟨rfl, rfl⟩
  have hd : decide ((64 : Int) < s.size) = false := decide_eq_false (by omega)
  have H64 : Hid (s.size ≤ 64) := Lib.hid (by omega)
  have h64s : s.size ≤ 64 := by omega
  clear h0 h64 hs
  go_enter Tryz.func46, Tryz.ntmps46
  go_wp2_with fail
  refine (letter_any _ w).mono ?_
  rintro e w1 ⟨rfl, hw⟩
  have hw' := hw.symm
  subst hw'
  clear hw
  cases hlt : letN (s[0]'hpos).toNat with
  | false =>
    have hr : x = false := by
      rw [HX.out]
      unfold shapedB
      have e3 : s.data.toList.getD 0 0 = s[0]'hpos := by rw [List.getD_eq_getElem?_getD, str_at s 0 hpos]; rfl
      rw [e3, hlt]
      simp
    subst hr
    clear hlt
    go_wp2_with fail
    go_ret
    exact ⟨rfl, rfl⟩
  | true =>
    have HLT := Lib.hid hlt
    clear hlt
    go_wp2_with fail
    go_loopw [3, 19] (fun _ i wr => ∃ k : Nat, k ≤ s.size ∧ i = .int .i64 k ∧ wr = w ∧ Hid (∀ j (h : j < s.size), j < k → (letN (s[j]'h).toNat || digN (s[j]'h).toNat) = true)) (fun _ i _ => s.size - (intOf i).toNat)
    case atStart => exact ⟨0, by omega, rfl, rfl, Lib.hid fun j _ h => absurd h (Nat.not_lt_zero j)⟩
    case round =>
      obtain ⟨k, hk, rfl, rfl, hr⟩ := hrel
      by_cases hlt : k < s.size
      · cases hb : (letN (s[k]'hlt).toNat || digN (s[k]'hlt).toNat) with
        | false =>
          have hr2 : x = false := by rw [HX.out]; exact shaped_not s k hlt hb
          subst hr2
          obtain ⟨b1, b2⟩ := Bool.or_eq_false_iff.1 hb
          have B1 := Lib.hid b1
          have B2 := Lib.hid b2
          clear hb b1 b2
          go_wp2_with fail
          refine (letter_any _ _).mono ?_
          rintro e w1 ⟨rfl, hw⟩
          have hw' := hw.symm
          subst hw'
          clear hw
          rw [B1.out]
          go_wp2_with fail
          refine (digit_any _ _).mono ?_
          rintro e w2 ⟨rfl, hw⟩
          have hw' := hw.symm
          subst hw'
          clear hw
          rw [B2.out]
          go_wp2_with fail
          go_ret
          exact ⟨rfl, rfl⟩
        | true =>
          have hn : Hid (∀ j (h : j < s.size), j < k + 1 → (letN (s[j]'h).toNat || digN (s[j]'h).toNat) = true) := Lib.hid fun j h hj => by
            rcases Nat.lt_or_ge j k with h' | h'
            · exact hr.out j h h'
            · have : j = k := by omega
              subst this
              exact hb
          clear hr
          cases h1 : letN (s[k]'hlt).toNat with
          | true =>
            have B1 := Lib.hid h1
            clear hb h1
            go_wp2_with fail
            refine (letter_any _ _).mono ?_
            rintro e w1 ⟨rfl, hw⟩
            have hw' := hw.symm
            subst hw'
            clear hw
            rw [B1.out]
            go_wp2_with fail
            go_roundw
            case rel => exact ⟨k + 1, by omega, by go_num, by trivial, hn⟩
            case measure => simp [intOf]; try omega
          | false =>
            rw [h1, Bool.false_or] at hb
            have B1 := Lib.hid h1
            have B2 := Lib.hid hb
            clear hb h1
            go_wp2_with fail
            refine (letter_any _ _).mono ?_
            rintro e w1 ⟨rfl, hw⟩
            have hw' := hw.symm
            subst hw'
            clear hw
            rw [B1.out]
            go_wp2_with fail
            refine (digit_any _ _).mono ?_
            rintro e w2 ⟨rfl, hw⟩
            have hw' := hw.symm
            subst hw'
            clear hw
            rw [B2.out]
            go_wp2_with fail
            go_roundw
            case rel => exact ⟨k + 1, by omega, by go_num, by trivial, hn⟩
            case measure => simp [intOf]; try omega
      · have e2 : k = s.size := by omega
        subst e2
        have hr2 : x = true := by rw [HX.out]; exact shaped_yes s hpos H64.out HLT.out fun j h => hr.out j h h
        subst hr2
        clear hr hlt hk
        go_wp2_with fail
        go_ret
        exact ⟨rfl, rfl⟩
end Go.Proofs.YtminfdlhbecnhaaGreatDoor
