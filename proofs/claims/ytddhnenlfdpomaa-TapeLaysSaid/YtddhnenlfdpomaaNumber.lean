/- Walk: the document's number: a number off the front. -/
import Derived.Test.YtddhnenlfdpomaaRRest
namespace Go.Proofs.Ytddhnenlfdpomaa
open Go.RowKit

/-- a number off the front, and how many bytes it has; 0: there is none -/
def numOf (p : List UInt8) : Nat × Nat :=
  match Rd.dec 0 0 p with
  | some (n, r) => (n, p.length - r.length)
  | none => (0, 0)

theorem numOf_none {p : List UInt8} (h : Rd.dec 0 0 p = none) : numOf p = (0, 0) := by unfold numOf; rw [h]
theorem numOf_some {p r : List UInt8} {n : Nat} (h : Rd.dec 0 0 p = some (n, r)) : numOf p = (n, p.length - r.length) := by unfold numOf; rw [h]

theorem dec_ten (m : Nat) (l : List UInt8) : Rd.dec 10 m l = none := by
  cases l with
  | nil => rfl
  | cons b l => rw [Rd.dec, if_pos (by omega)]

set_option maxRecDepth 10000 in
set_option maxHeartbeats 800000 in
theorem number_any (v : Value) (p : List UInt8) (w : World) (hv : Bytes w v p) :
    Calls Try.prog 37 #[v] w fun e w' => e = .returned (.tuple #[.int .u64 (numOf p).1, .int .i64 (numOf p).2]) ∧ w' = w := by
  obtain ⟨a, c, rfl, hmax, hcap, _, hrow⟩ := hv
  have hmax2 : p.length ≤ 9223372036854775807 := by unfold maxLen at hmax; omega
  have HR := Lib.hid hrow
  clear hrow hmax
  go_enter Try.func37, Try.ntmps37
  go_wp2
  go_loopw [4, 5, 6] (fun n y i wr => ∃ (m j : Nat), n = .int .u64 m ∧ i = .int .i64 j ∧ y = .int .u64 ((128 ^ j % 18446744073709551616 : Nat) : Int) ∧ j ≤ 10 ∧ j ≤ p.length ∧ m < 18446744073709551616 ∧ Hid (m < 128 ^ j) ∧ Hid (Rd.dec j m (p.drop j) = Rd.dec 0 0 p) ∧ wr = w) (fun _ _ i _ => p.length - (intOf i).toNat)
  case atStart => exact ⟨0, 0, rfl, rfl, rfl, by omega, by omega, by omega, Lib.hid (by decide), Lib.hid (by rw [List.drop_zero]), by first | rfl | trivial⟩
  case round =>
    obtain ⟨m, j, rfl, rfl, rfl, hj10, hjp, hm64, HM, HD, rfl⟩ := hrel
    by_cases hend : j = 10 ∨ j = p.length
    · have hn : Rd.dec 0 0 p = none := by
        rw [← HD.out]
        rcases hend with rfl | rfl
        · exact dec_ten _ _
        · rw [List.drop_length]; rfl
      have HN := Lib.hid (numOf_none hn)
      clear hn HD HM
      rcases hend with rfl | rfl
      all_goals go_wp2
      all_goals
        go_ret2
        rw [HN.out]
        exact ⟨rfl, rfl⟩
    · have hj1 : j < 10 := by omega
      have hj2 : j < p.length := by omega
      obtain ⟨b, hb⟩ : ∃ b, p[j]? = some b := ⟨_, List.getElem?_eq_getElem hj2⟩
      have hdrop : p.drop j = b :: p.drop (j + 1) := by
        rw [List.drop_eq_getElem_cons hj2]
        congr 1
        rw [List.getElem?_eq_getElem hj2] at hb
        exact Option.some.inj hb
      rcases HR.out with h0 | ⟨g, o, rfl, hc⟩
      · rw [h0] at hj2; simp at hj2
      obtain ⟨u, hu, rfl⟩ := hc j b hb
      unfold B8 at hu
      have hB : b.toNat < 256 := b.toNat_lt
      rw [hdrop] at HD
      clear hc hb hdrop hend
      have hY : 128 ^ j % 18446744073709551616 = 128 ^ j := Nat.mod_eq_of_lt (by
        obtain rfl | rfl | rfl | rfl | rfl | rfl | rfl | rfl | rfl | rfl : j = 0 ∨ j = 1 ∨ j = 2 ∨ j = 3 ∨ j = 4 ∨ j = 5 ∨ j = 6 ∨ j = 7 ∨ j = 8 ∨ j = 9 := by omega
        all_goals decide)
      rw [hY]
      by_cases hbad : j = 9 ∧ 1 < b.toNat % 128
      · have hn : Rd.dec 0 0 p = none := by rw [← HD.out, Rd.dec, if_pos (by omega)]
        have HN := Lib.hid (numOf_none hn)
        clear hn HD HM hY
        obtain ⟨rfl, hbad⟩ := hbad
        go_wp2
        go_ret2
        rw [HN.out]
        exact ⟨rfl, rfl⟩
      · obtain ⟨_, hn64, hn128, _⟩ := dec_or j m b.toNat (by omega) HM.out (by omega)
        have hY64 : 128 ^ j < 18446744073709551616 := by
          rw [← hY]; exact Nat.mod_lt _ (by decide)
        have hmul : ((128 ^ j : Nat) : Int) * ((b.toNat : Int) % 128) = ((b.toNat % 128 * 128 ^ j : Nat) : Int) := by
          rw [show (b.toNat : Int) % 128 = ((b.toNat % 128 : Nat) : Int) by omega, ← Int.natCast_mul, Nat.mul_comm]
        have hw1 : IntKind.u64.wrap (((128 ^ j : Nat) : Int) * ((b.toNat : Int) % 128)) = ((b.toNat % 128 * 128 ^ j : Nat) : Int) := by
          rw [hmul, IntKind.wrap_u64]; omega
        have hw2 : IntKind.u64.wrap ((m : Int) + ((b.toNat % 128 * 128 ^ j : Nat) : Int)) = ((m + b.toNat % 128 * 128 ^ j : Nat) : Int) := by
          rw [IntKind.wrap_u64]; omega
        have hlen : (p.drop (j + 1)).length = p.length - (j + 1) := List.length_drop
        clear hmul
        by_cases hlast : b.toNat < 128
        · by_cases hz : 0 < j ∧ b.toNat = 0
          · have hn : Rd.dec 0 0 p = none := by rw [← HD.out, Rd.dec, if_pos (by omega)]
            have HN := Lib.hid (numOf_none hn)
            obtain ⟨hz1, hz2⟩ := hz
            clear hn HD HM hY hn128
            generalize 128 ^ j = Y at *
            generalize hP : b.toNat % 128 * Y = P at *
            clear hP
            rcases (by omega : j = 9 ∨ j ≠ 9) with rfl | hj9
            · go_wp2
              go_ret2
              rw [HN.out]
              exact ⟨rfl, rfl⟩
            · go_wp2
              go_ret2
              rw [HN.out]
              exact ⟨rfl, rfl⟩
          · have hn : Rd.dec 0 0 p = some (m + b.toNat % 128 * 128 ^ j, p.drop (j + 1)) := by rw [← HD.out, Rd.dec, if_neg (by omega), if_pos hlast]
            have hno := numOf_some hn
            rw [hlen, show p.length - (p.length - (j + 1)) = j + 1 by omega] at hno
            have HN := Lib.hid hno
            have hzz : j = 0 ∨ (0 < j ∧ ((b.toNat : Int) == 0) = false ∧ ((b.toNat : Int) % 128 == 0) = false) := by
              rcases Nat.eq_zero_or_pos j with h | h
              · exact .inl h
              · exact .inr ⟨h, by simp; omega, by simp; omega⟩
            clear hn hno HD HM hY hn128
            generalize 128 ^ j = Y at *
            generalize hP : b.toNat % 128 * Y = P at *
            clear hP
            rcases (by omega : j = 9 ∨ j = 0 ∨ (j ≠ 9 ∧ 0 < j)) with rfl | rfl | ⟨hj9, hj0⟩
            · go_wp2
              go_ret2
              rw [HN.out]
              exact ⟨rfl, rfl⟩
            · rw [Nat.add_zero] at hu
              go_wp2
              go_ret2
              rw [HN.out]
              exact ⟨rfl, rfl⟩
            · have hzz2 : ((b.toNat : Int) % 128 == 0) = false := by simp; omega
              clear hzz
              go_wp2
              go_ret2
              rw [HN.out]
              exact ⟨rfl, rfl⟩
        · have hd : Rd.dec (j + 1) (m + b.toNat % 128 * 128 ^ j) (p.drop (j + 1)) = Rd.dec 0 0 p := by
            rw [← HD.out]
            conv => rhs; rw [Rd.dec, if_neg (by omega), if_neg hlast]
          have HN := Lib.hid hd
          have HP := Lib.hid hn128
          have hY2 : ((128 ^ (j + 1) % 18446744073709551616 : Nat) : Int) = IntKind.u64.wrap (((128 ^ j : Nat) : Int) * 128) := by
            rw [IntKind.wrap_u64, Nat.pow_succ]; omega
          have HY := Lib.hid hY2
          clear hd HD HM hY hn128 hY2
          generalize 128 ^ j = Y at *
          generalize hP : b.toNat % 128 * Y = P at *
          clear hP
          rcases (by omega : j = 9 ∨ j ≠ 9) with rfl | hj9
          all_goals go_wp2
          all_goals
            go_roundw
            case rel => exact ⟨m + P, _, rfl, by go_num, by rw [HY.out], by omega, by omega, by omega, HP, HN, by first | rfl | trivial⟩
            case measure => simp [intOf]; omega
end Go.Proofs.Ytddhnenlfdpomaa
