/- Walks: a reader's Num. -/
import Derived.Test.YtminfdlhbecnhaaGreatDoorReader
import Derived.Deep.DeepCutAuto
namespace Go.Proofs.YtminfdlhbecnhaaGreatDoor
open Go.RowKit

/-- a number off the front, the i-th byte of it next, n so far -/
def Rd.dec : Nat → Nat → List UInt8 → Option (Nat × List UInt8)
  | _, _, [] => none
  | i, n, b :: l =>
    if (0 < i ∧ b.toNat = 0) ∨ 9 < i ∨ (i = 9 ∧ 1 < b.toNat % 128) then none
    else if b.toNat < 128 then some (n + b.toNat % 128 * 128 ^ i, l)
    else Rd.dec (i + 1) (n + b.toNat % 128 * 128 ^ i) l

/-- a number, at most so great -/
def Rd.num (most : Nat) (o : Option (List UInt8)) : Nat × Option (List UInt8) :=
  match o.bind (Rd.dec 0 0) with
  | some (n, l) => if n ≤ most then (n, some l) else (0, none)
  | none => (0, none)

theorem Rd.num_none {most : Nat} {o : Option (List UInt8)} (h : o.bind (Rd.dec 0 0) = none) : Rd.num most o = (0, none) := by unfold Rd.num; rw [h]

theorem low128 (b : UInt8) : bits .andNot .u8 (b.toNat : Int) 128 = ((b.toNat % 128 : Nat) : Int) := by
  have hB : b.toNat < 256 := b.toNat_lt
  rw [show (128 : Int) = ((128 : Nat) : Int) by rfl, u8_andNot_nat _ _ hB (by omega), show 255 - 128 = 2 ^ 7 - 1 by decide, Nat.and_two_pow_sub_one_eq_mod]

theorem dec_or (i m B : Nat) (hi : i ≤ 9) (hm : m < 128 ^ i) (hl : i < 9 ∨ B % 128 ≤ 1) :
    bits .or .u64 (m : Int) (IntKind.u64.wrap ((B : Int) % 128 * 2 ^ (7 * i))) = ((m + B % 128 * 128 ^ i : Nat) : Int) ∧ m + B % 128 * 128 ^ i < 18446744073709551616 ∧
      m + B % 128 * 128 ^ i < 128 ^ (i + 1) ∧ (B : Int) % 128 ≤ 18446744073709551615 / 2 ^ (7 * i) := by
  have hp : (128 : Nat) ^ i = 2 ^ (7 * i) := by rw [Nat.pow_mul]
  have e1 : (B : Int) % 128 * 2 ^ (7 * i) = ((B % 128 * 128 ^ i : Nat) : Int) := by rw [hp]; simp
  have h3 : (B : Int) % 128 ≤ 18446744073709551615 / 2 ^ (7 * i) := by
    obtain rfl | rfl | rfl | rfl | rfl | rfl | rfl | rfl | rfl | rfl : i = 0 ∨ i = 1 ∨ i = 2 ∨ i = 3 ∨ i = 4 ∨ i = 5 ∨ i = 6 ∨ i = 7 ∨ i = 8 ∨ i = 9 := by omega
    all_goals simp only [Nat.reduceMul, Int.reducePow, Int.reduceDiv]; omega
  have h4 : m + B % 128 * 128 ^ i < 18446744073709551616 := by
    obtain rfl | rfl | rfl | rfl | rfl | rfl | rfl | rfl | rfl | rfl : i = 0 ∨ i = 1 ∨ i = 2 ∨ i = 3 ∨ i = 4 ∨ i = 5 ∨ i = 6 ∨ i = 7 ∨ i = 8 ∨ i = 9 := by omega
    all_goals simp only [Nat.reducePow] at *; omega
  refine ⟨?_, h4, ?_, h3⟩
  · rw [e1, IntKind.wrap_u64]
    have hlt : B % 128 * 128 ^ i < 18446744073709551616 := by omega
    have e2 : ((B % 128 * 128 ^ i : Nat) : Int) % 18446744073709551616 = ((B % 128 * 128 ^ i : Nat) : Int) := by omega
    rw [e2, bits_or_u64_nat _ _ (by omega) hlt]
    congr 1
    rw [hp] at hm ⊢
    rw [Nat.or_comm, Nat.mul_comm, ← Nat.two_pow_add_eq_or_of_lt hm, Nat.add_comm]
  · rw [Nat.pow_succ]
    have h5 : B % 128 * 128 ^ i ≤ 127 * 128 ^ i := Nat.mul_le_mul_right _ (by omega)
    omega

set_option maxRecDepth 10000 in
set_option maxHeartbeats 800000 in
theorem rnum_any (B : Nat) (v : Value) (o : Option (List UInt8)) (most : Nat) (w : World) (hr : RdAt B w v o) :
    Calls Tryz.prog 32 #[v, .int .u64 most] w fun e w' =>
      e = .returned (.int .u64 (Rd.num most o).1) ∧ RdAt B w' v (Rd.num most o).2 ∧ Turned w w' v := by
  go_enter Tryz.func32, Tryz.ntmps32
  go_wp2
  go_loopw [5, 6] (fun c s wr => ∃ (i m : Nat) (o' : Option (List UInt8)), c = .int .u64 m ∧ s = .int .i64 (7 * i : Nat) ∧ i ≤ 10 ∧ m < 18446744073709551616 ∧ Hid (m < 128 ^ i) ∧ Hid (o'.bind (Rd.dec i m) = o.bind (Rd.dec 0 0)) ∧ RdAt B wr v o' ∧ Turned w wr v) (fun _ s _ => 77 - (intOf s).toNat)
  case atStart => exact ⟨0, 0, o, rfl, rfl, by omega, by omega, Lib.hid (by decide), Lib.hid rfl, hr, Turned.refl _ _⟩
  case round =>
    obtain ⟨i, m, o', rfl, rfl, hi, hm64, HM, HD, hro, hto⟩ := hrel
    by_cases hbad : ∃ b l, o' = some (b :: l)
    · obtain ⟨b, l, rfl⟩ := hbad
      have htk := take_any B v (some (b :: l)) wr hro
      have HT := Lib.hid htk
      clear htk hro
      have hlow := low128 b
      have hB : b.toNat < 256 := b.toNat_lt
      have hdec : (some (b :: l) : Option (List UInt8)).bind (Rd.dec i m) = _ := rfl
      by_cases hc1 : (0 < i ∧ b.toNat = 0) ∨ 9 < i ∨ (i = 9 ∧ 1 < b.toNat % 128)
      · have hn2 : o.bind (Rd.dec 0 0) = none := by rw [← HD.out]; show Rd.dec i m (b :: l) = none; rw [Rd.dec, if_pos hc1]
        have HN := Lib.hid (Rd.num_none (most := most) hn2)
        clear hn2 HD HM hdec
        have key : ∀ C : Prop, C → True := fun _ _ => trivial
        rcases hc1 with ⟨h1, h2⟩ | h1 | ⟨rfl, h2⟩
        · go_wp2_with first
            | (go_at_call 54; refine HT.out.mono ?_; rintro e w1 ⟨rfl, hr1, ht1⟩; simp only [Rd.take] at hr1; simp only [Rd.take])
            | (go_at_call 55; refine (wrong_any B v (some l) _ hr1).mono ?_; rintro e w2 ⟨rfl, rfl⟩; simp only [Option.isNone])
            | (go_at_call 56; refine (fail_any B v (some l) _ hr1).mono ?_; rintro e w3 ⟨rfl, hr3, ht3⟩)
          go_ret
          rw [HN.out]
          exact ⟨rfl, hr3, hto.trans (ht1.trans ht3)⟩
        · go_wp2_with first
            | (go_at_call 54; refine HT.out.mono ?_; rintro e w1 ⟨rfl, hr1, ht1⟩; simp only [Rd.take] at hr1; simp only [Rd.take])
            | (go_at_call 55; refine (wrong_any B v (some l) _ hr1).mono ?_; rintro e w2 ⟨rfl, rfl⟩; simp only [Option.isNone])
            | (go_at_call 56; refine (fail_any B v (some l) _ hr1).mono ?_; rintro e w3 ⟨rfl, hr3, ht3⟩)
          all_goals
            go_ret
            rw [HN.out]
            exact ⟨rfl, hr3, hto.trans (ht1.trans ht3)⟩
        · go_wp2_with first
            | (go_at_call 54; refine HT.out.mono ?_; rintro e w1 ⟨rfl, hr1, ht1⟩; simp only [Rd.take] at hr1; simp only [Rd.take])
            | (go_at_call 55; refine (wrong_any B v (some l) _ hr1).mono ?_; rintro e w2 ⟨rfl, rfl⟩; simp only [Option.isNone])
            | (go_at_call 56; refine (fail_any B v (some l) _ hr1).mono ?_; rintro e w3 ⟨rfl, hr3, ht3⟩)
          all_goals
            go_ret
            rw [HN.out]
            exact ⟨rfl, hr3, hto.trans (ht1.trans ht3)⟩
      · have hi9 : i ≤ 9 := by omega
        have hz : i = 0 ∨ b.toNat ≠ 0 := by omega
        have hl : i < 9 ∨ b.toNat % 128 ≤ 1 := by omega
        clear hdec
        obtain ⟨hor, hn64, hn128, hsh⟩ := dec_or i m b.toNat hi9 HM.out hl
        have hz0 : (i = 0 ∧ bits .or .u64 (m : Int) ((b.toNat : Int) % 128) = ((m + b.toNat % 128 * 128 ^ i : Nat) : Int)) ∨ (0 < i ∧ ((b.toNat : Int) == 0) = false) := by
          rcases Nat.eq_zero_or_pos i with h | h
          · refine .inl ⟨h, ?_⟩
            rw [← hor, h, IntKind.wrap_u64]
            congr 1
            simp only [Nat.mul_zero, Int.pow_zero, Int.mul_one]
            omega
          · exact .inr ⟨h, by simp; omega⟩
        by_cases hlast : b.toNat < 128
        · have hd : o.bind (Rd.dec 0 0) = some (m + b.toNat % 128 * 128 ^ i, l) := by
            rw [← HD.out]; show Rd.dec i m (b :: l) = _; rw [Rd.dec, if_neg hc1, if_pos hlast]
          have HN := Lib.hid hd
          clear hd HD HM hc1 hn128 hl
          generalize m + b.toNat % 128 * 128 ^ i = n at *
          by_cases hmn : n ≤ most
          · have hN : Rd.num most o = (n, some l) := by unfold Rd.num; rw [HN.out]; simp only; rw [if_pos hmn]
            have HV := Lib.hid hN
            clear hN HN
            rcases hz0 with hz1 | ⟨hz1, hz2⟩
            all_goals go_wp2_with first
              | (go_at_call 54; refine HT.out.mono ?_; rintro e w1 ⟨rfl, hr1, ht1⟩; simp only [Rd.take] at hr1; simp only [Rd.take])
              | (go_at_call 55; refine (wrong_any B v (some l) _ hr1).mono ?_; rintro e w2 ⟨rfl, rfl⟩; simp only [Option.isNone])
              | (go_at_call 56; refine (fail_any B v (some l) _ hr1).mono ?_; rintro e w3 ⟨rfl, hr3, ht3⟩)
            all_goals
              go_ret
              rw [HV.out]
              exact ⟨rfl, hr1, hto.trans ht1⟩
          · have hN : Rd.num most o = (0, none) := by unfold Rd.num; rw [HN.out]; simp only; rw [if_neg hmn]
            have HV := Lib.hid hN
            clear hN HN
            rcases hz0 with hz1 | ⟨hz1, hz2⟩
            all_goals go_wp2_with first
              | (go_at_call 54; refine HT.out.mono ?_; rintro e w1 ⟨rfl, hr1, ht1⟩; simp only [Rd.take] at hr1; simp only [Rd.take])
              | (go_at_call 55; refine (wrong_any B v (some l) _ hr1).mono ?_; rintro e w2 ⟨rfl, rfl⟩; simp only [Option.isNone])
              | (go_at_call 56; refine (fail_any B v (some l) _ hr1).mono ?_; rintro e w3 ⟨rfl, hr3, ht3⟩)
            all_goals
              go_ret
              rw [HV.out]
              exact ⟨rfl, hr3, hto.trans (ht1.trans ht3)⟩
        · have hd : (some l : Option (List UInt8)).bind (Rd.dec (i + 1) (m + b.toNat % 128 * 128 ^ i)) = o.bind (Rd.dec 0 0) := by
            rw [← HD.out]; show _ = Rd.dec i m (b :: l); rw [Rd.dec, if_neg hc1, if_neg hlast]; rfl
          have HN := Lib.hid hd
          have HP := Lib.hid hn128
          clear hd HD HM hc1 hn128 hl
          generalize m + b.toNat % 128 * 128 ^ i = n at *
          rcases hz0 with hz1 | ⟨hz1, hz2⟩
          all_goals go_wp2_with first
            | (go_at_call 54; refine HT.out.mono ?_; rintro e w1 ⟨rfl, hr1, ht1⟩; simp only [Rd.take] at hr1; simp only [Rd.take])
            | (go_at_call 55; refine (wrong_any B v (some l) _ hr1).mono ?_; rintro e w2 ⟨rfl, rfl⟩; simp only [Option.isNone])
            | (go_at_call 56; refine (fail_any B v (some l) _ hr1).mono ?_; rintro e w3 ⟨rfl, hr3, ht3⟩)
          all_goals
            go_roundw
            case rel => exact ⟨i + 1, n, some l, rfl, by go_num, by omega, hn64, HP, HN, hr1, hto.trans ht1⟩
            case measure => simp [intOf]; omega
    · have hn : Rd.take o' = (0, none) ∧ o'.bind (Rd.dec i m) = none := by
        rcases o' with _ | _ | ⟨b, l⟩
        · exact ⟨rfl, rfl⟩
        · exact ⟨rfl, rfl⟩
        · exact absurd ⟨b, l, rfl⟩ hbad
      have hn2 : o.bind (Rd.dec 0 0) = none := HD.out.symm.trans hn.2
      have htk := take_any B v o' wr hro
      rw [hn.1] at htk
      have HT := Lib.hid htk
      have HN := Lib.hid (Rd.num_none (most := most) hn2)
      clear htk hro hn hn2 hbad HD HM
      go_wp2_with first
        | (go_at_call 54; refine HT.out.mono ?_; rintro e w1 ⟨rfl, hr1, ht1⟩)
        | (go_at_call 55; refine (wrong_any B v none _ hr1).mono ?_; rintro e w2 ⟨rfl, rfl⟩)
        | (go_at_call 56; refine (fail_any B v none _ hr1).mono ?_; rintro e w3 ⟨rfl, hr3, ht3⟩)
      go_ret
      rw [HN.out]
      exact ⟨rfl, hr3, hto.trans (ht1.trans ht3)⟩
end Go.Proofs.YtminfdlhbecnhaaGreatDoor
