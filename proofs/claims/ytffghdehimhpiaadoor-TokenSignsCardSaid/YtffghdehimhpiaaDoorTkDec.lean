/- Walks: the document's digits of a number. -/
import Derived.Test.YtffghdehimhpiaaDoorTkLawA
import Derived.Test.YtffghdehimhpiaaDoorTkSignP
namespace Go.Proofs.YtffghdehimhpiaaDoor
open Go.RowKit

theorem dec_step (n : Nat) (h : ¬ n < 10) : Lib.decDigits n = Lib.decDigits (n / 10) ++ Lib.decDigits (n % 10) := by
  rw [Lib.decDigits, dif_neg h, Lib.decDigits_one (i := n % 10) (by omega)]

theorem mk8_app (x y : List UInt8) : mk8 x ++ mk8 y = mk8 (x ++ y) := by
  apply ByteArray.ext
  rw [ByteArray.data_append]
  unfold mk8
  simp

theorem dec_le : ∀ (k u : Nat), u < 10 ^ (k + 1) → (Lib.decDigits u).length ≤ k + 1 := by
  intro k
  induction k with
  | zero => intro u h; rw [Lib.decDigits_one (by simpa using h)]; simp
  | succ k ih =>
    intro u h
    by_cases h10 : u < 10
    · rw [Lib.decDigits_one h10]; simp
    · rw [dec_step u h10, Lib.decDigits_one (i := u % 10) (by omega), List.length_append]
      have := ih (u / 10) (by rw [Nat.pow_succ] at h; omega)
      simp only [List.length_cons, List.length_nil]
      omega
theorem dec_size (u : Nat) (h : u < 18446744073709551616) : (mk8 (Lib.decDigits u)).size ≤ 20 := by
  rw [← str_len]
  exact dec_le 19 u (by omega)

theorem dec_slice (n : Nat) (h : n < 10) : (ByteArray.mk #[48, 49, 50, 51, 52, 53, 54, 55, 56, 57]).extract n (n + 1) = mk8 (Lib.decDigits n) := by
  rw [Lib.decDigits_one h]
  rcases (by omega : n = 0 ∨ n = 1 ∨ n = 2 ∨ n = 3 ∨ n = 4 ∨ n = 5 ∨ n = 6 ∨ n = 7 ∨ n = 8 ∨ n = 9) with rfl | rfl | rfl | rfl | rfl | rfl | rfl | rfl | rfl | rfl <;> kernel_rfl

set_option maxRecDepth 100000 in
theorem rdec_any (n : Nat) (hn : n < 18446744073709551616) : ∀ (w : World), Calls Tryd.prog 30 #[.int .u64 n] w fun e w' => e = .returned (.string (mk8 (Lib.decDigits n))) ∧ w' = w := by
  induction n using Nat.strongRecOn with
  | _ n ih =>
    intro w
    by_cases h10 : n < 10
    · have d1 : decide ((n : Int) < 10) = true := decide_eq_true (by omega)
      have d2 : decide (n < 10) = true := decide_eq_true h10
      have hsl := dec_slice n h10
      have hw : IntKind.u64.wrap ((n : Int) + 1) = (n : Int) + 1 := by rw [IntKind.wrap_u64]; omega
      clear ih hn
      go_enter Tryd.func30, Tryd.ntmps30
      go_wp2_with fail
      go_ret
      exact ⟨rfl, rfl⟩
    · have d1 : decide ((n : Int) < 10) = false := decide_eq_false (by omega)
      have d2 : decide (n < 10) = false := decide_eq_false h10
      have hw1 : IntKind.u64.wrap ((n : Int) / 10) = ((n / 10 : Nat) : Int) := by rw [IntKind.wrap_u64]; omega
      have hw2 : IntKind.u64.wrap ((n : Int) % 10) = ((n % 10 : Nat) : Int) := by rw [IntKind.wrap_u64]; omega
      have H1 := Lib.hid (ih (n / 10) (by omega) (by omega))
      have H2 := Lib.hid (ih (n % 10) (by omega) (by omega))
      have HS := Lib.hid (show mk8 (Lib.decDigits n) = mk8 (Lib.decDigits (n / 10)) ++ mk8 (Lib.decDigits (n % 10)) by rw [dec_step n h10, mk8_app])
      have hz1 := dec_size (n / 10) (by omega)
      have hz2 := dec_size (n % 10) (by omega)
      rw [HS.out]
      generalize mk8 (Lib.decDigits (n / 10)) = x at *
      generalize mk8 (Lib.decDigits (n % 10)) = y at *
      clear ih hn
      go_enter Tryd.func30, Tryd.ntmps30
      go_wp2_with fail
      refine (H1.out w).mono ?_
      rintro e w1 ⟨rfl, hw⟩
      have hw' := hw.symm
      subst hw'
      clear hw
      go_wp2_with fail
      refine (H2.out w).mono ?_
      rintro e w1 ⟨rfl, hw⟩
      have hw' := hw.symm
      subst hw'
      clear hw
      go_wp2_with fail
      go_ret
      exact ⟨rfl, rfl⟩

set_option maxRecDepth 100000 in
theorem rint_any (n : Int) (hn : -9223372036854775808 ≤ n ∧ n ≤ 9223372036854775807) (w : World) : Calls Tryd.prog 15 #[.int .i64 n] w fun e w' => e = .returned (.string (mk8 (Lib.itoa n))) ∧ w' = w := by
  by_cases h0 : 0 ≤ n
  · obtain ⟨k, rfl⟩ := Int.eq_ofNat_of_zero_le h0
    have d1 : decide ((k : Int) < 0) = false := decide_eq_false (by omega)
    have hw1 : IntKind.u64.wrap (k : Int) = (k : Int) := by rw [IntKind.wrap_u64]; omega
    have H1 := Lib.hid (rdec_any k (by omega) w)
    clear h0 hn
    go_enter Tryd.func15, Tryd.ntmps15
    go_wp2_with fail
    refine H1.out.mono ?_
    rintro e w1 ⟨rfl, hw⟩
    have hw' := hw.symm
    subst hw'
    clear hw
    go_wp2_with fail
    go_ret
    exact ⟨by rw [Lib.itoa_nonneg]; rfl, rfl⟩
  · obtain ⟨k, rfl⟩ : ∃ k : Nat, n = -(k : Int) - 1 := ⟨(-n - 1).toNat, by omega⟩
    have d1 : decide (-(k : Int) - 1 < 0) = true := decide_eq_true (by omega)
    have hw1 : wrap64 (-(k : Int)) = -(k : Int) := by unfold wrap64; omega
    have hw2 : wrap64 (k : Int) = (k : Int) := by unfold wrap64; omega
    have hz := dec_size (k + 1) (by omega)
    have hw3 : IntKind.u64.wrap (k : Int) = (k : Int) := by rw [IntKind.wrap_u64]; omega
    have hw4 : IntKind.u64.wrap ((k : Int) + 1) = ((k + 1 : Nat) : Int) := by rw [IntKind.wrap_u64]; omega
    have H1 := Lib.hid (rdec_any (k + 1) (by omega) w)
    have HE : Hid (mk8 (Lib.itoa (-(k : Int) - 1)) = ⟨#[45]⟩ ++ mk8 (Lib.decDigits (k + 1))) := Lib.hid (by
      rw [show -(k : Int) - 1 = -((k + 1 : Nat) : Int) by omega, Lib.itoa_neg _ (by omega)]
      exact (mk8_app [45] (Lib.decDigits (k + 1))).symm)
    rw [HE.out]
    generalize mk8 (Lib.decDigits (k + 1)) = x at *
    clear h0 hn
    go_enter Tryd.func15, Tryd.ntmps15
    go_wp2_with fail
    refine H1.out.mono ?_
    rintro e w1 ⟨rfl, hw⟩
    have hw' := hw.symm
    subst hw'
    clear hw
    go_wp2_with fail
    go_ret
    exact ⟨rfl, rfl⟩
end Go.Proofs.YtffghdehimhpiaaDoor
