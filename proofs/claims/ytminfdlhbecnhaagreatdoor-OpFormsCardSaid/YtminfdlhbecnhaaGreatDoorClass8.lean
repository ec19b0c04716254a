/- Walk: the reference's class of a byte. -/
import Derived.Test.YtminfdlhbecnhaaGreatDoorTokA
namespace Go.Proofs.YtminfdlhbecnhaaGreatDoor
open Go.RowKit

def classOf (n : Nat) : Nat := if letN n then 1 else if digN n then 2 else if n = 32 ∨ n = 9 ∨ n = 10 then 3 else 0

set_option maxRecDepth 10000 in
set_option maxHeartbeats 1600000 in
theorem class_any (n : Nat) (w : World) : Calls Tryz.prog 63 #[.int .u8 n] w fun e w' => e = .returned (.int .i64 (classOf n)) ∧ w' = w := by
  obtain ⟨x, hx⟩ : ∃ x, x = classOf n := ⟨_, rfl⟩
  rw [← hx]
  have HX := Lib.hid hx
  clear hx
  have hc : (n < 9) ∨ (n = 9) ∨ (n = 10) ∨ (10 < n ∧ n < 32) ∨ (n = 32) ∨ (32 < n ∧ n < 48) ∨ (48 ≤ n ∧ n ≤ 57) ∨ (57 < n ∧ n < 65) ∨ (65 ≤ n ∧ n ≤ 90) ∨ (90 < n ∧ n < 95) ∨ (n = 95) ∨ (n = 96) ∨ (97 ≤ n ∧ n ≤ 122) ∨ (122 < n) := by omega
  rcases hc with h | h | h | h | h | h | h | h | h | h | h | h | h | h
  · have hv : x = 0 := by
      rw [HX.out]; unfold classOf letN digN
      simp only [Bool.or_eq_true, Bool.and_eq_true, decide_eq_true_eq]
      (repeat' split) <;> omega
    subst hv
    have f0 : decide ((97 : Int) ≤ n) = false := decide_eq_false (by omega)
    have f1 : decide ((n : Int) ≤ 122) = true := decide_eq_true (by omega)
    have f2 : decide ((65 : Int) ≤ n) = false := decide_eq_false (by omega)
    have f3 : decide ((n : Int) ≤ 90) = true := decide_eq_true (by omega)
    have f4 : decide ((n : Int) = 95) = false := decide_eq_false (by omega)
    have g4 : ((n : Int) == 95) = false := f4
    have f5 : decide ((48 : Int) ≤ n) = false := decide_eq_false (by omega)
    have f6 : decide ((n : Int) ≤ 57) = true := decide_eq_true (by omega)
    have f7 : decide ((n : Int) = 32) = false := decide_eq_false (by omega)
    have g7 : ((n : Int) == 32) = false := f7
    have f8 : decide ((n : Int) = 9) = false := decide_eq_false (by omega)
    have g8 : ((n : Int) == 9) = false := f8
    have f9 : decide ((n : Int) = 10) = false := decide_eq_false (by omega)
    have g9 : ((n : Int) == 10) = false := f9
    clear h HX
    go_enter Tryz.func63, Tryz.ntmps63
    go_wp2_with fail
    go_ret
    exact ⟨rfl, rfl⟩
  · have hv : x = 3 := by
      rw [HX.out]; unfold classOf letN digN
      simp only [Bool.or_eq_true, Bool.and_eq_true, decide_eq_true_eq]
      (repeat' split) <;> omega
    subst hv
    have f0 : decide ((97 : Int) ≤ n) = false := decide_eq_false (by omega)
    have f1 : decide ((n : Int) ≤ 122) = true := decide_eq_true (by omega)
    have f2 : decide ((65 : Int) ≤ n) = false := decide_eq_false (by omega)
    have f3 : decide ((n : Int) ≤ 90) = true := decide_eq_true (by omega)
    have f4 : decide ((n : Int) = 95) = false := decide_eq_false (by omega)
    have g4 : ((n : Int) == 95) = false := f4
    have f5 : decide ((48 : Int) ≤ n) = false := decide_eq_false (by omega)
    have f6 : decide ((n : Int) ≤ 57) = true := decide_eq_true (by omega)
    have f7 : decide ((n : Int) = 32) = false := decide_eq_false (by omega)
    have g7 : ((n : Int) == 32) = false := f7
    have f8 : decide ((n : Int) = 9) = true := decide_eq_true (by omega)
    have g8 : ((n : Int) == 9) = true := f8
    have f9 : decide ((n : Int) = 10) = false := decide_eq_false (by omega)
    have g9 : ((n : Int) == 10) = false := f9
    clear h HX
    go_enter Tryz.func63, Tryz.ntmps63
    go_wp2_with fail
    go_ret
    exact ⟨rfl, rfl⟩
  · have hv : x = 3 := by
      rw [HX.out]; unfold classOf letN digN
      simp only [Bool.or_eq_true, Bool.and_eq_true, decide_eq_true_eq]
      (repeat' split) <;> omega
    subst hv
    have f0 : decide ((97 : Int) ≤ n) = false := decide_eq_false (by omega)
    have f1 : decide ((n : Int) ≤ 122) = true := decide_eq_true (by omega)
    have f2 : decide ((65 : Int) ≤ n) = false := decide_eq_false (by omega)
    have f3 : decide ((n : Int) ≤ 90) = true := decide_eq_true (by omega)
    have f4 : decide ((n : Int) = 95) = false := decide_eq_false (by omega)
    have g4 : ((n : Int) == 95) = false := f4
    have f5 : decide ((48 : Int) ≤ n) = false := decide_eq_false (by omega)
    have f6 : decide ((n : Int) ≤ 57) = true := decide_eq_true (by omega)
    have f7 : decide ((n : Int) = 32) = false := decide_eq_false (by omega)
    have g7 : ((n : Int) == 32) = false := f7
    have f8 : decide ((n : Int) = 9) = false := decide_eq_false (by omega)
    have g8 : ((n : Int) == 9) = false := f8
    have f9 : decide ((n : Int) = 10) = true := decide_eq_true (by omega)
    have g9 : ((n : Int) == 10) = true := f9
    clear h HX
    go_enter Tryz.func63, Tryz.ntmps63
    go_wp2_with fail
    go_ret
    exact ⟨rfl, rfl⟩
  · have hv : x = 0 := by
      rw [HX.out]; unfold classOf letN digN
      simp only [Bool.or_eq_true, Bool.and_eq_true, decide_eq_true_eq]
      (repeat' split) <;> omega
    subst hv
    have f0 : decide ((97 : Int) ≤ n) = false := decide_eq_false (by omega)
    have f1 : decide ((n : Int) ≤ 122) = true := decide_eq_true (by omega)
    have f2 : decide ((65 : Int) ≤ n) = false := decide_eq_false (by omega)
    have f3 : decide ((n : Int) ≤ 90) = true := decide_eq_true (by omega)
    have f4 : decide ((n : Int) = 95) = false := decide_eq_false (by omega)
    have g4 : ((n : Int) == 95) = false := f4
    have f5 : decide ((48 : Int) ≤ n) = false := decide_eq_false (by omega)
    have f6 : decide ((n : Int) ≤ 57) = true := decide_eq_true (by omega)
    have f7 : decide ((n : Int) = 32) = false := decide_eq_false (by omega)
    have g7 : ((n : Int) == 32) = false := f7
    have f8 : decide ((n : Int) = 9) = false := decide_eq_false (by omega)
    have g8 : ((n : Int) == 9) = false := f8
    have f9 : decide ((n : Int) = 10) = false := decide_eq_false (by omega)
    have g9 : ((n : Int) == 10) = false := f9
    clear h HX
    go_enter Tryz.func63, Tryz.ntmps63
    go_wp2_with fail
    go_ret
    exact ⟨rfl, rfl⟩
  · have hv : x = 3 := by
      rw [HX.out]; unfold classOf letN digN
      simp only [Bool.or_eq_true, Bool.and_eq_true, decide_eq_true_eq]
      (repeat' split) <;> omega
    subst hv
    have f0 : decide ((97 : Int) ≤ n) = false := decide_eq_false (by omega)
    have f1 : decide ((n : Int) ≤ 122) = true := decide_eq_true (by omega)
    have f2 : decide ((65 : Int) ≤ n) = false := decide_eq_false (by omega)
    have f3 : decide ((n : Int) ≤ 90) = true := decide_eq_true (by omega)
    have f4 : decide ((n : Int) = 95) = false := decide_eq_false (by omega)
    have g4 : ((n : Int) == 95) = false := f4
    have f5 : decide ((48 : Int) ≤ n) = false := decide_eq_false (by omega)
    have f6 : decide ((n : Int) ≤ 57) = true := decide_eq_true (by omega)
    have f7 : decide ((n : Int) = 32) = true := decide_eq_true (by omega)
    have g7 : ((n : Int) == 32) = true := f7
    have f8 : decide ((n : Int) = 9) = false := decide_eq_false (by omega)
    have g8 : ((n : Int) == 9) = false := f8
    have f9 : decide ((n : Int) = 10) = false := decide_eq_false (by omega)
    have g9 : ((n : Int) == 10) = false := f9
    clear h HX
    go_enter Tryz.func63, Tryz.ntmps63
    go_wp2_with fail
    go_ret
    exact ⟨rfl, rfl⟩
  · have hv : x = 0 := by
      rw [HX.out]; unfold classOf letN digN
      simp only [Bool.or_eq_true, Bool.and_eq_true, decide_eq_true_eq]
      (repeat' split) <;> omega
    subst hv
    have f0 : decide ((97 : Int) ≤ n) = false := decide_eq_false (by omega)
    have f1 : decide ((n : Int) ≤ 122) = true := decide_eq_true (by omega)
    have f2 : decide ((65 : Int) ≤ n) = false := decide_eq_false (by omega)
    have f3 : decide ((n : Int) ≤ 90) = true := decide_eq_true (by omega)
    have f4 : decide ((n : Int) = 95) = false := decide_eq_false (by omega)
    have g4 : ((n : Int) == 95) = false := f4
    have f5 : decide ((48 : Int) ≤ n) = false := decide_eq_false (by omega)
    have f6 : decide ((n : Int) ≤ 57) = true := decide_eq_true (by omega)
    have f7 : decide ((n : Int) = 32) = false := decide_eq_false (by omega)
    have g7 : ((n : Int) == 32) = false := f7
    have f8 : decide ((n : Int) = 9) = false := decide_eq_false (by omega)
    have g8 : ((n : Int) == 9) = false := f8
    have f9 : decide ((n : Int) = 10) = false := decide_eq_false (by omega)
    have g9 : ((n : Int) == 10) = false := f9
    clear h HX
    go_enter Tryz.func63, Tryz.ntmps63
    go_wp2_with fail
    go_ret
    exact ⟨rfl, rfl⟩
  · have hv : x = 2 := by
      rw [HX.out]; unfold classOf letN digN
      simp only [Bool.or_eq_true, Bool.and_eq_true, decide_eq_true_eq]
      (repeat' split) <;> omega
    subst hv
    have f0 : decide ((97 : Int) ≤ n) = false := decide_eq_false (by omega)
    have f1 : decide ((n : Int) ≤ 122) = true := decide_eq_true (by omega)
    have f2 : decide ((65 : Int) ≤ n) = false := decide_eq_false (by omega)
    have f3 : decide ((n : Int) ≤ 90) = true := decide_eq_true (by omega)
    have f4 : decide ((n : Int) = 95) = false := decide_eq_false (by omega)
    have g4 : ((n : Int) == 95) = false := f4
    have f5 : decide ((48 : Int) ≤ n) = true := decide_eq_true (by omega)
    have f6 : decide ((n : Int) ≤ 57) = true := decide_eq_true (by omega)
    have f7 : decide ((n : Int) = 32) = false := decide_eq_false (by omega)
    have g7 : ((n : Int) == 32) = false := f7
    have f8 : decide ((n : Int) = 9) = false := decide_eq_false (by omega)
    have g8 : ((n : Int) == 9) = false := f8
    have f9 : decide ((n : Int) = 10) = false := decide_eq_false (by omega)
    have g9 : ((n : Int) == 10) = false := f9
    clear h HX
    go_enter Tryz.func63, Tryz.ntmps63
    go_wp2_with fail
    go_ret
    exact ⟨rfl, rfl⟩
  · have hv : x = 0 := by
      rw [HX.out]; unfold classOf letN digN
      simp only [Bool.or_eq_true, Bool.and_eq_true, decide_eq_true_eq]
      (repeat' split) <;> omega
    subst hv
    have f0 : decide ((97 : Int) ≤ n) = false := decide_eq_false (by omega)
    have f1 : decide ((n : Int) ≤ 122) = true := decide_eq_true (by omega)
    have f2 : decide ((65 : Int) ≤ n) = false := decide_eq_false (by omega)
    have f3 : decide ((n : Int) ≤ 90) = true := decide_eq_true (by omega)
    have f4 : decide ((n : Int) = 95) = false := decide_eq_false (by omega)
    have g4 : ((n : Int) == 95) = false := f4
    have f5 : decide ((48 : Int) ≤ n) = true := decide_eq_true (by omega)
    have f6 : decide ((n : Int) ≤ 57) = false := decide_eq_false (by omega)
    have f7 : decide ((n : Int) = 32) = false := decide_eq_false (by omega)
    have g7 : ((n : Int) == 32) = false := f7
    have f8 : decide ((n : Int) = 9) = false := decide_eq_false (by omega)
    have g8 : ((n : Int) == 9) = false := f8
    have f9 : decide ((n : Int) = 10) = false := decide_eq_false (by omega)
    have g9 : ((n : Int) == 10) = false := f9
    clear h HX
    go_enter Tryz.func63, Tryz.ntmps63
    go_wp2_with fail
    go_ret
    exact ⟨rfl, rfl⟩
  · have hv : x = 1 := by
      rw [HX.out]; unfold classOf letN digN
      simp only [Bool.or_eq_true, Bool.and_eq_true, decide_eq_true_eq]
      (repeat' split) <;> omega
    subst hv
    have f0 : decide ((97 : Int) ≤ n) = false := decide_eq_false (by omega)
    have f1 : decide ((n : Int) ≤ 122) = true := decide_eq_true (by omega)
    have f2 : decide ((65 : Int) ≤ n) = true := decide_eq_true (by omega)
    have f3 : decide ((n : Int) ≤ 90) = true := decide_eq_true (by omega)
    have f4 : decide ((n : Int) = 95) = false := decide_eq_false (by omega)
    have g4 : ((n : Int) == 95) = false := f4
    have f5 : decide ((48 : Int) ≤ n) = true := decide_eq_true (by omega)
    have f6 : decide ((n : Int) ≤ 57) = false := decide_eq_false (by omega)
    have f7 : decide ((n : Int) = 32) = false := decide_eq_false (by omega)
    have g7 : ((n : Int) == 32) = false := f7
    have f8 : decide ((n : Int) = 9) = false := decide_eq_false (by omega)
    have g8 : ((n : Int) == 9) = false := f8
    have f9 : decide ((n : Int) = 10) = false := decide_eq_false (by omega)
    have g9 : ((n : Int) == 10) = false := f9
    clear h HX
    go_enter Tryz.func63, Tryz.ntmps63
    go_wp2_with fail
    go_ret
    exact ⟨rfl, rfl⟩
  · have hv : x = 0 := by
      rw [HX.out]; unfold classOf letN digN
      simp only [Bool.or_eq_true, Bool.and_eq_true, decide_eq_true_eq]
      (repeat' split) <;> omega
    subst hv
    have f0 : decide ((97 : Int) ≤ n) = false := decide_eq_false (by omega)
    have f1 : decide ((n : Int) ≤ 122) = true := decide_eq_true (by omega)
    have f2 : decide ((65 : Int) ≤ n) = true := decide_eq_true (by omega)
    have f3 : decide ((n : Int) ≤ 90) = false := decide_eq_false (by omega)
    have f4 : decide ((n : Int) = 95) = false := decide_eq_false (by omega)
    have g4 : ((n : Int) == 95) = false := f4
    have f5 : decide ((48 : Int) ≤ n) = true := decide_eq_true (by omega)
    have f6 : decide ((n : Int) ≤ 57) = false := decide_eq_false (by omega)
    have f7 : decide ((n : Int) = 32) = false := decide_eq_false (by omega)
    have g7 : ((n : Int) == 32) = false := f7
    have f8 : decide ((n : Int) = 9) = false := decide_eq_false (by omega)
    have g8 : ((n : Int) == 9) = false := f8
    have f9 : decide ((n : Int) = 10) = false := decide_eq_false (by omega)
    have g9 : ((n : Int) == 10) = false := f9
    clear h HX
    go_enter Tryz.func63, Tryz.ntmps63
    go_wp2_with fail
    go_ret
    exact ⟨rfl, rfl⟩
  · have hv : x = 1 := by
      rw [HX.out]; unfold classOf letN digN
      simp only [Bool.or_eq_true, Bool.and_eq_true, decide_eq_true_eq]
      (repeat' split) <;> omega
    subst hv
    have f0 : decide ((97 : Int) ≤ n) = false := decide_eq_false (by omega)
    have f1 : decide ((n : Int) ≤ 122) = true := decide_eq_true (by omega)
    have f2 : decide ((65 : Int) ≤ n) = true := decide_eq_true (by omega)
    have f3 : decide ((n : Int) ≤ 90) = false := decide_eq_false (by omega)
    have f4 : decide ((n : Int) = 95) = true := decide_eq_true (by omega)
    have g4 : ((n : Int) == 95) = true := f4
    have f5 : decide ((48 : Int) ≤ n) = true := decide_eq_true (by omega)
    have f6 : decide ((n : Int) ≤ 57) = false := decide_eq_false (by omega)
    have f7 : decide ((n : Int) = 32) = false := decide_eq_false (by omega)
    have g7 : ((n : Int) == 32) = false := f7
    have f8 : decide ((n : Int) = 9) = false := decide_eq_false (by omega)
    have g8 : ((n : Int) == 9) = false := f8
    have f9 : decide ((n : Int) = 10) = false := decide_eq_false (by omega)
    have g9 : ((n : Int) == 10) = false := f9
    clear h HX
    go_enter Tryz.func63, Tryz.ntmps63
    go_wp2_with fail
    go_ret
    exact ⟨rfl, rfl⟩
  · have hv : x = 0 := by
      rw [HX.out]; unfold classOf letN digN
      simp only [Bool.or_eq_true, Bool.and_eq_true, decide_eq_true_eq]
      (repeat' split) <;> omega
    subst hv
    have f0 : decide ((97 : Int) ≤ n) = false := decide_eq_false (by omega)
    have f1 : decide ((n : Int) ≤ 122) = true := decide_eq_true (by omega)
    have f2 : decide ((65 : Int) ≤ n) = true := decide_eq_true (by omega)
    have f3 : decide ((n : Int) ≤ 90) = false := decide_eq_false (by omega)
    have f4 : decide ((n : Int) = 95) = false := decide_eq_false (by omega)
    have g4 : ((n : Int) == 95) = false := f4
    have f5 : decide ((48 : Int) ≤ n) = true := decide_eq_true (by omega)
    have f6 : decide ((n : Int) ≤ 57) = false := decide_eq_false (by omega)
    have f7 : decide ((n : Int) = 32) = false := decide_eq_false (by omega)
    have g7 : ((n : Int) == 32) = false := f7
    have f8 : decide ((n : Int) = 9) = false := decide_eq_false (by omega)
    have g8 : ((n : Int) == 9) = false := f8
    have f9 : decide ((n : Int) = 10) = false := decide_eq_false (by omega)
    have g9 : ((n : Int) == 10) = false := f9
    clear h HX
    go_enter Tryz.func63, Tryz.ntmps63
    go_wp2_with fail
    go_ret
    exact ⟨rfl, rfl⟩
  · have hv : x = 1 := by
      rw [HX.out]; unfold classOf letN digN
      simp only [Bool.or_eq_true, Bool.and_eq_true, decide_eq_true_eq]
      (repeat' split) <;> omega
    subst hv
    have f0 : decide ((97 : Int) ≤ n) = true := decide_eq_true (by omega)
    have f1 : decide ((n : Int) ≤ 122) = true := decide_eq_true (by omega)
    have f2 : decide ((65 : Int) ≤ n) = true := decide_eq_true (by omega)
    have f3 : decide ((n : Int) ≤ 90) = false := decide_eq_false (by omega)
    have f4 : decide ((n : Int) = 95) = false := decide_eq_false (by omega)
    have g4 : ((n : Int) == 95) = false := f4
    have f5 : decide ((48 : Int) ≤ n) = true := decide_eq_true (by omega)
    have f6 : decide ((n : Int) ≤ 57) = false := decide_eq_false (by omega)
    have f7 : decide ((n : Int) = 32) = false := decide_eq_false (by omega)
    have g7 : ((n : Int) == 32) = false := f7
    have f8 : decide ((n : Int) = 9) = false := decide_eq_false (by omega)
    have g8 : ((n : Int) == 9) = false := f8
    have f9 : decide ((n : Int) = 10) = false := decide_eq_false (by omega)
    have g9 : ((n : Int) == 10) = false := f9
    clear h HX
    go_enter Tryz.func63, Tryz.ntmps63
    go_wp2_with fail
    go_ret
    exact ⟨rfl, rfl⟩
  · have hv : x = 0 := by
      rw [HX.out]; unfold classOf letN digN
      simp only [Bool.or_eq_true, Bool.and_eq_true, decide_eq_true_eq]
      (repeat' split) <;> omega
    subst hv
    have f0 : decide ((97 : Int) ≤ n) = true := decide_eq_true (by omega)
    have f1 : decide ((n : Int) ≤ 122) = false := decide_eq_false (by omega)
    have f2 : decide ((65 : Int) ≤ n) = true := decide_eq_true (by omega)
    have f3 : decide ((n : Int) ≤ 90) = false := decide_eq_false (by omega)
    have f4 : decide ((n : Int) = 95) = false := decide_eq_false (by omega)
    have g4 : ((n : Int) == 95) = false := f4
    have f5 : decide ((48 : Int) ≤ n) = true := decide_eq_true (by omega)
    have f6 : decide ((n : Int) ≤ 57) = false := decide_eq_false (by omega)
    have f7 : decide ((n : Int) = 32) = false := decide_eq_false (by omega)
    have g7 : ((n : Int) == 32) = false := f7
    have f8 : decide ((n : Int) = 9) = false := decide_eq_false (by omega)
    have g8 : ((n : Int) == 9) = false := f8
    have f9 : decide ((n : Int) = 10) = false := decide_eq_false (by omega)
    have g9 : ((n : Int) == 10) = false := f9
    clear h HX
    go_enter Tryz.func63, Tryz.ntmps63
    go_wp2_with fail
    go_ret
    exact ⟨rfl, rfl⟩
end Go.Proofs.YtminfdlhbecnhaaGreatDoor
