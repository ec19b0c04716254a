/- Walk: Least. -/
import Derived.Test.YtljdphpbalioaaaDoorGrO
namespace Go.Proofs.YtljdphpbalioaaaDoor
open Go.RowKit

set_option maxRecDepth 10000 in
theorem least_any (x : Nat) (w : World) : Calls Tryd.prog 11 #[.int .u64 x] w fun e w' => e = .returned (.int .u64 (max x 1 : Nat)) ∧ w' = w := by
  obtain ⟨R, hR⟩ : ∃ R, R = max x 1 := ⟨_, rfl⟩
  rw [← hR]
  have HR := Lib.hid hR
  clear hR
  go_enter Tryd.func11, Tryd.ntmps11
  by_cases h : x < 1
  · have e1 : decide ((x : Int) < 1) = true := decide_eq_true (by omega)
    have hr : R = 1 := by have := HR.out; omega
    have h0 : x = 0 := by omega
    subst h0
    subst hr
    go_wp2_with fail
    go_ret
    exact ⟨rfl, rfl⟩
  · have e1 : decide ((x : Int) < 1) = false := decide_eq_false (by omega)
    have e2 : decide ((1 : Int) < x) = true ∨ x = 1 := by by_cases h2 : x = 1; exact .inr h2; exact .inl (decide_eq_true (by omega))
    have hr : R = x := by have := HR.out; omega
    subst hr
    go_wp2_with fail
    go_ret
    exact ⟨by simp; omega, rfl⟩
end Go.Proofs.YtljdphpbalioaaaDoor
