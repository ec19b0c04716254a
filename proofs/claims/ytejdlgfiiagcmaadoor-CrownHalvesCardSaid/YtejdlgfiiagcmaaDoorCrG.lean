/- Crowns: From. -/
import Derived.Test.YtejdlgfiiagcmaaDoorCrF
namespace Go.Proofs.YtejdlgfiiagcmaaDoor
open Go.RowKit

theorem and_one (x : Nat) (hx : x < 256) : bits .and .u8 (x : Int) 1 = ((x % 2 : Nat) : Int) := by
  have h : ∀ y : Fin 256, bits .and .u8 (y.val : Int) 1 = ((y.val % 2 : Nat) : Int) := by decide +kernel
  exact h ⟨x, hx⟩

/-- the first sector of a half, and how many -/
def Cr.from (c : Cr) (n : Nat) : Nat × Nat := if n < 4 then (0, 0) else (2 + c.half % 2 * ((n - 2) / 2), (n - 2) / 2)

set_option maxRecDepth 20000 in
set_option maxHeartbeats 800000 in
theorem from_any (c : Cr) (n : Nat) (hn : n < 65536) (hh : c.half < 256) (w : World) :
    Calls Tryd.prog 16 #[CrVal c, .int .i64 n] w fun e w' => e = .returned (.tuple #[.int .i64 (c.from n).1, .int .i64 (c.from n).2]) ∧ Below w.heap.size w w' := by
  unfold CrVal
  have hand := and_one c.half hh
  obtain ⟨m, hm⟩ : ∃ m, m = c.half % 2 := ⟨_, rfl⟩
  have hm2 : m < 2 := by omega
  rw [← hm] at hand
  by_cases h4 : n < 4
  · have hf : c.from n = (0, 0) := by unfold Cr.from; rw [if_pos h4]
    rw [hf]
    have hk : decide ((n : Int) < 4) = true := decide_eq_true (by omega)
    clear hf hm hm2 hand
    go_enter Tryd.func16, Tryd.ntmps16
    go_wp2_with fail
    go_ret2
    exact ⟨rfl, bal (bre w) _⟩
  · obtain ⟨k, hk⟩ : ∃ k, k = (n - 2) / 2 := ⟨_, rfl⟩
    have hf : c.from n = (2 + m * k, k) := by unfold Cr.from; rw [if_neg h4, ← hm, ← hk]
    rw [hf]
    have hk1 : decide ((n : Int) < 4) = false := decide_eq_false (by omega)
    have hd : ((n : Int) - 2) / 2 = (k : Int) := by omega
    have hk3 : k < 32768 := by omega
    have hmk : m * k < 32768 := by
      rcases (by omega : m = 0 ∨ m = 1) with rfl | rfl <;> omega
    have hmul : (m : Int) * (k : Int) = ((m * k : Nat) : Int) := by simp
    obtain ⟨z, hz⟩ : ∃ z, z = m * k := ⟨_, rfl⟩
    rw [← hz] at hmk hmul ⊢
    have HH := Lib.hid hh
    clear hf hm hk hz hh
    go_enter Tryd.func16, Tryd.ntmps16
    go_wp2_with fail
    rw [hd, show (2 : Int) + (z : Int) = ((2 + z : Nat) : Int) by omega]
    go_ret2
    exact ⟨rfl, bal (bre w) _⟩
end Go.Proofs.YtejdlgfiiagcmaaDoor
