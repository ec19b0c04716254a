/- Crowns in a row, plainly: what stands on the disk behind k steps. -/
import Derived.Test.YtejdlgfiiagcmaaDoorCrJ
namespace Go.Proofs.YtejdlgfiiagcmaaDoor
open Go.RowKit

def cK (k : Nat) : Cr := ⟨1 + k, k % 2, k⟩
theorem cK_zero : cK 0 = Cr.first := rfl
theorem cK_ok (k : Nat) (h : k < 100) : (cK k).Ok := ⟨by show 1 + k < _; omega, by show k % 2 < 256; omega, by show k < _; omega⟩
theorem cK_half (k : Nat) : (cK k).half < 2 := Nat.mod_lt _ (by decide)
theorem cK_next (k : Nat) (h : k < 100) : (cK k).next = cK (k + 1) := by
  have h1 : ∀ x : Fin 2, x.val ^^^ 1 = 1 - x.val := by decide
  have h2 := h1 ⟨k % 2, Nat.mod_lt _ (by decide)⟩
  simp only at h2
  show (⟨(1 + k + 1) % 4294967296, k % 2 ^^^ 1, (k + 1) % 4294967296⟩ : Cr) = ⟨1 + (k + 1), (k + 1) % 2, k + 1⟩
  rw [h2, Nat.mod_eq_of_lt (show 1 + k + 1 < 4294967296 by omega), Nat.mod_eq_of_lt (show k + 1 < 4294967296 by omega)]
  congr 1 <;> omega

/-- the disk behind k steps -/
def dK : Nat → Dk
  | 0 => (Dk.new 10).formatted
  | k + 1 => (dK k).crowned (cK (k + 1))

theorem new10_facts : (Dk.new 10).safe.length = 10 ∧ (Dk.new 10).bound = false ∧ (Dk.new 10).left = 0 ∧ (Dk.new 10).wait = [] ∧ (Dk.new 10).count = 0 := ⟨List.length_replicate, rfl, rfl, rfl, rfl⟩

theorem formatted_easy (d : Dk) (hb : d.bound = false) (hl : d.left = 0) (hc : d.count ≤ 700000) (hw : d.wait.length ≤ 700000) : Easy d.formatted ∧ d.formatted.count ≤ d.count + 3 := by
  obtain ⟨e1, e2, e3, e4, e5, e6⟩ := fmtK_easy d hb (by rw [hl]; decide) (by rw [hl]; decide) 2
  have he : Easy (fmtK 2 d) := ⟨e1, e2, e3, by omega, by omega⟩
  exact ⟨crowned_easy _ _ he (by omega), by show (fmtK 2 d).count + 1 ≤ _; omega⟩

theorem dK_facts : ∀ k, k < 100 → (dK k).safe.length = 10 ∧ (dK k).wait = [] ∧ Easy (dK k) ∧ (dK k).count ≤ 3 + k := by
  intro k
  induction k with
  | zero =>
    intro _
    obtain ⟨f1, f2, f3, f4, f5⟩ := new10_facts
    obtain ⟨g1, g2, g3, g4⟩ := formatted_facts (Dk.new 10) (by rw [f1]; decide) f2 f3
    obtain ⟨h1, h2⟩ := formatted_easy (Dk.new 10) f2 f3 (by rw [f5]; decide) (by rw [f4]; decide)
    exact ⟨g3.trans f1, g4, h1, by rw [f5] at h2; exact h2⟩
  | succ k ih =>
    intro hk
    obtain ⟨i1, i2, i3, i4⟩ := ih (by omega)
    refine ⟨(crowned_length _ _).trans i1, rfl, crowned_easy _ _ i3 (by omega), ?_⟩
    show (dK k).count + 1 ≤ _
    omega

theorem dK_now (k : Nat) (h : k < 99) (j : Nat) : (dK (k + 1)).now j = if j = (cK (k + 1)).gen % 2 then seal8 (cK (k + 1)).page.raw else (dK k).now j := by
  obtain ⟨i1, i2, i3, i4⟩ := dK_facts k (by omega)
  show ((dK k).crowned (cK (k + 1))).now j = _
  rw [crowned_now _ _ (by rw [i1]; decide), synced_quiet _ i2]

/-- the newest stands in its own slot -/
theorem dK_new (k : Nat) (h : k < 99) : (dK k).now ((1 + k) % 2) = seal8 (cK k).page.raw := by
  cases k with
  | zero =>
    obtain ⟨f1, f2, f3, f4, f5⟩ := new10_facts
    obtain ⟨-, -, -, -, -, e6⟩ := fmtK_easy (Dk.new 10) f2 (by rw [f3]; decide) (by rw [f3]; decide) 2
    show ((fmtK 2 (Dk.new 10)).crowned Cr.first).now 1 = _
    rw [crowned_now _ _ (by rw [e6, f1]; decide), if_pos (by decide)]
    rfl
  | succ k =>
    rw [dK_now k (by omega), if_pos (show (1 + (k + 1)) % 2 = (cK (k + 1)).gen % 2 from rfl)]

/-- and the one before it, or noughts, in the other one -/
theorem dK_old (k : Nat) (h : k < 98) : (dK k).now (k % 2) = if k = 0 then blank512 else seal8 (cK (k - 1)).page.raw := by
  cases k with
  | zero =>
    obtain ⟨f1, f2, f3, f4, f5⟩ := new10_facts
    exact (formatted_facts (Dk.new 10) (by rw [f1]; decide) f2 f3).1
  | succ k =>
    rw [if_neg (by omega), dK_now k (by omega), if_neg (by show ¬ (k + 1) % 2 = (1 + (k + 1)) % 2; omega), show (k + 1) % 2 = (1 + k) % 2 by omega, dK_new k (by omega)]
    rfl

/-- each slot is right, and which crown it has -/
theorem dK_slot (k : Nat) (h : k < 98) (i : Nat) (hi : i < 2) : atOf ((dK k).now i) i = if i = (1 + k) % 2 then (cK k, true, 0) else if k = 0 then (.zero, false, 0) else (cK (k - 1), true, 0) := by
  by_cases he : i = (1 + k) % 2
  · rw [if_pos he, he, dK_new k (by omega)]
    exact atOf_crown (cK k) (cK_ok k (by omega)) (cK_half k)
  · have hk : i = k % 2 := by omega
    rw [if_neg he, hk, dK_old k h]
    by_cases h0 : k = 0
    · rw [if_pos h0, if_pos h0]; exact atOf_blank _
    · rw [if_neg h0, if_neg h0]
      have h1 := atOf_crown (cK (k - 1)) (cK_ok (k - 1) (by omega)) (cK_half _)
      rw [show (cK (k - 1)).gen % 2 = k % 2 by show (1 + (k - 1)) % 2 = k % 2; omega] at h1
      exact h1
end Go.Proofs.YtejdlgfiiagcmaaDoor
