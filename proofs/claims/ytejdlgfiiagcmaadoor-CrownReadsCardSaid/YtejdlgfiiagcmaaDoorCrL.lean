/- A slot that has rotted, plainly. -/
import Derived.Test.YtejdlgfiiagcmaaDoorCrK
import Derived.Test.YtejdlgfiiagcmaaDoorPreA
namespace Go.Proofs.YtejdlgfiiagcmaaDoor
open Go.RowKit

theorem turns8_far (s mask : Nat) (l : List UInt8) (j : Nat) : ∀ k, (∀ i, i < k → (s + i) / 8 ≠ j) → (turns8 s mask k l)[j]? = l[j]? := by
  intro k
  induction k with
  | zero => intro _; rfl
  | succ k ih =>
    intro h
    simp only [turns8]
    split
    · unfold turn8
      rw [List.getElem?_set_ne (h k (by omega))]
      exact ih fun i hi => h i (by omega)
    · exact ih fun i hi => h i (by omega)

/-- a bit that is turned is another one -/
theorem turn_flips (l : List Nat) (i : Nat) (h : i < 8 * l.length) : Crc.bitAt (Crc.turn l i) i = !Crc.bitAt l i := by
  unfold Crc.bitAt Crc.turn
  rw [List.getD_eq_getElem?_getD, List.getElem?_set_self (by omega), List.getD_eq_getElem?_getD]
  simp only [Option.getD_some, Nat.testBit_xor, Nat.testBit_two_pow_self, Bool.xor_true]

/-- where the mask has a bit, the turned bytes are other ones -/
theorem turned_ne (l : List UInt8) (s mask : Nat) (hm : mask ≠ 0) (hlt : mask < 4294967296) (hs : s + 32 ≤ 8 * l.length) : turns8 s mask 32 l ≠ l := by
  have key : ∀ k, k ≤ 32 → (∃ i, i < k ∧ mask / 2 ^ i % 2 = 1) → ∃ j, Crc.bitAt (nats (turns8 s mask k l)) j ≠ Crc.bitAt (nats l) j := by
    intro k
    induction k with
    | zero => rintro - ⟨i, hi, -⟩; omega
    | succ k ih =>
      rintro hk ⟨i, hi, hb⟩
      have hll : (nats l).length = l.length := by simp [nats]
      by_cases h1 : mask / 2 ^ k % 2 = 1
      · refine ⟨s + k, ?_⟩
        have e : turns8 s mask (k + 1) l = turn8 (turns8 s mask k l) (s + k) := if_pos ⟨by omega, h1⟩
        rw [e, nats_turn8, turn_flips _ _ (by
          have : (nats (turns8 s mask k l)).length = l.length := by rw [show (nats (turns8 s mask k l)).length = (turns8 s mask k l).length by simp [nats], length_turns8]
          rw [this]; omega)]
        have h2 : Crc.bitAt (nats (turns8 s mask k l)) (s + k) = Crc.bitAt (nats l) (s + k) := by
          rw [nats_turns8]
          by_cases h3 : Crc.bitAt (Crc.turns s mask k (nats l)) (s + k) = Crc.bitAt (nats l) (s + k)
          · exact h3
          · have := Crc.bitAt_turns s mask k (nats l) (s + k) h3
            omega
        rw [h2]
        cases Crc.bitAt (nats l) (s + k) <;> decide
      · have hik : i < k := by
          rcases Nat.lt_or_ge i k with h | h
          · exact h
          · have : i = k := by omega
            rw [this] at hb; exact absurd hb h1
        obtain ⟨j, hj⟩ := ih (by omega) ⟨i, hik, hb⟩
        have e : turns8 s mask (k + 1) l = turns8 s mask k l := if_neg (fun h => h1 h.2)
        exact ⟨j, by rw [e]; exact hj⟩
  have hex : ∃ i, i < 32 ∧ mask / 2 ^ i % 2 = 1 := by
    refine Classical.byContradiction fun hno => hm ?_
    refine Nat.eq_of_testBit_eq fun i => ?_
    rw [Nat.zero_testBit, Nat.testBit_eq_decide_div_mod_eq]
    rcases Nat.lt_or_ge i 32 with h | h
    · exact decide_eq_false fun h1 => hno ⟨i, h, h1⟩
    · have h2 : mask / 2 ^ i = 0 := Nat.div_eq_of_lt (Nat.lt_of_lt_of_le hlt (by
        have := Nat.pow_le_pow_right (show 0 < 2 by decide) h
        simpa using this))
      rw [h2]
      decide
  obtain ⟨j, hj⟩ := key 32 (Nat.le_refl _) hex
  intro h
  rw [h] at hj
  exact hj rfl
end Go.Proofs.YtejdlgfiiagcmaaDoor
