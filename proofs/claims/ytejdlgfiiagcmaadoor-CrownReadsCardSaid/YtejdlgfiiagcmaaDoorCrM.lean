/- The disk's turning of bits is the burst's. -/
import Derived.Test.YtejdlgfiiagcmaaDoorCrL
import Derived.Test.YtejdlgfiiagcmaaDoorDkTurn
namespace Go.Proofs.YtejdlgfiiagcmaaDoor
open Go.RowKit

theorem turnAt_zero (l : List UInt8) (t : Nat) : turnAt l t 0 = l := by
  unfold turnAt
  rw [Nat.zero_mul]
  rcases Nat.lt_or_ge (t / 8) l.length with h | h
  · rw [List.getD_eq_getElem?_getD, List.getElem?_eq_getElem h]
    simp
  · rw [List.set_eq_of_length_le h]

theorem turnAt_one (l : List UInt8) (t : Nat) : turnAt l t 1 = turn8 l t := by
  unfold turnAt turn8
  rw [Nat.one_mul]

/-- the disk's turning is the burst's -/
theorem turnOf_is (l : List UInt8) (s mask : Nat) : ∀ k, s + k ≤ 8 * l.length → turnOf l s mask k = turns8 s mask k l := by
  intro k
  induction k with
  | zero => intro _; rfl
  | succ k ih =>
    intro h
    show turnAt (turnOf l s mask k) (s + k) (mask / 2 ^ k % 2) = if s + k < 8 * l.length ∧ mask / 2 ^ k % 2 = 1 then turn8 (turns8 s mask k l) (s + k) else turns8 s mask k l
    rw [ih (by omega)]
    rcases (by omega : mask / 2 ^ k % 2 = 0 ∨ mask / 2 ^ k % 2 = 1) with h0 | h1
    · rw [h0, turnAt_zero, if_neg (by rintro ⟨-, h⟩; cases h)]
    · rw [h1, turnAt_one, if_pos ⟨by omega, rfl⟩]
end Go.Proofs.YtejdlgfiiagcmaaDoor
