/- Plain: what a number off the front is: the bytes that would be laid of it. No program is in sight. -/
import Derived.Test.YtddhnenlfdpomaaSizesP
import Derived.Test.YtddhnenlfdpomaaNumber
namespace Go.Proofs.Ytddhnenlfdpomaa
open Go.RowKit

theorem dec_shape (p : List UInt8) : ∀ (i m n : Nat) (r : List UInt8), m < 128 ^ i → Rd.dec i m p = some (n, r) →
    ∃ q, n = m + q * 128 ^ i ∧ p = Vi.varint q ++ r ∧ (i = 0 ∨ 0 < q) ∧ n < 18446744073709551616 := by
  induction p with
  | nil => intro i m n r _ h; cases h
  | cons b l ih =>
    intro i m n r hm h
    have hB : b.toNat < 256 := b.toNat_lt
    rw [Rd.dec] at h
    split at h
    · cases h
    · rename_i hc
      have hi : i ≤ 9 := by omega
      have hl : i < 9 ∨ b.toNat % 128 ≤ 1 := by omega
      obtain ⟨_, h64, h128, _⟩ := dec_or i m b.toNat hi hm hl
      split at h
      · rename_i hb
        cases h
        refine ⟨b.toNat, by rw [Nat.mod_eq_of_lt hb], ?_, by omega, h64⟩
        rw [Vi.varint_small hb]
        simp
      · rename_i hb
        obtain ⟨q, h1, h2, h3, h4⟩ := ih (i + 1) _ n r h128 h
        have hq : 0 < q := by omega
        have e : n = m + (b.toNat % 128 + 128 * q) * 128 ^ i := by
          rw [h1, Nat.pow_succ, Nat.add_mul, Nat.add_assoc]
          congr 2
          rw [Nat.mul_comm (128 ^ i) 128, ← Nat.mul_assoc, Nat.mul_comm q 128]
        have hp : 0 < 128 ^ i := Nat.pow_pos (by omega)
        have hle : b.toNat % 128 + 128 * q ≤ (b.toNat % 128 + 128 * q) * 128 ^ i := Nat.le_mul_of_pos_right _ hp
        refine ⟨b.toNat % 128 + 128 * q, e, ?_, .inr (by omega), h4⟩
        · rw [Vi.varint_step (by omega) (by omega), h2, List.cons_append]
          congr 1
          · rw [show (b.toNat % 128 + 128 * q) % 128 + 128 = b.toNat by omega]; simp
          · rw [show (b.toNat % 128 + 128 * q) / 128 = q by omega]

theorem dec_front {p r : List UInt8} {n : Nat} (h : Rd.dec 0 0 p = some (n, r)) : p = Vi.varint n ++ r ∧ n < 18446744073709551616 ∧ (numOf p).1 = n ∧ (numOf p).2 = (Vi.varint n).length ∧ 0 < (Vi.varint n).length := by
  obtain ⟨q, h1, h2, h3, h4⟩ := dec_shape p 0 0 n r (by simp) h
  have hq : q = n := by simp at h1; exact h1.symm
  subst hq
  refine ⟨h2, h4, by rw [numOf_some h], ?_, (Vi.varint_length q).1⟩
  rw [numOf_some h, h2]
  simp
end Go.Proofs.Ytddhnenlfdpomaa
