/- Plain: a number as bytes of seven bits. No program is in sight. -/
namespace Vi

/-- a number's bytes, the lowest seven bits first -/
def vbytes : Nat → Nat → List UInt8
  | 0, n => [UInt8.ofNat n]
  | f + 1, n => if n < 128 then [UInt8.ofNat n] else UInt8.ofNat (n % 128 + 128) :: vbytes f (n / 128)
def varint (n : Nat) : List UInt8 := vbytes 9 n

theorem vbytes_more (f : Nat) : ∀ n, n < 128 ^ (f + 1) → vbytes (f + 1) n = vbytes f n := by
  induction f with
  | zero => intro n h; simp only [vbytes]; rw [if_pos (by simpa using h)]
  | succ f ih =>
    intro n h
    rw [vbytes]
    conv => rhs; rw [vbytes]
    split
    · rfl
    · rw [ih (n / 128) (by rw [Nat.div_lt_iff_lt_mul (by omega)]; rw [Nat.pow_succ] at h; exact h)]

theorem varint_small {n : Nat} (h : n < 128) : varint n = [UInt8.ofNat n] := by
  unfold varint vbytes; rw [if_pos h]

theorem varint_step {n : Nat} (h : 128 ≤ n) (hn : n < 18446744073709551616) : varint n = UInt8.ofNat (n % 128 + 128) :: varint (n / 128) := by
  unfold varint
  rw [vbytes_more 8 (n / 128) (by
    have : (128 : Nat) ^ 9 = 9223372036854775808 := by decide
    omega)]
  conv => lhs; rw [vbytes]
  rw [if_neg (by omega)]

theorem vbytes_length (f : Nat) : ∀ n, 0 < (vbytes f n).length ∧ (vbytes f n).length ≤ f + 1 := by
  induction f with
  | zero => intro n; simp [vbytes]
  | succ f ih =>
    intro n
    have := ih (n / 128)
    simp only [vbytes]
    split
    · simp
    · simp; omega

theorem varint_length (n : Nat) : 0 < (varint n).length ∧ (varint n).length ≤ 10 := vbytes_length 9 n

end Vi
