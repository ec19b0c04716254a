/- Walks: the reference's Sum and low. -/
import Derived.Test.YtejdlgfiiagcmaaDoorSumC
namespace Go.Proofs.YtejdlgfiiagcmaaDoor
open Go.RowKit

theorem not_sub (s : Nat) (hs : s < 4294967296) : s ^^^ Crc.ones = 4294967295 - s := by
  have e1 : Crc.ones = 2 ^ 32 - 1 := by decide
  have e2 : 4294967295 - s = 2 ^ 32 - (s + 1) := by omega
  rw [e1, e2]
  apply Nat.eq_of_testBit_eq
  intro i
  rw [Nat.testBit_xor, Nat.testBit_two_pow_sub_one, Nat.testBit_two_pow_sub_succ (by omega)]
  by_cases hi : i < 32
  · simp [hi]
  · have h : s.testBit i = false := Nat.testBit_lt_two_pow (Nat.lt_of_lt_of_le hs (by
      have := Nat.pow_le_pow_right (n := 2) (by omega) (show 32 ≤ i by omega)
      omega))
    simp [hi, h]

theorem par (y b j : Nat) (hb : b < 256) : ((IntKind.u64.wrap ((y : Int) % 2 + (b : Int) / 2 ^ j)).tmod 2 == 1) = decide ((y + b / 2 ^ j) % 2 = 1) := by
  have h1 : (b : Int) / 2 ^ j = ((b / 2 ^ j : Nat) : Int) := by simp
  have h2 : b / 2 ^ j ≤ b := Nat.div_le_self _ _
  rw [h1]
  generalize b / 2 ^ j = c at *
  have h3 : IntKind.u64.wrap ((y : Int) % 2 + (c : Int)) = (((y % 2 + c : Nat)) : Int) := by
    rw [IntKind.wrap_u64]; omega
  rw [h3, Int.tmod_eq_emod_of_nonneg (by omega), Bool.eq_iff_iff]
  simp
  omega

theorem bits_next (j x y b : Nat) (h : Crc.bits j x = y ^^^ b / 2 ^ j) : Crc.bits (j + 1) x = (if (y + b / 2 ^ j) % 2 = 1 then y / 2 ^^^ Crc.poly else y / 2) ^^^ b / 2 ^ (j + 1) := by
  rw [Crc.bits_add, h]
  show Crc.bit _ = _
  unfold Crc.bit
  have h2 : b / 2 ^ j / 2 = b / 2 ^ (j + 1) := by rw [Nat.div_div_eq_div_mul, Nat.pow_succ]
  rw [Crc.div2_xor, Crc.mod2_xor, h2, show (y % 2 + b / 2 ^ j % 2) % 2 = (y + b / 2 ^ j) % 2 by omega]
  split
  · ac_rfl
  · simp

set_option maxRecDepth 10000 in
set_option maxHeartbeats 400000 in
theorem rsum_any (v : Value) (p : List UInt8) (w : World) (hv : Bytes w v p) :
    Calls Tryd.prog 45 #[v] w fun e w' => e = .returned (.int .u32 (crc8 p : Nat)) ∧ w' = w := by
  obtain ⟨a, c, rfl, hm, hc, _, hrow⟩ := hv
  unfold maxLen at hm
  have HR := Lib.hid hrow
  clear hrow
  go_enter Tryd.func45, Tryd.ntmps45
  go_wp2
  go_loop [3, 5, 6, 7, 10] (fun c _ _ _ i => ∃ k s : Nat, k ≤ p.length ∧ i = .int .i64 k ∧ s < 4294967296 ∧ Hid (s = st (p.take k)) ∧ c = .int .u64 s) (fun _ _ _ _ i => p.length - (intOf i).toNat)
  case atStart => exact ⟨0, 4294967295, by omega, rfl, by omega, Lib.hid rfl, rfl⟩
  case round =>
    obtain ⟨k, s, hk, rfl, hs, HS, rfl⟩ := hrel
    by_cases hlt : k < p.length
    · rcases HR.out with h0 | ⟨g, o, rfl, hcell⟩
      · subst h0; simp at hlt
      · obtain ⟨_, hu, rfl⟩ := hcell k _ (List.getElem?_eq_getElem hlt)
        clear hcell
        unfold B8 at hu
        have hts := st_snoc (p.take k) p[k]
        rw [← take_snoc_u8 _ _ hlt, ← HS.out] at hts
        have HT := Lib.hid hts
        clear hts
        have hb := p[k].toNat_lt
        have h256 : (2 : Nat) ^ 8 = 256 := by decide
        rw [h256] at hb
        clear h256
        generalize p[k].toNat = b at *
        go_wp2
        go_loop [3, 6, 7] (fun c i _ => ∃ j y : Nat, j ≤ 8 ∧ i = .int .i64 j ∧ y < 4294967296 ∧ Hid (Crc.bits j (s ^^^ b) = y ^^^ (b / 2 ^ j)) ∧ c = .int .u64 y) (fun _ i _ => 8 - (intOf i).toNat)
        case atStart => exact ⟨0, s, by omega, rfl, hs, Lib.hid (by simp [Crc.bits]), rfl⟩
        case round =>
          obtain ⟨j, y, hj, rfl, hy, HY, rfl⟩ := hrel
          by_cases hlt2 : j < 8
          · have hp := par y b j hb
            have hn := bits_next j _ y b HY.out
            by_cases hpar : (y + b / 2 ^ j) % 2 = 1
            · rw [decide_eq_true hpar] at hp
              rw [if_pos hpar] at hn
              have HN := Lib.hid hn
              have hx : bits .xor .u64 ((y : Int) / 2) 3988292384 = ((y / 2 ^^^ Crc.poly : Nat) : Int) := u64_xor_nat (y / 2) 3988292384 (by omega) (by omega)
              have hxl : y / 2 ^^^ Crc.poly < 4294967296 := Crc.xor_lt (by omega) (by decide)
              clear hpar hn HY
              go_wp2
              go_round
              case rel => exact ⟨j + 1, _, by omega, by go_num, hxl, HN, rfl⟩
              case measure => simp [intOf]; omega
            · rw [decide_eq_false hpar] at hp
              rw [if_neg hpar] at hn
              have HN := Lib.hid hn
              clear hpar hn HY
              go_wp2
              go_round
              case rel => exact ⟨j + 1, y / 2, by omega, by go_num, by omega, HN, by go_num⟩
              case measure => simp [intOf]; omega
          · have e : j = 8 := by omega
            subst e
            have h8 := HY.out
            rw [show b / 2 ^ 8 = 0 by omega, Nat.xor_zero] at h8
            have H8 := Lib.hid h8
            clear h8 HY
            go_wp2
            go_round
            case rel => exact ⟨k + 1, y, by omega, by go_num, hy, Lib.hid (by rw [HT.out, ← H8.out]; rfl), rfl⟩
            case measure => simp [intOf]; omega
    · have e : k = p.length := by omega
      subst e
      have hsum : (4294967295 : Int) - s = ((s ^^^ Crc.ones : Nat) : Int) := by
        have := not_sub s hs
        omega
      have hl := HS.out
      rw [List.take_length] at hl
      have HF : Hid (crc8 p = s ^^^ Crc.ones) := Lib.hid (by rw [hl]; rfl)
      have HSM := Lib.hid hsum
      clear hl hsum
      go_wp2
      go_ret
      refine ⟨?_, rfl⟩
      rw [HF.out, ← HSM.out]
      rfl

/-- a sum's bytes, the lowest first -/
def lows (n : Nat) : List UInt8 := [UInt8.ofNat (n % 256), UInt8.ofNat (n / 256 % 256), UInt8.ofNat (n / 65536 % 256), UInt8.ofNat (n / 16777216 % 256)]

theorem B8_ofNat (n : Nat) (h : n < 256) : B8 (UInt8.ofNat n) = .int .u8 (n : Int) := by
  unfold B8
  rw [UInt8.toNat_ofNat_of_lt' (by simpa using h)]

def lowCells (n : Nat) : Array Value := #[.int .u8 ((n : Int) % 256), .int .u8 ((n : Int) / 256 % 256), .int .u8 ((n : Int) / 65536 % 256), .int .u8 ((n : Int) / 16777216)]
theorem lows_lit (n : Nat) (hn : n < 4294967296) : (lowCells n).toList = (lows n).map B8 := by
  have e : n / 16777216 % 256 = n / 16777216 := by omega
  unfold lows lowCells
  simp only [List.map_cons, List.map_nil]
  rw [B8_ofNat _ (by omega), B8_ofNat _ (by omega), B8_ofNat _ (by omega), B8_ofNat _ (by omega), e]
  simp

set_option maxRecDepth 10000 in
set_option maxHeartbeats 400000 in
theorem low_any (n : Nat) (hn : n < 4294967296) (w : World) :
    Calls Tryd.prog 44 #[.int .u32 n] w fun e w' => ∃ v', e = .returned v' ∧ Own8 5 w.heap.size w' v' (lows n) ∧ Below w.heap.size w w' := by
  go_enter Tryd.func44, Tryd.ntmps44
  go_wp2
  go_ret
  exact ⟨_, rfl, own8_lit _ _ _ _ _ (lows_lit n hn) rfl (by simp [lows, maxLen]), (Below.refl _ _).alloc (Nat.le_refl _) _⟩
end Go.Proofs.YtejdlgfiiagcmaaDoor
