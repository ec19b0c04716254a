/- Plain: bytes of which some of 32 bits in a row are turned have another sum. No program is in sight. -/
import Derived.Test.YtejdlgfiiagcmaaDoorCrc
namespace Crc

/-- bit j of bytes -/
def bitAt (l : List Nat) (j : Nat) : Bool := (l.getD (j / 8) 0).testBit (j % 8)

theorem length_allBits (l : List Nat) : (allBits l).length = 8 * l.length := by
  induction l with
  | nil => rfl
  | cons b l ih =>
    have h : allBits (b :: l) = bitsOf b ++ allBits l := by simp [allBits]
    rw [h, List.length_append, ih, length_bitsOf, List.length_cons]; omega

theorem getElem_bitsOf (b i : Nat) (h : i < 8) : (bitsOf b)[i]? = some (b.testBit i) := by
  simp [bitsOf, h]

theorem getElem_allBits (l : List Nat) : ∀ j, j < 8 * l.length → (allBits l)[j]? = some (bitAt l j) := by
  induction l with
  | nil => intro j h; simp at h
  | cons b l ih =>
    intro j h
    have hc : allBits (b :: l) = bitsOf b ++ allBits l := by simp [allBits]
    rw [hc]
    by_cases hj : j < 8
    · rw [List.getElem?_append_left (by rw [length_bitsOf]; exact hj), getElem_bitsOf b j hj]
      unfold bitAt
      rw [show j / 8 = 0 by omega, show j % 8 = j by omega]
      rfl
    · rw [List.getElem?_append_right (by rw [length_bitsOf]; omega), length_bitsOf, ih (j - 8) (by rw [List.length_cons] at h; omega)]
      unfold bitAt
      rw [show j / 8 = (j - 8) / 8 + 1 by omega, show j % 8 = (j - 8) % 8 by omega]
      rfl

theorem word_zero {l : List Bool} (h : word l = 0) : ∀ j : Nat, l[j]? ≠ some true := by
  induction l with
  | nil => intro j; simp
  | cons b l ih =>
    have h1 : b2n b = 0 ∧ word l = 0 := by simp only [word] at h; omega
    intro j
    cases j with
    | zero => cases b <;> simp_all [b2n]
    | succ j => simpa using ih h1.2 j

theorem all_false {l : List Bool} (h : ∀ j : Nat, l[j]? ≠ some true) : l = List.replicate l.length false := by
  apply List.ext_getElem?
  intro j
  rw [List.getElem?_replicate]
  split
  · rename_i hj
    have := h j
    rw [List.getElem?_eq_getElem hj] at this ⊢
    cases hb : l[j] <;> simp_all
  · rename_i hj
    exact List.getElem?_eq_none (by omega)

/-- bits of which none is set but within 32 in a row, and of which the sum is nought: none is set -/
theorem window' (L : List Bool) (s : Nat) (hw : ∀ j : Nat, L[j]? = some true → s ≤ j ∧ j < s + 32) (h : runBits 0 L = 0) : ∀ j : Nat, L[j]? ≠ some true := by
  have hsplit : L = List.replicate (L.take s).length false ++ (L.drop s).take 32 ++ List.replicate ((L.drop s).drop 32).length false := by
    have h1 : L.take s = List.replicate (L.take s).length false := all_false (fun j hj => by
      rw [List.getElem?_take] at hj
      split at hj
      · have := hw j hj; omega
      · cases hj)
    have h2 : (L.drop s).drop 32 = List.replicate ((L.drop s).drop 32).length false := all_false (fun j hj => by
      rw [List.getElem?_drop, List.getElem?_drop] at hj
      have := hw _ hj
      omega)
    conv => lhs; rw [← List.take_append_drop s L, ← List.take_append_drop 32 (L.drop s), h1, h2]
    rw [List.append_assoc]
  rw [hsplit] at h
  have hz := word_zero (window _ _ _ (by rw [List.length_take]; omega) h)
  intro j hj
  obtain ⟨h1, h2⟩ := hw j hj
  apply hz (j - s)
  rw [List.getElem?_take, if_pos (by omega), List.getElem?_drop, show s + (j - s) = j by omega]
  exact hj

def turn (l : List Nat) (j : Nat) : List Nat := l.set (j / 8) (l.getD (j / 8) 0 ^^^ 2 ^ (j % 8))
def turns (s mask : Nat) : Nat → List Nat → List Nat
  | 0, l => l
  | k + 1, l => if s + k < 8 * l.length ∧ mask / 2 ^ k % 2 = 1 then turn (turns s mask k l) (s + k) else turns s mask k l

theorem length_turn (l : List Nat) (j : Nat) : (turn l j).length = l.length := by simp [turn]
theorem length_turns (s mask k : Nat) (l : List Nat) : (turns s mask k l).length = l.length := by
  induction k with
  | zero => rfl
  | succ k ih => simp only [turns]; split <;> simp [length_turn, ih]

theorem getD_lt {l : List Nat} (hl : ∀ b ∈ l, b < 256) (i : Nat) : l.getD i 0 < 256 := by
  rw [List.getD_eq_getElem?_getD]
  cases h : l[i]? with
  | none => simp
  | some b => exact hl b (List.mem_of_getElem? h)

theorem pow_lt8 {i : Nat} (h : i < 8) : 2 ^ i < 256 := by
  have := Nat.pow_le_pow_right (n := 2) (by omega) (show i ≤ 7 by omega)
  omega

theorem turn_lt {l : List Nat} (hl : ∀ b ∈ l, b < 256) (j : Nat) : ∀ b ∈ turn l j, b < 256 := by
  intro b hb
  rcases List.mem_or_eq_of_mem_set hb with h | h
  · exact hl b h
  · subst h
    exact Nat.xor_lt_two_pow (n := 8) (getD_lt hl _) (pow_lt8 (by omega))

theorem turns_lt {l : List Nat} (hl : ∀ b ∈ l, b < 256) (s mask k : Nat) : ∀ b ∈ turns s mask k l, b < 256 := by
  induction k with
  | zero => exact hl
  | succ k ih => simp only [turns]; split; exact turn_lt ih _; exact ih

theorem bitAt_turn (l : List Nat) (i j : Nat) (hne : i ≠ j) : bitAt (turn l i) j = bitAt l j := by
  unfold bitAt turn
  simp only [List.getD_eq_getElem?_getD, List.getElem?_set]
  by_cases h8 : i / 8 = j / 8
  · rw [if_pos h8]
    by_cases hl : i / 8 < l.length
    · rw [if_pos hl]
      simp only [Option.getD_some, Nat.testBit_xor, ← h8]
      have : Nat.testBit (2 ^ (i % 8)) (j % 8) = false := by
        rw [Nat.testBit_two_pow]
        simp; omega
      rw [this]; simp
    · rw [if_neg hl, ← h8, List.getElem?_eq_none (by omega)]
  · rw [if_neg h8]

theorem bitAt_turns (s mask k : Nat) (l : List Nat) (j : Nat) (h : bitAt (turns s mask k l) j ≠ bitAt l j) : s ≤ j ∧ j < s + k := by
  induction k with
  | zero => exact absurd rfl h
  | succ k ih =>
    simp only [turns] at h
    split at h
    · by_cases he : s + k = j
      · omega
      · rw [bitAt_turn _ _ _ he] at h
        have := ih h; omega
    · have := ih h; omega

theorem bitAt_zip (l m : List Nat) (h : l.length = m.length) (j : Nat) : bitAt (List.zipWith (· ^^^ ·) l m) j = (bitAt l j ^^ bitAt m j) := by
  unfold bitAt
  simp only [List.getD_eq_getElem?_getD, List.getElem?_zipWith]
  by_cases hj : j / 8 < l.length
  · rw [List.getElem?_eq_getElem hj, List.getElem?_eq_getElem (show j / 8 < m.length by omega)]
    simp [Nat.testBit_xor]
  · rw [List.getElem?_eq_none (by omega), List.getElem?_eq_none (show m.length ≤ j / 8 by omega)]
    simp

theorem bits_same {l m : List Nat} (h : l.length = m.length) (hl : ∀ b ∈ l, b < 256) (hm : ∀ b ∈ m, b < 256) (hb : ∀ j, j < 8 * l.length → bitAt l j = bitAt m j) : l = m := by
  apply List.ext_getElem h
  intro i h1 h2
  apply Nat.eq_of_testBit_eq
  intro t
  by_cases ht : t < 8
  · have := hb (8 * i + t) (by omega)
    unfold bitAt at this
    rw [show (8 * i + t) / 8 = i by omega, show (8 * i + t) % 8 = t by omega] at this
    simpa [List.getD_eq_getElem?_getD, List.getElem?_eq_getElem h1, List.getElem?_eq_getElem h2] using this
  · have hp : (256 : Nat) ≤ 2 ^ t := by
      have := Nat.pow_le_pow_right (n := 2) (by omega) (show 8 ≤ t by omega)
      omega
    rw [Nat.testBit_lt_two_pow (Nat.lt_of_lt_of_le (hl _ (List.getElem_mem h1)) hp), Nat.testBit_lt_two_pow (Nat.lt_of_lt_of_le (hm _ (List.getElem_mem h2)) hp)]

/-- WHAT HAS ROTTED IS SHOWN: one sum for both: then nothing is turned. -/
theorem burst {l m : List Nat} (s : Nat) (hlen : l.length = m.length) (hl : ∀ b ∈ l, b < 256) (hm : ∀ b ∈ m, b < 256)
    (hw : ∀ j, bitAt m j ≠ bitAt l j → s ≤ j ∧ j < s + 32) (h : run ones l = run ones m) : l = m := by
  have hz := run_zipXor ones ones l m hlen
  rw [h, Nat.xor_self, Nat.xor_self] at hz
  have hzl : ∀ b ∈ List.zipWith (· ^^^ ·) l m, b < 256 := by
    intro b hb
    obtain ⟨i, hi, rfl⟩ := List.mem_iff_getElem.1 hb
    rw [List.getElem_zipWith]
    rw [List.length_zipWith] at hi
    exact Nat.xor_lt_two_pow (n := 8) (hl _ (List.getElem_mem (by omega))) (hm _ (List.getElem_mem (by omega)))
  rw [run_bits _ hzl] at hz
  have hlz : (List.zipWith (· ^^^ ·) l m).length = l.length := by rw [List.length_zipWith]; omega
  have key := window' _ s (fun j hj => by
    have hj8 : j < 8 * l.length := by
      have := (List.getElem?_eq_some_iff.1 hj).1
      rw [length_allBits, hlz] at this
      exact this
    rw [getElem_allBits _ j (by rw [hlz]; exact hj8), bitAt_zip l m hlen] at hj
    refine hw j (fun e => ?_)
    rw [e] at hj
    simp at hj) hz
  refine bits_same hlen hl hm (fun j hj => ?_)
  have := key j
  rw [getElem_allBits _ j (by rw [hlz]; exact hj), bitAt_zip l m hlen] at this
  cases h1 : bitAt l j <;> cases h2 : bitAt m j <;> simp_all

theorem word_append (a b : List Bool) : word (a ++ b) = word a + 2 ^ a.length * word b := by
  induction a with
  | nil => simp [word]
  | cons x a ih => simp only [List.cons_append, word, ih, List.length_cons, Nat.pow_succ, Nat.mul_add]; rw [← Nat.mul_assoc, Nat.mul_comm 2 (2 ^ a.length)]; omega

/-- the four bytes of a word, the lowest first, leave what the word's 32 bits leave -/
theorem run_word (s c : Nat) (hc : c < 4294967296) : run s [c % 256, c / 256 % 256, c / 65536 % 256, c / 16777216 % 256] = bits 32 (s ^^^ c) := by
  rw [run_bits _ (by intro b hb; simp at hb; omega), runBits_word]
  have e : word (allBits [c % 256, c / 256 % 256, c / 65536 % 256, c / 16777216 % 256]) = c := by
    simp only [allBits, List.flatMap_cons, List.flatMap_nil, List.append_nil, word_append, length_bitsOf]
    rw [word_bitsOf (by omega), word_bitsOf (by omega), word_bitsOf (by omega), word_bitsOf (by omega)]
    omega
  rw [e, length_allBits]
  rfl

/-- what is sealed leaves one and the same rest -/
theorem rest (l : List Nat) : run ones (l ++ [crc l % 256, crc l / 256 % 256, crc l / 65536 % 256, crc l / 16777216 % 256]) = bits 32 ones ∨ ¬ (∀ b ∈ l, b < 256) := by
  by_cases hl : ∀ b ∈ l, b < 256
  · left
    have h := run_lt hl (show ones < 4294967296 by decide)
    rw [run_append, run_word _ (crc l) (xor_lt h (by decide))]
    unfold crc
    rw [← Nat.xor_assoc, Nat.xor_self, Nat.zero_xor]
  · exact .inr hl

end Crc
