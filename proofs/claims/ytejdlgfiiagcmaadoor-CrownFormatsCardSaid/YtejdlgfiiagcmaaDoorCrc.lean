/- The plain mathematics of the sums: a bitwise step, its linearity, the table's way, and that a burst within 32 bits is seen. No program is in sight. -/
namespace Crc

def poly : Nat := 3988292384
def bit (s : Nat) : Nat := s / 2 ^^^ (if s % 2 = 1 then poly else 0)
def bits : Nat → Nat → Nat
  | 0, s => s
  | k + 1, s => bits k (bit s)
def step (s b : Nat) : Nat := bits 8 (s ^^^ b)
def run (s : Nat) (l : List Nat) : Nat := l.foldl step s
def ones : Nat := 4294967295
def crc (l : List Nat) : Nat := run ones l ^^^ ones

theorem mod2_xor (a b : Nat) : (a ^^^ b) % 2 = (a % 2 + b % 2) % 2 := by
  have h := Nat.testBit_xor a b 0
  rw [Nat.testBit_zero, Nat.testBit_zero, Nat.testBit_zero] at h
  rcases Nat.mod_two_eq_zero_or_one a with ha | ha <;> rcases Nat.mod_two_eq_zero_or_one b with hb | hb <;>
    rcases Nat.mod_two_eq_zero_or_one (a ^^^ b) with hc | hc <;> simp [ha, hb, hc] at h ⊢

theorem div2_xor (a b : Nat) : (a ^^^ b) / 2 = a / 2 ^^^ b / 2 := by
  have h := Nat.shiftRight_xor_distrib (a := a) (b := b) (i := 1)
  simpa [Nat.shiftRight_succ] using h

theorem divp_xor (a b k : Nat) : (a ^^^ b) / 2 ^ k = a / 2 ^ k ^^^ b / 2 ^ k := by
  have h := Nat.shiftRight_xor_distrib (a := a) (b := b) (i := k)
  simpa [Nat.shiftRight_eq_div_pow] using h

theorem bit_xor (a b : Nat) : bit (a ^^^ b) = bit a ^^^ bit b := by
  unfold bit
  rw [div2_xor, mod2_xor]
  rcases Nat.mod_two_eq_zero_or_one a with ha | ha <;> rcases Nat.mod_two_eq_zero_or_one b with hb | hb <;> simp [ha, hb]
  · ac_rfl
  · ac_rfl
  · rw [show a / 2 ^^^ poly ^^^ (b / 2 ^^^ poly) = (a / 2 ^^^ b / 2) ^^^ (poly ^^^ poly) by ac_rfl]; simp

theorem bit_zero : bit 0 = 0 := by decide
theorem bits_zero (k : Nat) : bits k 0 = 0 := by
  induction k with
  | zero => rfl
  | succ k ih => rw [bits, bit_zero]; exact ih

theorem bits_xor (k a b : Nat) : bits k (a ^^^ b) = bits k a ^^^ bits k b := by
  induction k generalizing a b with
  | zero => rfl
  | succ k ih => simp only [bits]; rw [bit_xor, ih]

theorem bits_add (j k s : Nat) : bits (j + k) s = bits k (bits j s) := by
  induction j generalizing s with
  | zero => simp [bits]
  | succ j ih => rw [show j + 1 + k = (j + k) + 1 by omega, bits, ih, bits]

theorem bit_lt {s : Nat} (h : s < 4294967296) : bit s < 4294967296 := by
  unfold bit
  have h2 : (4294967296 : Nat) = 2 ^ 32 := by decide
  rw [h2] at h ⊢
  refine Nat.xor_lt_two_pow (by omega) ?_
  split
  · decide
  · decide

theorem bits_lt {k s : Nat} (h : s < 4294967296) : bits k s < 4294967296 := by
  induction k generalizing s with
  | zero => exact h
  | succ k ih => exact ih (bit_lt h)

theorem xor_lt {a b : Nat} (ha : a < 4294967296) (hb : b < 4294967296) : a ^^^ b < 4294967296 := by
  have h2 : (4294967296 : Nat) = 2 ^ 32 := by decide
  rw [h2] at ha hb ⊢
  exact Nat.xor_lt_two_pow ha hb

theorem step_lt {s b : Nat} (h : s < 4294967296) (hb : b < 256) : step s b < 4294967296 :=
  bits_lt (xor_lt h (by omega))

theorem run_lt {l : List Nat} (hl : ∀ b ∈ l, b < 256) {s : Nat} (h : s < 4294967296) : run s l < 4294967296 := by
  induction l generalizing s with
  | nil => exact h
  | cons b l ih =>
    exact ih (fun x hx => hl x (List.mem_cons_of_mem _ hx)) (step_lt h (hl b List.mem_cons_self))

/-- the top bit of what comes tells the lowest of what was -/
theorem bit_eq_zero {s : Nat} (h : s < 4294967296) (h0 : bit s = 0) : s = 0 := by
  unfold bit at h0
  rcases Nat.mod_two_eq_zero_or_one s with hs | hs
  · rw [hs] at h0; simp at h0; omega
  · rw [hs] at h0
    simp only [if_true] at h0
    have ht := congrArg (fun n => Nat.testBit n 31) h0
    simp only [Nat.testBit_xor, Nat.zero_testBit] at ht
    have h1 : Nat.testBit (s / 2) 31 = false := Nat.testBit_lt_two_pow (by omega)
    have h2 : Nat.testBit poly 31 = true := by decide
    rw [h1, h2] at ht
    simp at ht

theorem bits_eq_zero {k s : Nat} (h : s < 4294967296) (h0 : bits k s = 0) : s = 0 := by
  induction k generalizing s with
  | zero => exact h0
  | succ k ih => exact bit_eq_zero h (ih (bit_lt h) h0)

theorem bit_even {s : Nat} (h : s % 2 = 0) : bit s = s / 2 := by simp [bit, h]

theorem bits_shift {k s : Nat} (h : s % 2 ^ k = 0) : bits k s = s / 2 ^ k := by
  induction k generalizing s with
  | zero => simp [bits]
  | succ k ih =>
    have hd : 2 ^ (k + 1) ∣ s := Nat.dvd_of_mod_eq_zero h
    obtain ⟨q, rfl⟩ := hd
    have e : 2 ^ (k + 1) * q = 2 * (2 ^ k * q) := by rw [Nat.pow_succ]; ac_rfl
    have he : (2 ^ (k + 1) * q) % 2 = 0 := by rw [e]; omega
    have e2 : 2 ^ (k + 1) * q / 2 = 2 ^ k * q := by rw [e]; omega
    rw [bits, bit_even he, e2, ih (by simp)]
    rw [Nat.mul_div_cancel_left _ (Nat.two_pow_pos _), Nat.mul_div_cancel_left _ (Nat.two_pow_pos _)]

theorem split256 (s : Nat) : s = (s / 256 * 256) ^^^ (s % 256) := by
  apply Nat.eq_of_testBit_eq
  intro i
  rw [Nat.testBit_xor, Nat.mul_comm (s / 256) 256, show (256 : Nat) = 2 ^ 8 by decide, Nat.testBit_two_pow_mul, Nat.testBit_mod_two_pow, Nat.testBit_div_two_pow]
  by_cases hi : 8 ≤ i
  · have h8 : ¬ i < 8 := by omega
    simp [hi, h8]
  · have h8 : i < 8 := by omega
    simp [hi, h8]

/-- a byte by the table -/
theorem step_table (s b : Nat) : step s b = s / 256 ^^^ step 0 (s % 256 ^^^ b) := by
  unfold step
  conv => lhs; rw [split256 s]
  rw [Nat.xor_assoc, bits_xor, Nat.zero_xor, bits_shift (k := 8) (by omega)]
  congr 1
  omega

theorem step_xor (s t a b : Nat) : step (s ^^^ t) (a ^^^ b) = step s a ^^^ step t b := by
  unfold step
  rw [show s ^^^ t ^^^ (a ^^^ b) = (s ^^^ a) ^^^ (t ^^^ b) by ac_rfl, bits_xor]

theorem run_append (s : Nat) (l m : List Nat) : run s (l ++ m) = run (run s l) m := by simp [run]

theorem run_zipXor (s t : Nat) (l m : List Nat) (h : l.length = m.length) :
    run (s ^^^ t) (List.zipWith (· ^^^ ·) l m) = run s l ^^^ run t m := by
  induction l generalizing s t m with
  | nil => cases m <;> simp_all [run]
  | cons a l ih =>
    cases m with
    | nil => simp at h
    | cons b m =>
      simp only [List.zipWith_cons_cons, run, List.foldl_cons]
      rw [step_xor]
      exact ih _ _ _ (by simpa using h)


/-! ### Bit by bit -/

def b2n (b : Bool) : Nat := if b then 1 else 0
def runBits (s : Nat) (l : List Bool) : Nat := l.foldl (fun s b => bit (s ^^^ b2n b)) s
def word : List Bool → Nat
  | [] => 0
  | b :: l => b2n b + 2 * word l
def bitsOf (b : Nat) : List Bool := (List.range 8).map fun i => b.testBit i
def allBits (l : List Nat) : List Bool := l.flatMap bitsOf

theorem b2n_le (b : Bool) : b2n b ≤ 1 := by cases b <;> decide

theorem word_lt (l : List Bool) : word l < 2 ^ l.length := by
  induction l with
  | nil => simp [word]
  | cons b l ih => simp only [word, List.length_cons, Nat.pow_succ]; have := b2n_le b; omega

theorem xor_low (x : Nat) (b : Bool) : b2n b + 2 * x = (2 * x) ^^^ b2n b := by
  have h1 := div2_xor (2 * x) (b2n b)
  have h2 := mod2_xor (2 * x) (b2n b)
  have hb := b2n_le b
  have e1 : 2 * x / 2 = x := by omega
  have e2 : b2n b / 2 = 0 := by omega
  rw [e1, e2, Nat.xor_zero] at h1
  omega

theorem bit_double {x : Nat} : bit (2 * x) = x := by
  rw [bit_even (by omega)]; omega

theorem runBits_word (l : List Bool) : ∀ s, runBits s l = bits l.length (s ^^^ word l) := by
  induction l with
  | nil => intro s; simp [runBits, bits, word]
  | cons b l ih =>
    intro s
    have h := ih (bit (s ^^^ b2n b))
    simp only [runBits, List.foldl_cons, List.length_cons, bits] at h ⊢
    rw [h]
    congr 1
    simp only [word]
    rw [xor_low, show s ^^^ (2 * word l ^^^ b2n b) = (s ^^^ b2n b) ^^^ (2 * word l) by ac_rfl, bit_xor (s ^^^ b2n b) (2 * word l), bit_double]

theorem runBits_append (s : Nat) (l m : List Bool) : runBits s (l ++ m) = runBits (runBits s l) m := by simp [runBits]

theorem word_bitsOf {b : Nat} (h : b < 256) : word (bitsOf b) = b := by
  have e : bitsOf b = [b.testBit 0, b.testBit 1, b.testBit 2, b.testBit 3, b.testBit 4, b.testBit 5, b.testBit 6, b.testBit 7] := rfl
  have t (i : Nat) : b2n (b.testBit i) = b / 2 ^ i % 2 := by
    rw [Nat.testBit_eq_decide_div_mod_eq]
    rcases Nat.mod_two_eq_zero_or_one (b / 2 ^ i) with hh | hh <;> simp [b2n, hh]
  rw [e]
  simp only [word, t]
  omega

theorem length_bitsOf (b : Nat) : (bitsOf b).length = 8 := by simp [bitsOf]

theorem step_bits (s : Nat) {b : Nat} (h : b < 256) : step s b = runBits s (bitsOf b) := by
  rw [runBits_word, length_bitsOf, word_bitsOf h]; rfl

theorem run_bits (l : List Nat) (hl : ∀ b ∈ l, b < 256) : ∀ s, run s l = runBits s (allBits l) := by
  induction l with
  | nil => intro s; rfl
  | cons b l ih =>
    intro s
    have h := ih (fun x hx => hl x (List.mem_cons_of_mem _ hx)) (step s b)
    simp only [run, List.foldl_cons] at h ⊢
    rw [h, step_bits s (hl b List.mem_cons_self)]
    simp [allBits, runBits_append]

theorem runBits_none (s : Nat) (n : Nat) : runBits s (List.replicate n false) = bits n s := by
  induction n generalizing s with
  | zero => rfl
  | succ n ih => rw [List.replicate_succ]; simp only [runBits, List.foldl_cons, bits] at ih ⊢; simpa [b2n] using ih (bit s)

/-- WHAT LIES WITHIN 32 BITS IN A ROW IS SEEN. -/
theorem window (m k : Nat) (l : List Bool) (hl : l.length ≤ 32) (h : runBits 0 (List.replicate m false ++ l ++ List.replicate k false) = 0) : word l = 0 := by
  rw [runBits_append, runBits_append, runBits_none, runBits_none, bits_zero, runBits_word] at h
  simp only [Nat.zero_xor] at h
  have hw := word_lt l
  have h32 : (2 : Nat) ^ l.length ≤ 2 ^ 32 := Nat.pow_le_pow_right (by omega) hl
  have hlt : word l < 4294967296 := by
    have : (2 : Nat) ^ 32 = 4294967296 := by decide
    omega
  exact bits_eq_zero hlt (bits_eq_zero (bits_lt hlt) h)

end Crc
