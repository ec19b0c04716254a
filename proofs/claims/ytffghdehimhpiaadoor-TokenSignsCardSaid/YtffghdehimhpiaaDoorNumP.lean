/- Plain: what is a number: by its digits, and as it is parsed and formatted. No program is in sight. -/
import Derived.Test.YtffghdehimhpiaaDoorTkP
import Derived.Test.YtffghdehimhpiaaDoorSpl
import Derived.Lib.ParseIntB
namespace Go.Proofs.YtffghdehimhpiaaDoor

def valFrom (a : Nat) (l : List UInt8) : Nat := l.foldl (fun n b => 10 * n + (b.toNat - 48)) a
theorem valOf_from (l : List UInt8) : valOf l = valFrom 0 l := rfl
theorem from_cons (a : Nat) (b : UInt8) (l : List UInt8) : valFrom a (b :: l) = valFrom (10 * a + (b.toNat - 48)) l := by
  unfold valFrom; rw [List.foldl_cons]
theorem from_ge (l : List UInt8) : ∀ a, a ≤ valFrom a l := by
  induction l with
  | nil => intro a; exact Nat.le_refl _
  | cons b l ih => intro a; exact Nat.le_trans (show a ≤ 10 * a + (b.toNat - 48) by omega) (ih (10 * a + (b.toNat - 48)))

theorem digN_iff (b : UInt8) : digN b.toNat = true ↔ 48 ≤ b.toNat ∧ b.toNat ≤ 57 := by
  unfold digN
  rw [Bool.and_eq_true, decide_eq_true_iff, decide_eq_true_iff]

theorem parse_ok (l : List UInt8) : ∀ a, (∀ b ∈ l, digN b.toNat = true) → valFrom a l ≤ 18446744073709551615 → Lib.parseUintM 18446744073709551615 a l = .ok (valFrom a l) := by
  induction l with
  | nil => intro a _ _; rfl
  | cons b l ih =>
    intro a hd hv
    obtain ⟨h1, h2⟩ := (digN_iff b).1 (hd b (by simp))
    have hg := from_ge l (10 * a + (b.toNat - 48))
    rw [from_cons] at hv
    rw [Lib.parseUintM, if_pos ⟨h1, h2⟩, if_neg (by omega), if_neg (by omega), show a * 10 + (b.toNat - 48) = 10 * a + (b.toNat - 48) by omega, ih _ (fun c hc => hd c (by simp [hc])) hv]
    rfl

theorem ok_parse (l : List UInt8) : ∀ a u, Lib.parseUintM 18446744073709551615 a l = .ok u → (∀ b ∈ l, digN b.toNat = true) ∧ u = valFrom a l := by
  induction l with
  | nil => intro a u h; cases h; exact ⟨fun b hb => by simp at hb, rfl⟩
  | cons b l ih =>
    intro a u h
    rw [Lib.parseUintM] at h
    split at h
    · next hd =>
      split at h
      · cases h
      · split at h
        · cases h
        · obtain ⟨e1, e2⟩ := ih _ _ h
          rw [show a * 10 + (b.toNat - 48) = 10 * a + (b.toNat - 48) by omega] at e2
          refine ⟨fun c hc => ?_, e2⟩
          rcases List.mem_cons.1 hc with rfl | hc
          · exact (digN_iff c).2 hd
          · exact e1 c hc
    · cases h

theorem part_sign {b : UInt8} (h : partN b.toNat = true) : b.toNat ≠ 43 ∧ b.toNat ≠ 45 := by
  constructor <;> intro e <;> rw [e] at h <;> revert h <;> decide

theorem parse_int (l : List UInt8) (hne : l ≠ []) (hp : ∀ b ∈ l, partN b.toNat = true) (v : Int) : Lib.parseIntB 64 l = .ok v ↔ (∀ b ∈ l, digN b.toNat = true) ∧ valOf l ≤ 9223372036854775807 ∧ v = valOf l := by
  cases l with
  | nil => exact absurd rfl hne
  | cons c r =>
    obtain ⟨s1, s2⟩ := part_sign (hp c (by simp))
    unfold Lib.parseIntB Lib.parseUintB
    simp only [s1, s2, or_self, if_false]
    rw [if_neg (by simp)]
    have e64 : 2 ^ 64 - 1 = 18446744073709551615 := rfl
    have e63 : 2 ^ (64 - 1) = 9223372036854775808 := rfl
    rw [e64, e63]
    cases hq : Lib.parseUintM 18446744073709551615 0 (c :: r) with
    | ok u =>
      obtain ⟨e1, e2⟩ := ok_parse _ _ _ hq
      rw [← valOf_from] at e2
      simp only [not_false_eq_true, true_and, false_and, if_false]
      by_cases hu : 9223372036854775808 ≤ u
      · rw [if_pos hu]
        constructor
        · intro h; cases h
        · rintro ⟨_, h, _⟩; omega
      · rw [if_neg hu]
        constructor
        · intro h; cases h; exact ⟨e1, by omega, by rw [e2]⟩
        · rintro ⟨_, _, h⟩; rw [h, e2]
    | _ =>
      constructor
      · intro h; cases h
      · rintro ⟨h1, h2, _⟩
        rw [valOf_from] at h2
        rw [parse_ok _ 0 h1 (by omega)] at hq
        cases hq

theorem val_snoc (m : List UInt8) (b : UInt8) : valOf (m ++ [b]) = 10 * valOf m + (b.toNat - 48) := by
  unfold valOf
  rw [List.foldl_append]
  rfl

theorem val_pos : ∀ (n : Nat) (l : List UInt8), l.length = n → l ≠ [] → (∀ b ∈ l, digN b.toNat = true) → (l.getD 0 0).toNat ≠ 48 → 1 ≤ valOf l := by
  intro n l _ hne hd h0
  cases l with
  | nil => exact absurd rfl hne
  | cons c r =>
    obtain ⟨h1, _⟩ := (digN_iff c).1 (hd c (by simp))
    have h0' : c.toNat ≠ 48 := h0
    rw [valOf_from, from_cons]
    have := from_ge r (10 * 0 + (c.toNat - 48))
    omega

theorem snoc_cases (l : List UInt8) (h : l ≠ []) : ∃ m b, l = m ++ [b] := ⟨l.dropLast, l.getLast h, (List.dropLast_concat_getLast h).symm⟩

theorem digit_of {b : UInt8} (h : digN b.toNat = true) : UInt8.ofNat (48 + (b.toNat - 48)) = b := by
  obtain ⟨h1, h2⟩ := (digN_iff b).1 h
  rw [show 48 + (b.toNat - 48) = b.toNat by omega]
  exact UInt8.ofNat_toNat

theorem dec_val : ∀ (n : Nat) (l : List UInt8), l.length = n → l ≠ [] → (∀ b ∈ l, digN b.toNat = true) → (l.length = 1 ∨ (l.getD 0 0).toNat ≠ 48) → Lib.decDigits (valOf l) = l := by
  intro n
  induction n with
  | zero => intro l h hne; exact absurd (List.eq_nil_of_length_eq_zero h) hne
  | succ n ih =>
    intro l h hne hd h0
    obtain ⟨m, b, rfl⟩ := snoc_cases l hne
    have hb := hd b (by simp)
    obtain ⟨b1, b2⟩ := (digN_iff b).1 hb
    rw [val_snoc]
    by_cases hm : m = []
    · subst hm
      rw [Lib.decDigits, dif_pos (show 10 * valOf [] + (b.toNat - 48) < 10 by show 10 * 0 + _ < 10; omega)]
      show [UInt8.ofNat (48 + (10 * 0 + (b.toNat - 48)))] = [b]
      rw [show 10 * 0 + (b.toNat - 48) = b.toNat - 48 by omega, digit_of hb]
    · have hl : m.length = n := by simpa using h
      have h0' : (m.getD 0 0).toNat ≠ 48 := by
        rcases h0 with h0 | h0
        · have : m.length = 0 := by simpa using h0
          exact absurd (List.eq_nil_of_length_eq_zero this) hm
        · cases m with
          | nil => exact absurd rfl hm
          | cons c r => exact h0
      have hdm : ∀ b ∈ m, digN b.toNat = true := fun c hc => hd c (by simp [hc])
      have hv := val_pos n m hl hm hdm h0'
      rw [Lib.decDigits, dif_neg (by omega), show (10 * valOf m + (b.toNat - 48)) / 10 = valOf m by omega, show (10 * valOf m + (b.toNat - 48)) % 10 = b.toNat - 48 by omega, ih m hl hm hdm (.inr h0'), digit_of hb]

theorem dec_head (v : Nat) (h : 1 ≤ v) : ((Lib.decDigits v).getD 0 0).toNat ≠ 48 := by
  induction v using Nat.strongRecOn with
  | _ v ih =>
    rw [Lib.decDigits]
    split
    · next hv =>
      show (UInt8.ofNat (48 + v)).toNat ≠ 48
      rw [u8dig v hv]; omega
    · next hv =>
      have := ih (v / 10) (by omega) (by omega)
      cases hd : Lib.decDigits (v / 10) with
      | nil => exact absurd hd (dec_ne _)
      | cons c r => rw [hd] at this; exact this

theorem dec_short {v : Nat} (h : v ≤ 9223372036854775807) : (Lib.decDigits v).length ≤ 19 := by
  rw [Lib.decDigits_length]
  rcases Nat.eq_zero_or_pos v with rfl | h1
  · rw [Lib.nDigits_small (by omega)]; omega
  · rcases Nat.lt_or_ge (Lib.nDigits v) 20 with h2 | h2
    · omega
    · exfalso
      have hlow : ∀ (k u : Nat), Lib.nDigits u = k + 1 → 1 ≤ u → 10 ^ k ≤ u := by
        intro k
        induction k with
        | zero => intro u _ hu; simpa using hu
        | succ k ih =>
          intro u hu h1
          by_cases h10 : u < 10
          · rw [Lib.nDigits_small h10] at hu; omega
          · rw [Lib.nDigits_big h10] at hu
            have := ih (u / 10) (by omega) (by omega)
            rw [Nat.pow_succ]
            omega
      have := hlow (Lib.nDigits v - 1) v (by omega) h1
      have h3 : (10 : Nat) ^ 19 ≤ 10 ^ (Lib.nDigits v - 1) := Nat.pow_le_pow_right (by omega) (by omega)
      have h4 : (10 : Nat) ^ 19 = 10000000000000000000 := rfl
      omega

/-- a number is what parses, and is formatted again the same -/
theorem num_prog (l : List UInt8) (hne : l ≠ []) (hp : ∀ b ∈ l, partN b.toNat = true) : numB l = true ↔ ∃ v, Lib.parseIntB 64 l = .ok v ∧ Lib.itoa v = l := by
  have hl : 1 ≤ l.length := by
    cases l with
    | nil => exact absurd rfl hne
    | cons _ _ => simp
  unfold numB
  simp only [Bool.and_eq_true, Bool.or_eq_true, decide_eq_true_eq, bne_iff_ne, List.all_eq_true]
  constructor
  · rintro ⟨⟨⟨⟨_, _⟩, h3⟩, h4⟩, h5⟩
    refine ⟨(valOf l : Int), (parse_int l hne hp _).2 ⟨h4, h5, rfl⟩, ?_⟩
    unfold Lib.itoa
    rw [if_neg (by omega)]
    show Lib.decDigits (valOf l) = l
    exact dec_val _ l rfl hne h4 h3
  · rintro ⟨v, h1, h2⟩
    obtain ⟨e1, e2, rfl⟩ := (parse_int l hne hp v).1 h1
    unfold Lib.itoa at h2
    rw [if_neg (by omega)] at h2
    have h2' : Lib.decDigits (valOf l) = l := h2
    refine ⟨⟨⟨⟨hl, ?_⟩, ?_⟩, e1⟩, e2⟩
    · have := dec_short e2; rw [h2'] at this; exact this
    · rcases Nat.eq_zero_or_pos (valOf l) with h0 | h0
      · left
        rw [← h2', h0, Lib.decDigits_one (by omega)]
        rfl
      · right
        have := dec_head _ h0
        rw [h2'] at this
        exact this

theorem num_val {l : List UInt8} {v : Int} (hne : l ≠ []) (hp : ∀ b ∈ l, partN b.toNat = true) (h : Lib.parseIntB 64 l = .ok v) : v = valOf l := ((parse_int l hne hp v).1 h).2.2
end Go.Proofs.YtffghdehimhpiaaDoor
