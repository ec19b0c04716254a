/- Plain: signs that stand one behind the other; a number's digits as a token. -/
import Derived.Test.YtffghdehimhpiaaDoorTkPlaceP
namespace Go.Proofs.YtffghdehimhpiaaDoor

/-- a byte that is none of a name's, no blank, and begins no note -/
def signy (b : UInt8) : Prop := classOf b.toNat = 0 ∧ b.toNat ≠ 35

theorem class_part (n : Nat) (h : classOf n = 0 ∨ classOf n = 3) : partN n = false := by
  unfold classOf at h
  unfold partN
  cases hl : letN n
  · cases hd : digN n
    · rfl
    · rw [hl, hd] at h
      simp at h
  · rw [hl] at h
    simp at h

theorem signy_tok {b : UInt8} {r : List UInt8} (h : signy b) (h3 : (tokAt (b :: r)).1 ≠ 0) : (tokAt (b :: r)).1 = 4 := by
  unfold tokAt at h3 ⊢
  have hp : partN ((b :: r).getD 0 0).toNat = false := class_part _ (.inl h.1)
  rw [hp, if_neg (by decide)] at h3 ⊢
  split
  · rfl
  · next h2 =>
    rw [if_neg h2] at h3
    split
    · rfl
    · next h1 => rw [if_neg h1] at h3; exact absurd rfl h3

theorem signs_toks : ∀ (f i : Nat) (l : List UInt8) (ts : List Tok), (∀ b ∈ l, signy b) → toks f i l = some ts → (∀ t ∈ ts, t.kind = 4) ∧ ts.flatMap Tok.text = l := by
  intro f
  induction f with
  | zero => intro i l ts _ h; cases h
  | succ f ih =>
    intro i l ts hl h
    cases l with
    | nil => cases h; exact ⟨fun t ht => by simp at ht, rfl⟩
    | cons b r =>
      have hb := hl b (by simp)
      rw [toks, if_neg (by rw [hb.1]; decide), if_neg hb.2] at h
      by_cases h3 : (tokAt (b :: r)).1 = 0
      · rw [if_pos h3] at h; cases h
      rw [if_neg h3] at h
      have h4 := signy_tok hb h3
      generalize tokAt (b :: r) = kn at *
      cases hq : toks f (i + kn.2) ((b :: r).drop kn.2) with
      | none => rw [hq] at h; cases h
      | some ts' =>
        rw [hq] at h
        cases h
        obtain ⟨e1, e2⟩ := ih _ _ _ (fun c hc => hl c (List.mem_of_mem_drop hc)) hq
        refine ⟨fun t ht => ?_, ?_⟩
        · rcases List.mem_cons.1 ht with rfl | ht
          · exact h4
          · exact e1 t ht
        · rw [List.flatMap_cons, e2]
          exact List.take_append_drop _ _

theorem rows_signy : ∀ r ∈ signRows, ∀ b ∈ r, signy b := by
  have h : (signRows.all fun r => r.all fun b => decide (classOf b.toNat = 0) && decide (b.toNat ≠ 35)) = true := by kernel_rfl
  intro r hr b hb
  have := (List.all_eq_true.1 ((List.all_eq_true.1 h) r hr)) b hb
  rw [Bool.and_eq_true, decide_eq_true_iff, decide_eq_true_iff] at this
  exact this

theorem dec_part (u : Nat) : ∀ b ∈ Lib.decDigits u, partN b.toNat = true := fun b hb => by
  unfold partN
  rw [(digN_iff b).2 (dec_digits u b hb), Bool.or_true]

theorem run_all (l : List UInt8) (h : ∀ b ∈ l, partN b.toNat = true) : runOf l = l.length := by
  induction l with
  | nil => rfl
  | cons b r ih =>
    have h2 := ih fun c hc => h c (by simp [hc])
    unfold runOf at h2 ⊢
    rw [List.takeWhile_cons, if_pos (h b (by simp)), List.length_cons, h2, List.length_cons]

theorem dec_num (u : Nat) (h : u ≤ 9223372036854775807) : numB (Lib.decDigits u) = true := by
  have hne := dec_ne u
  have hv : valOf (Lib.decDigits u) = u := valD_dec u
  refine (num_prog _ hne (dec_part u)).2 ⟨(u : Int), (parse_int _ hne (dec_part u) _).2 ⟨fun b hb => (digN_iff b).2 (dec_digits u b hb), by rw [hv]; exact h, by rw [hv]⟩, ?_⟩
  exact Lib.itoa_nonneg u

theorem let_dig {b : UInt8} (h : 48 ≤ b.toNat ∧ b.toNat ≤ 57) : letN b.toNat = false := by
  unfold letN
  simp only [Bool.or_eq_false_iff, Bool.and_eq_false_iff, decide_eq_false_iff_not]
  omega

theorem dec_kind (u : Nat) (h : u ≤ 9223372036854775807) : kindOf (Lib.decDigits u) = 2 := by
  unfold kindOf
  have hd := dec_digits u
  have hn := dec_num u h
  have hne := dec_ne u
  generalize Lib.decDigits u = l at *
  have h1 : shapedB l = false := by
    unfold shapedB
    cases l with
    | nil => exact absurd rfl hne
    | cons b r =>
      have : letN ((b :: r).getD 0 0).toNat = false := let_dig (hd b (by simp))
      rw [this]
      simp
  have h2 : tokWords.contains l = false := by
    have h : (tokWords.all fun r => letN (r.getD 0 0).toNat) = true := by kernel_rfl
    refine Bool.eq_false_iff.2 fun hc => ?_
    rw [List.contains_iff_mem] at hc
    have := List.all_eq_true.1 h _ hc
    cases l with
    | nil => exact hne rfl
    | cons b r =>
      rw [show ((b :: r).getD 0 0) = b from rfl, let_dig (hd b (by simp))] at this
      cases this
  rw [h1, h2, hn]
  rfl

theorem dec_toks (u : Nat) (h : u ≤ 9223372036854775807) : toksOf (Lib.decDigits u) = some [⟨2, Lib.decDigits u, 0⟩] := by
  have hk := dec_kind u h
  have hp := dec_part u
  have hr := run_all _ hp
  have hne := dec_ne u
  have hd := dec_digits u
  generalize Lib.decDigits u = l at *
  unfold toksOf toksFrom
  rw [List.drop_zero]
  cases l with
  | nil => exact absurd rfl hne
  | cons b r =>
    have hb := hd b (by simp)
    have hc : classOf b.toNat = 2 := (class_digit _).2 ((digN_iff b).2 hb)
    rw [toks, if_neg (by rw [hc]; decide), if_neg (by omega)]
    have ht : tokAt (b :: r) = (2, (b :: r).length) := by
      unfold tokAt
      rw [if_pos (show partN ((b :: r).getD 0 0).toNat = true from hp b (by simp)), hr, List.take_length, hk]
    rw [ht, if_neg (show ¬ (2, (b :: r).length).1 = 0 from fun h => by cases h), List.drop_length, List.take_length, List.length_cons]
    rfl
end Go.Proofs.YtffghdehimhpiaaDoor
