/- Plain: where tokens stand; between two of them there is nothing but blanks and notes. -/
import Derived.Test.YtffghdehimhpiaaDoorTkVal
namespace Go.Proofs.YtffghdehimhpiaaDoor

theorem toks_up : ∀ (f i : Nat) (l : List UInt8) (x : List Tok), toks f i l = some x → toks (f + 1) i l = some x := by
  intro f
  induction f with
  | zero => intro i l x h; cases h
  | succ f ih =>
    intro i l x h
    cases l with
    | nil => exact h
    | cons b r =>
      rw [toks] at h ⊢
      by_cases h1 : classOf b.toNat = 3
      · rw [if_pos h1] at h ⊢
        exact ih _ _ _ h
      rw [if_neg h1] at h ⊢
      by_cases h2 : b.toNat = 35
      · rw [if_pos h2] at h ⊢
        exact ih _ _ _ h
      rw [if_neg h2] at h ⊢
      by_cases h3 : (tokAt (b :: r)).1 = 0
      · rw [if_pos h3] at h
        cases h
      rw [if_neg h3] at h ⊢
      cases hq : toks f (i + (tokAt (b :: r)).2) ((b :: r).drop (tokAt (b :: r)).2) with
      | none => rw [hq] at h; cases h
      | some ts =>
        rw [hq] at h
        rw [ih _ _ _ hq]
        exact h

theorem toks_many (k f i : Nat) (l : List UInt8) (x : List Tok) (h : toks f i l = some x) : toks (f + k) i l = some x := by
  induction k with
  | zero => exact h
  | succ k ih => exact toks_up _ _ _ _ ih

theorem toks_len (f i : Nat) (l : List UInt8) (x : List Tok) (h : toks f i l = some x) : toks (l.length + 1) i l = some x := by
  have h2 := toks_many (l.length + 1) f i l x h
  rwa [toks_fuel _ _ _ _ (Nat.le_refl _) (by omega)] at h2

/-- nothing but blanks and notes -/
def Gap (l : List UInt8) : Prop := ∀ j, toks (l.length + 1) j l = some []

theorem gap_nil : Gap [] := fun _ => rfl
theorem gap_blank {b : UInt8} {r : List UInt8} (h : classOf b.toNat = 3) (g : Gap r) : Gap (b :: r) := fun j => by
  rw [List.length_cons, toks, if_pos h]
  exact g _
theorem gap_note {b : UInt8} {r : List UInt8} (h : b.toNat = 35) (g : Gap ((b :: r).drop (noteOf (b :: r)))) : Gap (b :: r) := fun j => by
  rw [toks, if_neg (by rw [h]; decide), if_pos h]
  have hp := note_pos (r := r) h
  rw [toks_fuel _ (b :: r).length _ _ (Nat.le_refl _) (by rw [List.length_drop, List.length_cons]; omega)]
  exact g _

theorem note_take : ∀ (m : List UInt8) (q : Nat), noteOf m ≤ q → noteOf (m.take q) = noteOf m := by
  intro m
  induction m with
  | nil => intro q _; rw [List.take_nil]
  | cons b r ih =>
    intro q h
    unfold noteOf at h ⊢
    rw [List.takeWhile_cons] at h ⊢
    by_cases hb : (b.toNat != 10) = true
    · rw [if_pos hb] at h ⊢
      cases q with
      | zero => rw [List.length_cons] at h; omega
      | succ q =>
        rw [List.take_succ_cons, List.takeWhile_cons, if_pos hb, List.length_cons, List.length_cons]
        rw [List.length_cons] at h
        have := ih q (by unfold noteOf; omega)
        unfold noteOf at this
        rw [this]
    · rw [if_neg hb]
      cases q with
      | zero => rfl
      | succ q => rw [List.take_succ_cons, List.takeWhile_cons, if_neg hb]

theorem note_len (m : List UInt8) : noteOf m ≤ m.length := by
  unfold noteOf
  exact List.Sublist.length_le (List.takeWhile_sublist _)

theorem toks_head : ∀ (f i : Nat) (m : List UInt8) (t : Tok) (ts : List Tok), toks f i m = some (t :: ts) →
    ∃ k f', t.pos = i + k ∧ k + t.text.length ≤ m.length ∧ t.text = (m.drop k).take t.text.length ∧ 0 < t.text.length ∧ toks f' (i + (k + t.text.length)) (m.drop (k + t.text.length)) = some ts ∧ Gap (m.take k) := by
  intro f
  induction f with
  | zero => intro i m t ts h; cases h
  | succ f ih =>
    intro i m t ts h
    cases m with
    | nil => rw [toks] at h; cases h
    | cons b r =>
      rw [toks] at h
      by_cases h1 : classOf b.toNat = 3
      · rw [if_pos h1] at h
        obtain ⟨k, f', e1, e2, e3, e4, e5, e6⟩ := ih _ _ _ _ h
        refine ⟨k + 1, f', by omega, by rw [List.length_cons]; omega, by rw [List.drop_succ_cons]; exact e3, e4, ?_, by rw [List.take_succ_cons]; exact gap_blank h1 e6⟩
        rw [show k + 1 + t.text.length = k + t.text.length + 1 by omega, List.drop_succ_cons, show i + (k + t.text.length + 1) = i + 1 + (k + t.text.length) by omega]
        exact e5
      rw [if_neg h1] at h
      by_cases h2 : b.toNat = 35
      · rw [if_pos h2] at h
        obtain ⟨k, f', e1, e2, e3, e4, e5, e6⟩ := ih _ _ _ _ h
        have hn := note_len (b :: r)
        have hp := note_pos (r := r) h2
        have ht := note_take (b :: r) (noteOf (b :: r) + k) (by omega)
        rw [List.length_drop] at e2
        rw [List.drop_drop] at e3 e5
        generalize hN : noteOf (b :: r) = n at *
        refine ⟨n + k, f', by omega, by omega, e3, e4, ?_, ?_⟩
        · rw [show i + (n + k + t.text.length) = i + n + (k + t.text.length) by omega, show n + k + t.text.length = n + (k + t.text.length) by omega]
          exact e5
        · obtain ⟨q, hq⟩ : ∃ q, n + k = q + 1 := ⟨n + k - 1, by omega⟩
          rw [hq] at ht ⊢
          rw [List.take_succ_cons] at ht ⊢
          refine gap_note h2 ?_
          rw [ht, ← List.take_succ_cons, ← hq, List.drop_take, show n + k - n = k by omega]
          exact e6
      rw [if_neg h2] at h
      by_cases h3 : (tokAt (b :: r)).1 = 0
      · rw [if_pos h3] at h
        cases h
      rw [if_neg h3] at h
      have hp := tok_pos h3
      have hl := tok_le (b :: r)
      generalize tokAt (b :: r) = kn at *
      cases hq : toks f (i + kn.2) ((b :: r).drop kn.2) with
      | none => rw [hq] at h; cases h
      | some ts' =>
        rw [hq] at h
        cases h
        have hlen : ((b :: r).take kn.2).length = kn.2 := by rw [List.length_take]; omega
        refine ⟨0, f, rfl, ?_, ?_, ?_, ?_, gap_nil⟩
        · simp only [hlen]; omega
        · simp only [hlen, List.drop_zero]
        · simp only [hlen]; omega
        · simp only [hlen, Nat.zero_add]; exact hq

theorem from_head {l : List UInt8} {i : Nat} {t : Tok} {ts : List Tok} (h : toksFrom l i = some (t :: ts)) (hi : i ≤ l.length) :
    i ≤ t.pos ∧ t.pos + t.text.length ≤ l.length ∧ t.text = (l.drop t.pos).take t.text.length ∧ 0 < t.text.length ∧ toksFrom l (t.pos + t.text.length) = some ts ∧ toksOf ((l.drop i).take (t.pos - i)) = some [] := by
  unfold toksFrom at h
  obtain ⟨k, f', e1, e2, e3, e4, e5, e6⟩ := toks_head _ _ _ _ _ h
  rw [List.length_drop] at e2
  rw [List.drop_drop] at e3 e5
  refine ⟨by omega, by omega, by rw [e1]; exact e3, e4, ?_, ?_⟩
  · unfold toksFrom
    rw [e1, show i + k + t.text.length = i + (k + t.text.length) by omega]
    exact toks_len _ _ _ _ e5
  · rw [e1, show i + k - i = k by omega]
    exact e6 0
theorem toks_bound_ : ∀ (f i : Nat) (l : List UInt8) (ts : List Tok), toks f i l = some ts → ts.length ≤ l.length ∧ ∀ t ∈ ts, t.text.length ≤ l.length := by
  intro f
  induction f with
  | zero => intro i l ts h; cases h
  | succ f ih =>
    intro i l ts h
    cases l with
    | nil => cases h; exact ⟨by simp, fun t ht => by simp at ht⟩
    | cons b r =>
      rw [toks] at h
      split at h
      · obtain ⟨h1, h2⟩ := ih _ _ _ h
        refine ⟨by rw [List.length_cons]; omega, fun t ht => ?_⟩
        have := h2 t ht
        rw [List.length_cons]
        omega
      · split at h
        · obtain ⟨h1, h2⟩ := ih _ _ _ h
          have hl : ((b :: r).drop (noteOf (b :: r))).length ≤ (b :: r).length := by rw [List.length_drop]; omega
          exact ⟨by omega, fun t ht => Nat.le_trans (h2 t ht) hl⟩
        · split at h
          · cases h
          · next h3 =>
            cases hq : toks f (i + (tokAt (b :: r)).2) ((b :: r).drop (tokAt (b :: r)).2) with
            | none => rw [hq] at h; cases h
            | some ts' =>
              rw [hq] at h
              cases h
              obtain ⟨h1, h2⟩ := ih _ _ _ hq
              have hp := tok_pos h3
              have hl : ((b :: r).drop (tokAt (b :: r)).2).length + 1 ≤ (b :: r).length := by rw [List.length_drop, List.length_cons]; omega
              refine ⟨by rw [List.length_cons]; omega, fun t ht => ?_⟩
              rcases List.mem_cons.1 ht with rfl | ht
              · exact Nat.le_trans (List.length_take_le _ _) (tok_le (b :: r))
              · have := h2 t ht; omega

end Go.Proofs.YtffghdehimhpiaaDoor
