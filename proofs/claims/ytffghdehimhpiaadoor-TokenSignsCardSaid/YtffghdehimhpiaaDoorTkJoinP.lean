/- Plain: tokens with something between are read again, the same. -/
import Derived.Test.YtffghdehimhpiaaDoorTkSignP
namespace Go.Proofs.YtffghdehimhpiaaDoor

def shapeOf (ts : List Tok) : List (Nat × List UInt8) := ts.map fun t => (t.kind, t.text)

/-- a text is read as these -/
def ReadsAs (l : List UInt8) (ks : List (Nat × List UInt8)) : Prop := ∀ i, ∃ f ts, toks f i l = some ts ∧ shapeOf ts = ks

theorem ReadsAs.of {l : List UInt8} {ks : List (Nat × List UInt8)} (h : ReadsAs l ks) : ∃ ts, toksOf l = some ts ∧ shapeOf ts = ks := by
  obtain ⟨f, ts, h1, h2⟩ := h 0
  refine ⟨ts, ?_, h2⟩
  unfold toksOf toksFrom
  rw [List.drop_zero]
  exact toks_len _ _ _ _ h1

theorem reads_nil : ReadsAs [] [] := fun _ => ⟨1, [], rfl, rfl⟩
theorem reads_blank {b : UInt8} {r : List UInt8} {ks : List (Nat × List UInt8)} (hb : classOf b.toNat = 3) (h : ReadsAs r ks) : ReadsAs (b :: r) ks := fun i => by
  obtain ⟨f, ts, h1, h2⟩ := h (i + 1)
  exact ⟨f + 1, ts, by rw [toks, if_pos hb]; exact h1, h2⟩

theorem note_app (u r : List UInt8) (hu : ∀ b ∈ u, b.toNat ≠ 10) : noteOf (u ++ 10 :: r) = u.length := by
  induction u with
  | nil => rfl
  | cons b u ih =>
    have h1 := ih fun c hc => hu c (by simp [hc])
    unfold noteOf at h1 ⊢
    rw [List.cons_append, List.takeWhile_cons, if_pos (by simpa using hu b (by simp)), List.length_cons, h1, List.length_cons]

theorem reads_note {u r : List UInt8} {ks : List (Nat × List UInt8)} (hu : ∀ b ∈ u, b.toNat ≠ 10) (h : ReadsAs r ks) : ReadsAs (35 :: (u ++ 10 :: r)) ks := fun i => by
  have hn : noteOf (35 :: (u ++ 10 :: r)) = u.length + 1 := note_app (35 :: u) r (fun b hb => by
    rcases List.mem_cons.1 hb with rfl | hb
    · decide
    · exact hu b hb)
  obtain ⟨f, ts, h1, h2⟩ := reads_blank (b := 10) (by decide) h (i + (u.length + 1))
  refine ⟨f + 1, ts, ?_, h2⟩
  rw [toks, if_neg (by decide), if_pos (by decide), hn, List.drop_succ_cons, List.drop_left]
  exact h1

/-- what can be a token -/
def GoodTok (k : Nat) (x : List UInt8) : Prop := x ≠ [] ∧ ((k = kindOf x ∧ k ≠ 0 ∧ ∀ b ∈ x, partN b.toNat = true) ∨ (k = 4 ∧ signRows.contains x = true))

theorem rows_len : ∀ r ∈ signRows, 1 ≤ r.length ∧ r.length ≤ 2 := by
  have h : (signRows.all fun r => decide (1 ≤ r.length) && decide (r.length ≤ 2)) = true := by kernel_rfl
  intro r hr
  have := List.all_eq_true.1 h r hr
  rw [Bool.and_eq_true, decide_eq_true_iff, decide_eq_true_iff] at this
  exact this

theorem run_app (x r : List UInt8) (hx : ∀ b ∈ x, partN b.toNat = true) (hr : r = [] ∨ ∃ s r', r = s :: r' ∧ classOf s.toNat = 3) : runOf (x ++ r) = x.length := by
  unfold runOf
  induction x with
  | nil =>
    rcases hr with rfl | ⟨s, r', rfl, hs⟩
    · rfl
    · rw [List.nil_append, List.takeWhile_cons, if_neg (by rw [class_part _ (.inr hs)]; decide)]
  | cons b x ih =>
    rw [List.cons_append, List.takeWhile_cons, if_pos (hx b (by simp)), List.length_cons, ih (fun c hc => hx c (by simp [hc])), List.length_cons]

theorem part_class_ {b : UInt8} (h : partN b.toNat = true) : classOf b.toNat ≠ 3 ∧ b.toNat ≠ 35 := by
  constructor
  · intro hc; rw [class_part _ (.inr hc)] at h; cases h
  · intro hc; rw [hc] at h; revert h; decide

theorem good_at {k : Nat} {x r : List UInt8} (h : GoodTok k x) (hr : r = [] ∨ ∃ s r', r = s :: r' ∧ classOf s.toNat = 3) : tokAt (x ++ r) = (k, x.length) ∧ classOf ((x ++ r).getD 0 0).toNat ≠ 3 ∧ ((x ++ r).getD 0 0).toNat ≠ 35 := by
  obtain ⟨hne, h⟩ := h
  obtain ⟨b, y, rfl⟩ := List.exists_cons_of_ne_nil hne
  have hg : (b :: y ++ r).getD 0 0 = b := rfl
  rw [hg]
  rcases h with ⟨rfl, -, hp⟩ | ⟨rfl, hc⟩
  · have hb := hp b (by simp)
    refine ⟨?_, (part_class_ hb).1, (part_class_ hb).2⟩
    unfold tokAt
    rw [hg, if_pos hb, run_app _ r hp hr, List.take_left]
  · have hm := List.contains_iff_mem.1 hc
    have hs := rows_signy _ hm
    have hb := hs b (by simp)
    have hlen := rows_len _ hm
    refine ⟨?_, by rw [hb.1]; decide, hb.2⟩
    unfold tokAt
    rw [hg, if_neg (by rw [class_part _ (.inl hb.1)]; decide)]
    cases y with
    | nil =>
      rcases hr with rfl | ⟨s, r', rfl, h3⟩
      · rw [List.append_nil, show ([b] : List UInt8).take 2 = [b] from rfl, if_pos hc]
      · have hno : signRows.contains (([b] ++ s :: r').take 2) = false := Bool.eq_false_iff.2 fun hq => by
          have := (rows_signy _ (List.contains_iff_mem.1 hq) s (by simp)).1
          rw [h3] at this
          cases this
        rw [hno, if_neg (by decide), show ([b] ++ s :: r').take 1 = [b] from rfl, if_pos hc]
    | cons c y =>
      have hy : y = [] := List.eq_nil_of_length_eq_zero (by have := hlen.2; simp only [List.length_cons] at this; omega)
      subst hy
      rw [show (b :: [c] ++ r).take 2 = [b, c] from rfl, if_pos hc]

theorem reads_tok {k : Nat} {x r : List UInt8} {ks : List (Nat × List UInt8)} (hg : GoodTok k x) (hr : r = [] ∨ ∃ s r', r = s :: r' ∧ classOf s.toNat = 3) (h : ReadsAs r ks) : ReadsAs (x ++ r) ((k, x) :: ks) := fun i => by
  obtain ⟨e1, e2, e3⟩ := good_at hg hr
  obtain ⟨f, ts, h1, h2⟩ := h (i + x.length)
  have hk : k ≠ 0 := by
    rcases hg.2 with ⟨_, h, _⟩ | ⟨h, _⟩
    · exact h
    · omega
  refine ⟨f + 1, ⟨k, x, i⟩ :: ts, ?_, by rw [← h2]; rfl⟩
  have hd : (x ++ r).drop x.length = r := List.drop_left
  have ht : (x ++ r).take x.length = x := List.take_left
  obtain ⟨b, y, hx⟩ := List.exists_cons_of_ne_nil hg.1
  generalize hm : x ++ r = m at *
  have hm2 : m = b :: (y ++ r) := by rw [← hm, hx]; rfl
  have hgd : m.getD 0 0 = b := by rw [hm2]; rfl
  rw [hgd] at e2 e3
  rw [hm2] at e1 hd ht ⊢
  rw [toks, if_neg e2, if_neg e3, e1, if_neg hk, hd, h1, ht]
  rfl

theorem take_self (r : List UInt8) (k : Nat) : r.take (r.take k).length = r.take k := by
  rw [List.length_take]
  rcases Nat.le_total k r.length with h | h
  · rw [Nat.min_eq_left h]
  · rw [Nat.min_eq_right h, List.take_length, List.take_of_length_le h]

theorem tok_good {l : List UInt8} {ts : List Tok} (h : toksOf l = some ts) : ∀ t ∈ ts, GoodTok t.kind t.text := fun t ht => by
  have hne := (tok_len h t ht).2.2.1
  obtain ⟨r, h1, h2, h3, h4⟩ := toks_mem _ _ _ _ h t ht
  refine ⟨hne, ?_⟩
  rw [h2, h3]
  unfold tokAt at h4 ⊢
  by_cases hp : partN (r.getD 0 0).toNat = true
  · rw [if_pos hp] at h4 ⊢
    exact .inl ⟨rfl, h4, run_parts r⟩
  · rw [if_neg hp] at h4 ⊢
    by_cases s2 : signRows.contains (r.take 2) = true
    · rw [if_pos s2]
      refine .inr ⟨rfl, ?_⟩
      have : r.take (r.take 2).length = r.take 2 := take_self r 2
      rw [this]
      exact s2
    · rw [if_neg s2] at h4 ⊢
      by_cases s1 : signRows.contains (r.take 1) = true
      · rw [if_pos s1]
        refine .inr ⟨rfl, ?_⟩
        have : r.take (r.take 1).length = r.take 1 := take_self r 1
        rw [this]
        exact s1
      · rw [if_neg s1] at h4
        exact absurd rfl h4

/-- the tokens with a text behind each -/
def wideOf (sep : List UInt8) : List Tok → List UInt8
  | [] => []
  | t :: ts => t.text ++ (sep ++ wideOf sep ts)

theorem wide_snoc (sep : List UInt8) (ts : List Tok) (t : Tok) : wideOf sep (ts ++ [t]) = wideOf sep ts ++ t.text ++ sep := by
  induction ts with
  | nil => simp [wideOf]
  | cons x ts ih => simp [wideOf, ih]

/-- what may stand between -/
def SepOk (sep : List UInt8) : Prop := (∃ s r, sep = s :: r ∧ classOf s.toNat = 3) ∧ ∀ r ks, ReadsAs r ks → ReadsAs (sep ++ r) ks

theorem reads_wide {sep : List UInt8} (hs : SepOk sep) : ∀ ts : List Tok, (∀ t ∈ ts, GoodTok t.kind t.text) → ReadsAs (wideOf sep ts) (shapeOf ts) := by
  intro ts
  induction ts with
  | nil => intro _; exact reads_nil
  | cons t ts ih =>
    intro h
    obtain ⟨⟨s, r, e, hc⟩, hr⟩ := hs
    refine reads_tok (h t (by simp)) (.inr ⟨s, r ++ wideOf sep ts, by rw [e]; rfl, hc⟩) (hr _ _ (ih fun x hx => h x (by simp [hx])))

theorem reads_join : ∀ ts : List Tok, (∀ t ∈ ts, GoodTok t.kind t.text) → ReadsAs (Lib.join (ts.map Tok.text) [32]) (shapeOf ts) := by
  intro ts
  induction ts with
  | nil => intro _; exact reads_nil
  | cons t ts ih =>
    intro h
    cases ts with
    | nil =>
      have := reads_tok (h t (by simp)) (.inl rfl) reads_nil
      rw [List.append_nil] at this
      rw [show Lib.join (List.map Tok.text [t]) [32] = t.text by simp [Lib.join]]
      exact this
    | cons u ts =>
      rw [List.map_cons, List.map_cons, join_two]
      exact reads_tok (h t (by simp)) (.inr ⟨32, _, rfl, by decide⟩) (reads_blank (by decide) (ih fun x hx => h x (by simp [hx])))

def sepRows : List (List UInt8) := [[32], [9], [10], [32, 35, 32, 120, 32, 33, 10], [32, 32]]
theorem sep_ok (j : Nat) (hj : j < 5) : SepOk (sepRows.getD j []) := by
  rcases (by omega : j = 0 ∨ j = 1 ∨ j = 2 ∨ j = 3 ∨ j = 4) with rfl | rfl | rfl | rfl | rfl
  · exact ⟨⟨_, _, rfl, by decide⟩, fun r ks h => reads_blank (by decide) h⟩
  · exact ⟨⟨_, _, rfl, by decide⟩, fun r ks h => reads_blank (by decide) h⟩
  · exact ⟨⟨_, _, rfl, by decide⟩, fun r ks h => reads_blank (by decide) h⟩
  · exact ⟨⟨_, _, rfl, by decide⟩, fun r ks h => reads_blank (by decide) (reads_note (u := [32, 120, 32, 33]) (by decide) h)⟩
  · exact ⟨⟨_, _, rfl, by decide⟩, fun r ks h => reads_blank (by decide) (reads_blank (by decide) h)⟩

theorem reads_none {l : List UInt8} {ks : List (Nat × List UInt8)} (h : ReadsAs l ks) : ReadsAs ([35, 32, 110, 111, 110, 101, 10] ++ l) ks := reads_note (u := [32, 110, 111, 110, 101]) (by decide) h
end Go.Proofs.YtffghdehimhpiaaDoor
