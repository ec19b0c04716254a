/- Plain: the tokens of a text. No program is in sight but for the words' lists. -/
import Derived.Test.YtffghdehimhpiaaDoorClass8
import Derived.Test.YtffghdehimhpiaaDoorOpWords
namespace Go.Proofs.YtffghdehimhpiaaDoor

def partN (n : Nat) : Bool := letN n || digN n

/-- the bytes of a class at a text's beginning -/
def runOf (l : List UInt8) : Nat := (l.takeWhile fun b => partN b.toNat).length
def noteOf (l : List UInt8) : Nat := (l.takeWhile fun b => b.toNat != 10).length

def signRows : List (List UInt8) := [[40], [41], [123], [125], [46], [44], [59], [61], [33], [43], [45], [42], [47], [37], [60], [60, 61], [62], [62, 61], [61, 61], [33, 61], [38, 38], [124, 124]]

/-- the value of some digits -/
def valOf (l : List UInt8) : Nat := l.foldl (fun n b => 10 * n + (b.toNat - 48)) 0

/-- is it a number? -/
def numB (l : List UInt8) : Bool := decide (1 ≤ l.length) && decide (l.length ≤ 19) && (decide (l.length = 1) || (l.getD 0 0).toNat != 48) && l.all (fun b => digN b.toNat) && decide (valOf l ≤ 9223372036854775807)

def kindOf (l : List UInt8) : Nat := if tokWords.contains l then 3 else if shapedB l then 1 else if numB l then 2 else 0

/-- the token that begins a text: its kind, its length; kind 0: there is none -/
def tokAt (l : List UInt8) : Nat × Nat :=
  if partN (l.getD 0 0).toNat then (kindOf (l.take (runOf l)), runOf l)
  else if signRows.contains (l.take 2) then (4, (l.take 2).length)
  else if signRows.contains (l.take 1) then (4, (l.take 1).length)
  else (0, 0)

structure Tok where
  kind : Nat
  text : List UInt8
  pos : Nat

def toks : Nat → Nat → List UInt8 → Option (List Tok)
  | 0, _, _ => none
  | _ + 1, _, [] => some []
  | f + 1, i, b :: r =>
    if classOf b.toNat = 3 then toks f (i + 1) r
    else if b.toNat = 35 then toks f (i + noteOf (b :: r)) ((b :: r).drop (noteOf (b :: r)))
    else if (tokAt (b :: r)).1 = 0 then none
    else (toks f (i + (tokAt (b :: r)).2) ((b :: r).drop (tokAt (b :: r)).2)).map (⟨(tokAt (b :: r)).1, (b :: r).take (tokAt (b :: r)).2, i⟩ :: ·)

theorem run_pos {b : UInt8} {r : List UInt8} (h : partN b.toNat = true) : 0 < runOf (b :: r) := by
  unfold runOf
  rw [List.takeWhile_cons, if_pos h]
  simp

theorem note_pos {b : UInt8} {r : List UInt8} (h : b.toNat = 35) : 0 < noteOf (b :: r) := by
  unfold noteOf
  rw [List.takeWhile_cons, if_pos (by rw [h]; rfl)]
  simp

theorem tok_pos {b : UInt8} {r : List UInt8} (h : (tokAt (b :: r)).1 ≠ 0) : 0 < (tokAt (b :: r)).2 := by
  unfold tokAt at h ⊢
  by_cases hp : partN ((b :: r).getD 0 0).toNat = true
  · rw [if_pos hp]
    exact run_pos hp
  · rw [if_neg hp] at h ⊢
    by_cases h2 : signRows.contains ((b :: r).take 2) = true
    · rw [if_pos h2]; simp
    · rw [if_neg h2] at h ⊢
      by_cases h1 : signRows.contains ((b :: r).take 1) = true
      · rw [if_pos h1]; simp
      · rw [if_neg h1] at h; exact absurd rfl h

theorem toks_fuel : ∀ (n f i : Nat) (l : List UInt8), l.length ≤ n → l.length < f → toks f i l = toks (l.length + 1) i l := by
  intro n
  induction n with
  | zero =>
    intro f i l hn hf
    have : l = [] := List.eq_nil_of_length_eq_zero (by omega)
    subst this
    obtain ⟨f, rfl⟩ : ∃ f', f = f' + 1 := ⟨f - 1, by omega⟩
    rfl
  | succ n ih =>
    intro f i l hn hf
    obtain ⟨f, rfl⟩ : ∃ f', f = f' + 1 := ⟨f - 1, by omega⟩
    cases l with
    | nil => rfl
    | cons b r =>
      simp only [List.length_cons] at hn hf
      have key : ∀ (j k : Nat), 0 < k → toks f j ((b :: r).drop k) = toks (r.length + 1) j ((b :: r).drop k) := fun j k hk => by
        have hl : ((b :: r).drop k).length ≤ r.length := by rw [List.length_drop, List.length_cons]; omega
        rw [ih f j _ (by omega) (by omega), ih (r.length + 1) j _ (by omega) (by omega)]
      rw [toks, List.length_cons, toks]
      by_cases h1 : classOf b.toNat = 3
      · rw [if_pos h1, if_pos h1]
        exact key (i + 1) 1 (by omega)
      rw [if_neg h1, if_neg h1]
      by_cases h2 : b.toNat = 35
      · rw [if_pos h2, if_pos h2]
        exact key _ _ (note_pos h2)
      rw [if_neg h2, if_neg h2]
      by_cases h3 : (tokAt (b :: r)).1 = 0
      · rw [if_pos h3, if_pos h3]
      rw [if_neg h3, if_neg h3, key _ _ (tok_pos h3)]

/-- the tokens from a place on -/
def toksFrom (l : List UInt8) (i : Nat) : Option (List Tok) := toks ((l.drop i).length + 1) i (l.drop i)
def toksOf (l : List UInt8) : Option (List Tok) := toksFrom l 0

theorem drop_cons (l : List UInt8) (i : Nat) (h : i < l.length) : l.drop i = l[i] :: l.drop (i + 1) := List.drop_eq_getElem_cons h

theorem from_end {l : List UInt8} {i : Nat} (h : l.length ≤ i) : toksFrom l i = some [] := by
  unfold toksFrom
  rw [List.drop_eq_nil_of_le h]
  rfl

theorem from_blank {l : List UInt8} {i : Nat} (h : i < l.length) (hc : classOf (l[i]).toNat = 3) : toksFrom l i = toksFrom l (i + 1) := by
  unfold toksFrom
  rw [drop_cons l i h, toks, if_pos hc, List.length_cons]

theorem from_note {l : List UInt8} {i : Nat} (h : i < l.length) (hc : (l[i]).toNat = 35) : toksFrom l i = toksFrom l (i + noteOf (l.drop i)) := by
  unfold toksFrom
  have hd := drop_cons l i h
  have hn : classOf (l[i]).toNat ≠ 3 := by rw [hc]; decide
  rw [← List.drop_drop]
  generalize l.drop i = m at *
  subst hd
  rw [toks, if_neg hn, if_pos hc]
  have hp := note_pos (b := l[i]) (r := l.drop (i + 1)) hc
  generalize noteOf (l[i] :: l.drop (i + 1)) = n at *
  exact toks_fuel _ _ _ _ (Nat.le_refl _) (by rw [List.length_drop, List.length_cons]; omega)

theorem from_none {l : List UInt8} {i : Nat} (h : i < l.length) (h1 : classOf (l[i]).toNat ≠ 3) (h2 : (l[i]).toNat ≠ 35) (h3 : (tokAt (l.drop i)).1 = 0) : toksFrom l i = none := by
  unfold toksFrom
  have hd := drop_cons l i h
  generalize l.drop i = m at *
  subst hd
  rw [toks, if_neg h1, if_neg h2, if_pos h3]

theorem from_tok {l : List UInt8} {i : Nat} (h : i < l.length) (h1 : classOf (l[i]).toNat ≠ 3) (h2 : (l[i]).toNat ≠ 35) (h3 : (tokAt (l.drop i)).1 ≠ 0) :
    toksFrom l i = (toksFrom l (i + (tokAt (l.drop i)).2)).map (⟨(tokAt (l.drop i)).1, (l.drop i).take (tokAt (l.drop i)).2, i⟩ :: ·) := by
  unfold toksFrom
  have hd := drop_cons l i h
  rw [← List.drop_drop]
  generalize l.drop i = m at *
  subst hd
  rw [toks, if_neg h1, if_neg h2, if_neg h3]
  have hp := tok_pos h3
  generalize tokAt (l[i] :: l.drop (i + 1)) = kn at *
  rw [toks_fuel _ (l[i] :: l.drop (i + 1)).length _ _ (Nat.le_refl _) (by rw [List.length_drop, List.length_cons]; omega)]

/-- what has been read, and what is still to come, are all -/
def Came (l : List UInt8) (i : Nat) (out : List Tok) : Prop := toksOf l = (toksFrom l i).map (out ++ ·)

theorem came_start (l : List UInt8) : Came l 0 [] := by
  unfold Came toksOf
  cases toksFrom l 0 <;> rfl
theorem came_blank {l : List UInt8} {i : Nat} {out : List Tok} (h : Came l i out) (hi : i < l.length) (hc : classOf (l[i]).toNat = 3) : Came l (i + 1) out := by
  unfold Came at *; rw [h, from_blank hi hc]
theorem came_note {l : List UInt8} {i : Nat} {out : List Tok} (h : Came l i out) (hi : i < l.length) (hc : (l[i]).toNat = 35) : Came l (i + noteOf (l.drop i)) out := by
  unfold Came at *; rw [h, from_note hi hc]
theorem came_none {l : List UInt8} {i : Nat} {out : List Tok} (h : Came l i out) (hi : i < l.length) (h1 : classOf (l[i]).toNat ≠ 3) (h2 : (l[i]).toNat ≠ 35) (h3 : (tokAt (l.drop i)).1 = 0) : toksOf l = none := by
  unfold Came at h; rw [h, from_none hi h1 h2 h3]; rfl
theorem came_tok {l : List UInt8} {i : Nat} {out : List Tok} (h : Came l i out) (hi : i < l.length) (h1 : classOf (l[i]).toNat ≠ 3) (h2 : (l[i]).toNat ≠ 35) (h3 : (tokAt (l.drop i)).1 ≠ 0) :
    Came l (i + (tokAt (l.drop i)).2) (out ++ [⟨(tokAt (l.drop i)).1, (l.drop i).take (tokAt (l.drop i)).2, i⟩]) := by
  unfold Came at *
  rw [h, from_tok hi h1 h2 h3]
  cases toksFrom l (i + (tokAt (l.drop i)).2) <;> simp
theorem came_end {l : List UInt8} {i : Nat} {out : List Tok} (h : Came l i out) (hi : l.length ≤ i) : toksOf l = some out := by
  unfold Came at h; rw [h, from_end hi]; simp
end Go.Proofs.YtffghdehimhpiaaDoor
