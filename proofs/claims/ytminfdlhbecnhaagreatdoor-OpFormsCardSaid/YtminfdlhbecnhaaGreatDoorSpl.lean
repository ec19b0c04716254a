/- Plain: parts with a blank between are cut again; decimals are told apart. No program is in sight. -/
import Derived.Lib.ItoaNum
import Derived.Lib.Join
namespace Go.Proofs.YtminfdlhbecnhaaGreatDoor

/-- the pieces of a text, cut at each blank -/
def cutSp : List UInt8 → List (List UInt8)
  | [] => [[]]
  | b :: l => if b = 32 then [] :: cutSp l else match cutSp l with
    | [] => [[b]]
    | x :: r => (b :: x) :: r

def noSp (l : List UInt8) : Prop := ∀ b ∈ l, b ≠ 32

theorem cutSp_ne (l : List UInt8) : cutSp l ≠ [] := by
  cases l with
  | nil => simp [cutSp]
  | cons b l =>
    unfold cutSp
    split
    · simp
    · split <;> simp

theorem cutSp_word (p : List UInt8) (h : noSp p) : cutSp p = [p] := by
  induction p with
  | nil => rfl
  | cons b p ih =>
    have hb : b ≠ 32 := h b (by simp)
    rw [cutSp, if_neg hb, ih (fun c hc => h c (by simp [hc]))]

theorem cutSp_app (p : List UInt8) (h : noSp p) (l : List UInt8) : cutSp (p ++ 32 :: l) = p :: cutSp l := by
  induction p with
  | nil => simp [cutSp]
  | cons b p ih =>
    have hb : b ≠ 32 := h b (by simp)
    rw [List.cons_append, cutSp, if_neg hb, ih (fun c hc => h c (by simp [hc]))]

theorem join_two (x y : List UInt8) (r : List (List UInt8)) : Lib.join (x :: y :: r) [32] = x ++ 32 :: Lib.join (y :: r) [32] := by
  rw [Lib.join_cons, Lib.join_cons]
  simp [Lib.joinTail]

theorem cutSp_join (ps : List (List UInt8)) (hne : ps ≠ []) (h : ∀ p ∈ ps, noSp p) : cutSp (Lib.join ps [32]) = ps := by
  induction ps with
  | nil => exact absurd rfl hne
  | cons x r ih =>
    cases r with
    | nil => rw [Lib.join_one]; exact cutSp_word x (h x (by simp))
    | cons y r => rw [join_two, cutSp_app x (h x (by simp)), ih (by simp) (fun p hp => h p (by simp [hp]))]

theorem join_cutSp (l : List UInt8) : Lib.join (cutSp l) [32] = l := by
  induction l with
  | nil => rfl
  | cons b l ih =>
    rw [cutSp]
    cases hc : cutSp l with
    | nil => exact absurd hc (cutSp_ne l)
    | cons x r =>
      rw [hc] at ih
      split
      · next hb =>
        subst hb
        rw [join_two, ih]
        rfl
      · show Lib.join ((b :: x) :: r) [32] = b :: l
        rw [← ih, Lib.join_cons, Lib.join_cons]
        rfl

theorem join_inj (ps qs : List (List UInt8)) (hp : ps ≠ []) (hq : qs ≠ []) (h1 : ∀ p ∈ ps, noSp p) (h2 : ∀ q ∈ qs, noSp q) (h : Lib.join ps [32] = Lib.join qs [32]) : ps = qs := by
  rw [← cutSp_join ps hp h1, ← cutSp_join qs hq h2, h]

/-- the value of some digits -/
def valD (l : List UInt8) : Nat := l.foldl (fun n b => 10 * n + (b.toNat - 48)) 0

theorem u8dig (r : Nat) (h : r < 10) : (UInt8.ofNat (48 + r)).toNat = 48 + r := by rw [UInt8.toNat_ofNat_of_lt' (by simp [UInt8.size]; omega)]

theorem valD_dec (u : Nat) : valD (Lib.decDigits u) = u := by
  induction u using Nat.strongRecOn with
  | _ u ih =>
    rw [Lib.decDigits]
    split
    · next h =>
      show 10 * 0 + ((UInt8.ofNat (48 + u)).toNat - 48) = u
      rw [u8dig u h]; omega
    · next h =>
      have := ih (u / 10) (by omega)
      unfold valD at this ⊢
      rw [List.foldl_append, this]
      show 10 * (u / 10) + ((UInt8.ofNat (48 + u % 10)).toNat - 48) = u
      rw [u8dig _ (by omega)]; omega

theorem dec_inj {a b : Nat} (h : Lib.decDigits a = Lib.decDigits b) : a = b := by rw [← valD_dec a, ← valD_dec b, h]

theorem dec_digits (u : Nat) : ∀ b ∈ Lib.decDigits u, 48 ≤ b.toNat ∧ b.toNat ≤ 57 := by
  induction u using Nat.strongRecOn with
  | _ u ih =>
    intro b hb
    rw [Lib.decDigits] at hb
    split at hb
    · next h =>
      have : b = UInt8.ofNat (48 + u) := by simpa using hb
      rw [this, u8dig u h]; omega
    · next h =>
      rcases List.mem_append.1 hb with hb | hb
      · exact ih (u / 10) (by omega) b hb
      · have : b = UInt8.ofNat (48 + u % 10) := by simpa using hb
        rw [this, u8dig _ (by omega)]; omega

theorem dec_noSp (u : Nat) : noSp (Lib.decDigits u) := fun b hb e => by
  have := dec_digits u b hb
  subst e
  simp at this

theorem dec_ne (u : Nat) : Lib.decDigits u ≠ [] := fun h => by
  have h1 := Lib.nDigits_pos u
  rw [← Lib.decDigits_length, h] at h1
  simp at h1
end Go.Proofs.YtminfdlhbecnhaaGreatDoor
