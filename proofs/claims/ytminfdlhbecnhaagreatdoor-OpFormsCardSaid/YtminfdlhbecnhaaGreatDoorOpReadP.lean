/- Plain: what a line is read as. -/
import Derived.Test.YtminfdlhbecnhaaGreatDoorOpInj
namespace Go.Proofs.YtminfdlhbecnhaaGreatDoor

def nxS (want : Bool) (r : List (List UInt8)) : List UInt8 := if want then r.headD [] else []
def nxR (want : Bool) (r : List (List UInt8)) : List (List UInt8) := if want then r.tail else r

/-- the last kind whose word it is -/
def kfound (x : List UInt8) : Nat → Nat
  | 0 => 0
  | k + 1 => if wordOf (k + 1) = x then k + 1 else kfound x k

theorem kfound_le (x : List UInt8) : ∀ m, kfound x m ≤ m
  | 0 => Nat.le_refl _
  | m + 1 => by
    unfold kfound
    split
    · exact Nat.le_refl _
    · exact Nat.le_succ_of_le (kfound_le x m)

theorem kfound_word {k : Nat} (h1 : 1 ≤ k) : ∀ m, k ≤ m → m ≤ 14 → kfound (wordOf k) m = k := by
  intro m
  induction m with
  | zero => intro h; omega
  | succ m ih =>
    intro h h14
    unfold kfound
    by_cases he : k = m + 1
    · rw [he, if_pos rfl]
    · rw [if_neg (fun e => he (wordOf_inj (by omega) (by omega) (by omega) (by omega) e).symm)]
      exact ih (by omega) (by omega)

/-- what is cut of a line: its kind, and the three parts -/
def lineK (l : List UInt8) : Nat := kfound ((cutSp l).headD []) 14
def lineA (l : List UInt8) : List UInt8 := nxS (decide (lineK l ≠ 10)) (cutSp l).tail
def lineR1 (l : List UInt8) : List (List UInt8) := nxR (decide (lineK l ≠ 10)) (cutSp l).tail
def lineB (l : List UInt8) : List UInt8 := nxS ((288 : Nat).testBit (lineK l)) (lineR1 l)
def lineR2 (l : List UInt8) : List (List UInt8) := nxR ((288 : Nat).testBit (lineK l)) (lineR1 l)
def lineN (l : List UInt8) : List UInt8 := nxS ((1374 : Nat).testBit (lineK l)) (lineR2 l)

theorem nx_opt {P : Prop} [Decidable P] (x : List UInt8) (r : List (List UInt8)) : nxS (decide P) ((if P then [x] else []) ++ r) = (if P then x else []) ∧ nxR (decide P) ((if P then [x] else []) ++ r) = r := by
  unfold nxS nxR
  by_cases h : P
  · simp [h]
  · simp [h]

theorem line_parts {k a b : Nat} {nm : ByteArray} (h : rightB k a b nm = true) :
    lineK (txtOf k a b nm) = k ∧ lineA (txtOf k a b nm) = (if a ≠ 0 then Lib.decDigits a else []) ∧ lineB (txtOf k a b nm) = (if b ≠ 0 then Lib.decDigits b else []) ∧ lineN (txtOf k a b nm) = nm.data.toList := by
  have hp := parts_noSp h
  have hc : cutSp (txtOf k a b nm) = partsTxt k a b nm Lib.decDigits := by
    unfold txtOf textOf
    rw [if_pos h]
    exact cutSp_join _ (by simp [partsTxt]) hp
  obtain ⟨p1, p2, p3, p4, p5, _⟩ := right_parts h
  have hk : lineK (txtOf k a b nm) = k := by
    unfold lineK
    rw [hc]
    exact kfound_word p1 14 p2 (Nat.le_refl _)
  have ht : (cutSp (txtOf k a b nm)).tail = (if a ≠ 0 then [Lib.decDigits a] else []) ++ ((if b ≠ 0 then [Lib.decDigits b] else []) ++ ((if nm.size ≠ 0 then [nm.data.toList] else []) ++ [])) := by
    rw [hc]
    unfold partsTxt idsOf
    simp
  have da : decide (k ≠ 10) = decide (a ≠ 0) := decide_eq_decide.2 p3.symm
  have hA := nx_opt (P := a ≠ 0) (Lib.decDigits a) ((if b ≠ 0 then [Lib.decDigits b] else []) ++ ((if nm.size ≠ 0 then [nm.data.toList] else []) ++ []))
  have hB := nx_opt (P := b ≠ 0) (Lib.decDigits b) ((if nm.size ≠ 0 then [nm.data.toList] else []) ++ [])
  have hN := nx_opt (P := nm.size ≠ 0) nm.data.toList []
  have hR1 : lineR1 (txtOf k a b nm) = (if b ≠ 0 then [Lib.decDigits b] else []) ++ ((if nm.size ≠ 0 then [nm.data.toList] else []) ++ []) := by
    unfold lineR1
    rw [hk, ht, da]
    exact hA.2
  have hR2 : lineR2 (txtOf k a b nm) = (if nm.size ≠ 0 then [nm.data.toList] else []) ++ [] := by
    unfold lineR2
    rw [hk, hR1, ← p4]
    exact hB.2
  refine ⟨hk, ?_, ?_, ?_⟩
  · unfold lineA
    rw [hk, ht, da]
    exact hA.1
  · unfold lineB
    rw [hk, hR1, ← p4]
    exact hB.1
  · unfold lineN
    rw [hk, hR2, ← p5]
    rw [hN.1]
    by_cases hz : nm.size ≠ 0
    · rw [if_pos hz]
    · rw [if_neg hz]
      exact (List.eq_nil_of_length_eq_zero (by rw [str_len]; omega)).symm

/-- is it the line of an operation that may be? -/
def LineOf (l : List UInt8) (k a b : Nat) (nm : ByteArray) : Prop := rightB k a b nm = true ∧ a < 18446744073709551616 ∧ b < 18446744073709551616 ∧ txtOf k a b nm = l

/-- whatever is parsed, as long as digits are their number and nothing is 0 -/
theorem line_back {l : List UInt8} {n m : Nat} (hn0 : lineA l = [] → n = 0) (hn : ∀ u, u < 18446744073709551616 → lineA l = Lib.decDigits u → n = u) (hm0 : lineB l = [] → m = 0) (hm : ∀ u, u < 18446744073709551616 → lineB l = Lib.decDigits u → m = u)
    {k a b : Nat} {nm : ByteArray} (h : LineOf l k a b nm) : lineK l = k ∧ n = a ∧ m = b ∧ (⟨(lineN l).toArray⟩ : ByteArray) = nm := by
  obtain ⟨h1, h2, h3, rfl⟩ := h
  obtain ⟨e1, e2, e3, e4⟩ := line_parts h1
  refine ⟨e1, ?_, ?_, ?_⟩
  · by_cases hz : a = 0
    · rw [hz]
      exact hn0 (by rw [e2, if_neg (fun h => h hz)])
    · exact hn a h2 (by rw [e2, if_pos hz])
  · by_cases hz : b = 0
    · rw [hz]
      exact hm0 (by rw [e3, if_neg (fun h => h hz)])
    · exact hm b h3 (by rw [e3, if_pos hz])
  · rw [e4]
end Go.Proofs.YtminfdlhbecnhaaGreatDoor
