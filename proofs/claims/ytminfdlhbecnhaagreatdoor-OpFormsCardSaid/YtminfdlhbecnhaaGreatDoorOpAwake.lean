/- Walks: the words with decimals; awake; the laws of the words and of new IDs. -/
import Derived.Test.YtminfdlhbecnhaaGreatDoorOpText
import Derived.Test.YtminfdlhbecnhaaGreatDoorFmt
import Derived.Test.YtminfdlhbecnhaaGreatDoorOpRef
import Derived.Test.YtminfdlhbecnhaaGreatDoorSpl
namespace Go.Proofs.YtminfdlhbecnhaaGreatDoor
open Go.RowKit

def txtOf (k a b : Nat) (nm : ByteArray) : List UInt8 := textOf k a b nm Lib.decDigits

theorem right_parts {k a b : Nat} {nm : ByteArray} (h : rightB k a b nm = true) : 1 ≤ k ∧ k ≤ 14 ∧ (a ≠ 0 ↔ k ≠ 10) ∧ (decide (b ≠ 0) = (288 : Nat).testBit k) ∧ (decide (nm.size ≠ 0) = (1374 : Nat).testBit k) ∧ (nm.size = 0 ∨ nameB nm = true) := by
  unfold rightB at h
  simp only [Bool.and_eq_true, decide_eq_true_eq, beq_iff_eq, Bool.or_eq_true] at h
  obtain ⟨h1, h2, h3, h4, h5, h6⟩ := h
  exact ⟨h1, h2, by constructor <;> intro h <;> simpa [h] using h3, h4, h5, h6⟩

theorem name_short {nm : ByteArray} (h : nameB nm = true) : nm.size ≤ 64 := by
  unfold nameB shapedB at h
  simp only [Bool.and_eq_true, decide_eq_true_eq] at h
  have := h.1.1.1.2
  rwa [str_len] at this

theorem word_len (k : Nat) : (wordOf k).length ≤ 13 := by
  unfold wordOf
  split
  · simp
  · rcases Nat.lt_or_ge (k - 1) 14 with h | h
    · have : ∀ j, j < 14 → (opWords.getD j []).length ≤ 13 := by decide +kernel
      exact this _ h
    · rw [List.getD_eq_getElem?_getD, List.getElem?_eq_none (by show 14 ≤ _; omega)]
      simp

theorem nd_le {u : Nat} (h : u < 18446744073709551616) : (Lib.decDigits u).length ≤ 20 := by
  rw [Lib.decDigits_length]
  rcases Nat.eq_zero_or_pos u with rfl | h1
  · rw [Lib.nDigits_small (by omega)]; omega
  · have := Lib.numDigits_eq u h1 h
    split at this <;> omega

theorem lens_app (a b : List (List UInt8)) : Lib.lens (a ++ b) = Lib.lens a + Lib.lens b := by simp [Lib.lens]

theorem txt_len {k a b : Nat} {nm : ByteArray} (ha : a < 18446744073709551616) (hb : b < 18446744073709551616) (h : rightB k a b nm = true) : (Lib.join (partsTxt k a b nm Lib.decDigits) [32]).length ≤ 200 := by
  obtain ⟨_, _, _, _, _, h6⟩ := right_parts h
  have hn : nm.data.toList.length ≤ 64 := by
    rw [str_len]
    rcases h6 with h | h
    · omega
    · exact name_short h
  have h1 := word_len k
  have h2 := nd_le ha
  have h3 := nd_le hb
  unfold partsTxt
  rw [List.cons_append, Lib.join_length]
  have hl : Lib.lens (wordOf k :: (idsOf a b Lib.decDigits 2 ++ (if nm.size ≠ 0 then [nm.data.toList] else []))) ≤ 13 + 40 + 64 := by
    show (wordOf k).length + Lib.lens (idsOf a b Lib.decDigits 2 ++ (if nm.size ≠ 0 then [nm.data.toList] else [])) ≤ _
    rw [lens_app]
    have e1 : Lib.lens (idsOf a b Lib.decDigits 2) ≤ 40 := by
      show Lib.lens ((if a ≠ 0 then [Lib.decDigits a] else []) ++ (if b ≠ 0 then [Lib.decDigits b] else [])) ≤ 40
      rw [lens_app]
      have e1 : Lib.lens (if a ≠ 0 then [Lib.decDigits a] else []) ≤ 20 := by split <;> simp [Lib.lens]; exact h2
      have e2 : Lib.lens (if b ≠ 0 then [Lib.decDigits b] else []) ≤ 20 := by split <;> simp [Lib.lens]; exact h3
      omega
    have e2 : Lib.lens (if nm.size ≠ 0 then [nm.data.toList] else []) ≤ 64 := by
      split
      · simpa [Lib.lens] using hn
      · simp [Lib.lens]
    omega
  have hc : (idsOf a b Lib.decDigits 2 ++ (if nm.size ≠ 0 then [nm.data.toList] else [])).length ≤ 3 := by
    rw [List.length_append]
    have e1 : (idsOf a b Lib.decDigits 2).length ≤ 2 := by
      show ((if a ≠ 0 then [Lib.decDigits a] else []) ++ (if b ≠ 0 then [Lib.decDigits b] else [])).length ≤ 2
      rw [List.length_append]
      split <;> split <;> simp
    have e2 : (if nm.size ≠ 0 then [nm.data.toList] else []).length ≤ 1 := by split <;> simp
    omega
  have : [(32 : UInt8)].length = 1 := rfl
  rw [this]
  omega

/-- the tables -/
structure Tabs (w : World) : Prop where
  sp : Sp w
  p10 : P10 w
theorem Tabs.below {w w' : World} (h : Tabs w) (hb : Below w.heap.size w w') : Tabs w' := ⟨h.sp.below hb, h.p10.below hb⟩

theorem txt_any (k a b : Nat) (nm : ByteArray) (hk : k < 256) (ha : a < 18446744073709551616) (hb : b < 18446744073709551616) (hs : nm.size ≤ 9223372036854775807) (w : World) (ht : Tabs w) :
    Calls Tryz.prog 11 #[.agg #[.int .u8 k, .int .u64 a, .int .u64 b, .string nm]] w fun e w' => e = .returned (strV (txtOf k a b nm)) ∧ Below w.heap.size w w' :=
  text_any k a b nm Lib.decDigits hk hs w ht.sp (fun u w' hu hbw => fmt_any u (by rcases hu with rfl | rfl <;> assumption) w' (ht.below hbw).p10) (fun h => Nat.le_trans (txt_len ha hb h) (by omega))

theorem txt_ex : txtOf 1 2 0 ⟨#[109]⟩ = [114, 101, 110, 97, 109, 101, 45, 109, 111, 100, 117, 108, 101, 32, 50, 32, 109] := by
  have h : rightB 1 2 0 ⟨#[109]⟩ = true := by kernel_rfl
  unfold txtOf textOf partsTxt idsOf
  rw [if_pos h, Lib.decDigits_one (by omega)]
  rfl

set_option maxRecDepth 100000 in
theorem awake_any (w : World) (ht : Tabs w) : Calls Tryz.prog 4 #[] w fun e w' => e = .returned (.bool true) ∧ Below w.heap.size w w' := by
  go_enter Tryz.func4, Tryz.ntmps4
  go_wp2_with fail
  refine (txt_any 1 2 0 ⟨#[109]⟩ (by omega) (by omega) (by omega) (by decide) w ht).mono ?_
  rintro e w1 ⟨rfl, hb1⟩
  have hx : strV (txtOf 1 2 0 ⟨#[109]⟩) = .string ⟨#[114, 101, 110, 97, 109, 101, 45, 109, 111, 100, 117, 108, 101, 32, 50, 32, 109]⟩ := by rw [txt_ex]; rfl
  rw [hx]
  clear hx
  have HB1 := Lib.hid hb1
  have HT := Lib.hid (ht.below hb1)
  clear hb1 ht
  go_wp2_with fail
  refine (word_any 14 (by omega) w1 HT.out.sp).mono ?_
  rintro e w2 ⟨rfl, hb2⟩
  have hw : strV (wordOf 14) = .string ⟨#[115, 119, 97, 112, 45, 112, 97, 114, 116, 115]⟩ := by kernel_rfl
  rw [hw]
  have HB2 := Lib.hid (btr HB1.out hb2)
  clear hb2 hw
  go_wp2_with fail
  go_ret
  exact ⟨rfl, HB2.out⟩

end Go.Proofs.YtminfdlhbecnhaaGreatDoor
