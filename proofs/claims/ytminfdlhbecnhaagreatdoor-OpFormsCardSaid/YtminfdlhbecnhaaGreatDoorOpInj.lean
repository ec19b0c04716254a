/- Plain: operations whose bytes, or whose words, are alike are alike. -/
import Derived.Test.YtminfdlhbecnhaaGreatDoorOpAwake
import Derived.Test.YtminfdlhbecnhaaGreatDoorOpBytes
namespace Go.Proofs.YtminfdlhbecnhaaGreatDoor
open Go.RowKit

theorem varint_inj : ∀ (a b : Nat) (x y : List UInt8), a < 18446744073709551616 → b < 18446744073709551616 → Vi.varint a ++ x = Vi.varint b ++ y → a = b ∧ x = y := by
  intro a
  induction a using Nat.strongRecOn with
  | _ a ih =>
    intro b x y ha hb h
    have small : ∀ n, n < 128 → (UInt8.ofNat n).toNat = n := fun n hn => UInt8.toNat_ofNat_of_lt' (by simp [UInt8.size]; omega)
    have big : ∀ n, (UInt8.ofNat (n % 128 + 128)).toNat = n % 128 + 128 := fun n => UInt8.toNat_ofNat_of_lt' (by simp [UInt8.size]; omega)
    by_cases h1 : a < 128
    · rw [Vi.varint_small h1] at h
      by_cases h2 : b < 128
      · rw [Vi.varint_small h2] at h
        simp only [List.cons_append, List.nil_append, List.cons.injEq] at h
        have := congrArg UInt8.toNat h.1
        rw [small a h1, small b h2] at this
        exact ⟨this, h.2⟩
      · rw [Vi.varint_step (by omega) hb] at h
        simp only [List.cons_append, List.nil_append, List.cons.injEq] at h
        have := congrArg UInt8.toNat h.1
        rw [small a h1, big b] at this
        omega
    · rw [Vi.varint_step (by omega) ha] at h
      by_cases h2 : b < 128
      · rw [Vi.varint_small h2] at h
        simp only [List.cons_append, List.nil_append, List.cons.injEq] at h
        have := congrArg UInt8.toNat h.1
        rw [small b h2, big a] at this
        omega
      · rw [Vi.varint_step (by omega) hb] at h
        simp only [List.cons_append, List.cons.injEq] at h
        have e1 := congrArg UInt8.toNat h.1
        rw [big b, big a] at e1
        obtain ⟨e2, e3⟩ := ih (a / 128) (by omega) (b / 128) x y (by omega) (by omega) h.2
        exact ⟨by omega, e3⟩

theorem ba_ext {s t : ByteArray} (h : s.data.toList = t.data.toList) : s = t := by
  cases s; cases t
  simp at h
  rw [h]

theorem bytes_inj {k a b k' a' b' : Nat} {nm nm' : ByteArray} (h1 : rightB k a b nm = true) (h2 : rightB k' a' b' nm' = true) (ha : a < 18446744073709551616) (hb : b < 18446744073709551616) (ha' : a' < 18446744073709551616) (hb' : b' < 18446744073709551616)
    (h : bytesOf k a b nm = bytesOf k' a' b' nm') : k = k' ∧ a = a' ∧ b = b' ∧ nm = nm' := by
  unfold bytesOf at h
  rw [if_pos h1, if_pos h2] at h
  obtain ⟨_, k1, _⟩ := right_parts h1
  obtain ⟨_, k2, _⟩ := right_parts h2
  have n1 := right_name h1
  have n2 := right_name h2
  simp only [List.append_assoc, List.cons_append, List.nil_append, List.cons.injEq] at h
  obtain ⟨e1, h⟩ := h
  have e1' := congrArg UInt8.toNat e1
  rw [UInt8.toNat_ofNat_of_lt' (by simp [UInt8.size]; omega), UInt8.toNat_ofNat_of_lt' (by simp [UInt8.size]; omega)] at e1'
  obtain ⟨e2, h⟩ := varint_inj _ _ _ _ ha ha' h
  obtain ⟨e3, h⟩ := varint_inj _ _ _ _ hb hb' h
  obtain ⟨_, h⟩ := varint_inj _ _ _ _ (by omega) (by omega) h
  exact ⟨e1', e2, e3, ba_ext h⟩

theorem words_nodup : ∀ i, i < 14 → ∀ j, j < 14 → opWords.getD i [] = opWords.getD j [] → i = j := by decide +kernel

theorem wordOf_inj {k k' : Nat} (h1 : 1 ≤ k) (h2 : k ≤ 14) (h3 : 1 ≤ k') (h4 : k' ≤ 14) (h : wordOf k = wordOf k') : k = k' := by
  unfold wordOf at h
  rw [if_neg (by omega), if_neg (by omega)] at h
  have := words_nodup (k - 1) (by omega) (k' - 1) (by omega) h
  omega

theorem wordOf_noSp {k : Nat} (h1 : 1 ≤ k) (h2 : k ≤ 14) : noSp (wordOf k) := by
  have : ∀ j, j < 14 → ∀ b ∈ opWords.getD j [], b ≠ 32 := by decide +kernel
  unfold wordOf
  rw [if_neg (by omega)]
  exact this (k - 1) (by omega)

theorem shaped_all {l : List UInt8} (h : shapedB l = true) : ∀ b ∈ l, (letN b.toNat || digN b.toNat) = true := by
  unfold shapedB at h
  simp only [Bool.and_eq_true] at h
  exact List.all_eq_true.1 h.2

theorem name_noSp {nm : ByteArray} (h : nameB nm = true) : noSp nm.data.toList := fun b hb e => by
  unfold nameB at h
  have := shaped_all (Bool.and_eq_true_iff.1 h).1 b hb
  subst e
  simp [letN, digN] at this

theorem parts_noSp {k a b : Nat} {nm : ByteArray} (h : rightB k a b nm = true) : ∀ p ∈ partsTxt k a b nm Lib.decDigits, noSp p := by
  obtain ⟨h1, h2, _, _, _, h6⟩ := right_parts h
  intro p hp
  unfold partsTxt idsOf at hp
  simp only [List.cons_append, List.mem_cons, List.mem_append] at hp
  rcases hp with rfl | (hp | hp) | hp
  · exact wordOf_noSp h1 h2
  · split at hp
    · simp at hp; subst hp; exact dec_noSp _
    · simp at hp
  · split at hp
    · simp at hp; subst hp; exact dec_noSp _
    · simp at hp
  · split at hp
    · next hz =>
      simp at hp; subst hp
      rcases h6 with h6 | h6
      · exact absurd h6 hz
      · exact name_noSp h6
    · simp at hp

theorem opt_app {P P' : Prop} [Decidable P] [Decidable P'] (h : P ↔ P') {x x' : List UInt8} {r r' : List (List UInt8)} (e : (if P then [x] else []) ++ r = (if P' then [x'] else []) ++ r') : (P → x = x') ∧ r = r' := by
  by_cases hp : P
  · rw [if_pos hp, if_pos (h.1 hp)] at e
    simp only [List.cons_append, List.nil_append, List.cons.injEq] at e
    exact ⟨fun _ => e.1, e.2⟩
  · rw [if_neg hp, if_neg (fun h' => hp (h.2 h'))] at e
    exact ⟨fun h' => absurd h' hp, e⟩

theorem txt_inj {k a b k' a' b' : Nat} {nm nm' : ByteArray} (h1 : rightB k a b nm = true) (h2 : rightB k' a' b' nm' = true) (h : txtOf k a b nm = txtOf k' a' b' nm') : k = k' ∧ a = a' ∧ b = b' ∧ nm = nm' := by
  unfold txtOf textOf at h
  rw [if_pos h1, if_pos h2] at h
  have e := join_inj _ _ (by simp [partsTxt]) (by simp [partsTxt]) (parts_noSp h1) (parts_noSp h2) h
  obtain ⟨p1, p2, p3, p4, p5, _⟩ := right_parts h1
  obtain ⟨q1, q2, q3, q4, q5, _⟩ := right_parts h2
  unfold partsTxt idsOf at e
  simp only [List.cons_append, List.cons.injEq] at e
  obtain ⟨e1, e⟩ := e
  have ek := wordOf_inj p1 p2 q1 q2 e1
  subst ek
  have ea : a ≠ 0 ↔ a' ≠ 0 := p3.trans q3.symm
  have eb : b ≠ 0 ↔ b' ≠ 0 := decide_eq_decide.1 (p4.trans q4.symm)
  have en : nm.size ≠ 0 ↔ nm'.size ≠ 0 := decide_eq_decide.1 (p5.trans q5.symm)
  rw [List.append_assoc, List.append_assoc] at e
  obtain ⟨f1, e⟩ := opt_app ea e
  obtain ⟨f2, e⟩ := opt_app eb e
  obtain ⟨f3, _⟩ := opt_app (r := []) (r' := []) en (by rw [List.append_nil, List.append_nil]; exact e)
  refine ⟨rfl, ?_, ?_, ?_⟩
  · by_cases h : a = 0
    · rw [h]; exact Classical.byContradiction fun h' => ea.2 (fun z => h' z.symm) h
    · exact dec_inj (f1 h)
  · by_cases h : b = 0
    · rw [h]; exact Classical.byContradiction fun h' => eb.2 (fun z => h' z.symm) h
    · exact dec_inj (f2 h)
  · by_cases h : nm.size = 0
    · have h' : nm'.size = 0 := Classical.byContradiction fun h' => en.2 h' h
      have e1 : nm.data.toList = [] := List.eq_nil_of_length_eq_zero (by rw [str_len]; exact h)
      have e2 : nm'.data.toList = [] := List.eq_nil_of_length_eq_zero (by rw [str_len]; exact h')
      exact ba_ext (e1.trans e2.symm)
    · exact ba_ext (f3 h)
end Go.Proofs.YtminfdlhbecnhaaGreatDoor
