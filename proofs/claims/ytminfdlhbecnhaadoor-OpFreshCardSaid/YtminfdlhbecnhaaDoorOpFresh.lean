/- Walks: new IDs, one by one. -/
import Derived.Test.YtminfdlhbecnhaaDoorOpAwake
namespace Go.Proofs.YtminfdlhbecnhaaDoor
open Go.RowKit

/-- a maker of IDs: where its stamp and its count lie -/
def mkV (b1 b2 : Nat) : Value := .func (.func 23) #[] #[.pointer (some ⟨b1, 0, none⟩), .pointer (some ⟨b2, 0, none⟩)]

structure Mk (w : World) (b1 b2 st n : Nat) : Prop where
  r1 : w.heap[b1]? = some (.cells #[.int .u32 st] 27 (0, 0))
  r2 : w.heap[b2]? = some (.cells #[.int .u64 n] 32 (0, 0))

set_option maxRecDepth 100000 in
theorem fresh_any (st : Nat) (w : World) : Calls Tryd.prog 10 #[.int .u32 st] w fun e w' => ∃ b1 b2, e = .returned (mkV b1 b2) ∧ Mk w' b1 b2 st 0 ∧ w.heap.size ≤ b1 ∧ w.heap.size ≤ b2 ∧ Below w.heap.size w w' := by
  go_enter Tryd.func10, Tryd.ntmps10
  go_wp2_with fail
  go_ret
  refine ⟨w.heap.size, w.heap.size + 1, rfl, ⟨?_, ?_⟩, Nat.le_refl _, Nat.le_succ _, bal (bal (bre w) _) _⟩
  · have h1 := heap_alloc_new w (.cells #[.int .u32 st] 27)
    rw [Below.heap_alloc _ _ _ (by simp)]
    exact h1
  · have h1 := heap_alloc_new (w.alloc (.cells #[.int .u32 st] 27)) (.cells #[.int .u64 0] 32)
    simpa using h1

set_option maxRecDepth 100000 in
theorem next_stop (b1 b2 st n : Nat) (h : st = 0 ∨ 65535 ≤ n) (hn : n ≤ 65535) (w : World) (hm : Mk w b1 b2 st n) : Calls Tryd.prog 23 #[.pointer (some ⟨b1, 0, none⟩), .pointer (some ⟨b2, 0, none⟩)] w fun e w' => e = .returned (.tuple #[.int .u64 0, .bool false]) ∧ w' = w := by
  have c1 := cell_of_row w b1 0 _ _ _ hm.r1
  have c2 := cell_of_row w b2 0 _ _ _ hm.r2
  by_cases h0 : st = 0
  · subst h0
    clear hm h
    go_enter Tryd.func23, Tryd.ntmps23
    go_wp2_with fail
    go_ret2
    exact ⟨rfl, rfl⟩
  · obtain rfl : n = 65535 := by omega
    have d1 : ((st : Int) == 0) = false := beq_false_of_ne (by omega)
    have d2 : decide ((st : Int) = 0) = false := decide_eq_false (by omega)
    clear hm h h0
    go_enter Tryd.func23, Tryd.ntmps23
    go_wp2_with fail
    go_ret2
    exact ⟨rfl, rfl⟩

set_option maxRecDepth 100000 in
theorem next_go (b1 b2 st n : Nat) (h0 : 0 < st) (h1 : st < 4294967296) (hn : n < 65535) (w : World) (hm : Mk w b1 b2 st n) (hne : b1 ≠ b2) : Calls Tryd.prog 23 #[.pointer (some ⟨b1, 0, none⟩), .pointer (some ⟨b2, 0, none⟩)] w fun e w' => e = .returned (.tuple #[.int .u64 (65536 * (st : Int) + ((n : Int) + 1)), .bool true]) ∧ Mk w' b1 b2 st (n + 1) ∧ ∀ B, B ≤ b2 → Below B w w' := by
  have c1 := cell_of_row w b1 0 _ _ _ hm.r1
  have c2 := cell_of_row w b2 0 _ _ _ hm.r2
  have f2 : w.frozen? ⟨b2, 0, none⟩ = false := free_of_one hm.r2
  have hne2 : b2 ≠ b1 := fun h => hne h.symm
  have d1 : ((st : Int) == 0) = false := beq_false_of_ne (by omega)
  have d2 : decide ((st : Int) = 0) = false := decide_eq_false (by omega)
  have d3 : decide ((65536 : Int) ≤ (n : Int) + 1) = false := decide_eq_false (by omega)
  have HM := Lib.hid hm
  clear hm
  go_enter Tryd.func23, Tryd.ntmps23
  go_wp2_with fail
  go_ret2
  exact ⟨rfl, ⟨(Below.heap_setCell _ _ _ _ hne).trans HM.out.r1, one_setCell HM.out.r2⟩, fun B hB => (Below.refl _ _).setCell hB _⟩

/-- how many were told of the first i asks -/
def told (st i : Nat) : Nat := if st = 0 then 0 else min i 65535

set_option maxRecDepth 2000000 in
set_option maxHeartbeats 1600000 in
theorem fresh_calls (st n : Nat) (hst : st < 4294967296) (hn : n < 65536) (w : World) (ht : Tabs w) : Calls Tryd.prog 4 #[.int .u32 st, .int .u16 n] w fun e w' => e = .returned (.bool true) ∧ Below w.heap.size w w' := by
  go_enter Tryd.func4, Tryd.ntmps4
  go_wp2_with fail
  refine (awake_any w ht).mono ?_
  rintro e w1 ⟨rfl, hb1⟩
  have HB1 := Lib.hid hb1
  clear hb1 ht
  go_wp2_with fail
  refine (fresh_any st w1).mono ?_
  rintro e w2 ⟨b1, b2, rfl, hm, hg1, hg2, hb2⟩
  have HB2 := Lib.hid (btr HB1.out hb2)
  have hne : b1 ≠ b2 := fun h => by
    have h1 := hm.r1
    rw [h, hm.r2] at h1
    cases h1
  have HNE := Lib.hid hne
  have HG : Hid (w.heap.size ≤ b2) := Lib.hid (Nat.le_trans HB1.out.size hg2)
  have HM := Lib.hid hm
  clear hb2 hm hg1 hg2 HB1 hne
  unfold mkV
  obtain ⟨k, hk, hsel⟩ : ∃ k : Nat, k ≤ 65540 ∧ ((n % 4 = 0 ∧ k = 65540) ∨ (n % 4 ≠ 0 ∧ k = n)) := by
    by_cases h : n % 4 = 0
    · exact ⟨65540, by omega, .inl ⟨h, rfl⟩⟩
    · exact ⟨n, by omega, .inr ⟨h, rfl⟩⟩
  go_upto_if 21 with fail
  go_cut [6] from 83 to 83 (fun t w' => t = .int .i64 k ∧ w' = w2)
  case first =>
    rcases hsel with ⟨h4, hk2⟩ | ⟨h4, hk2⟩
    · have d1 : ((n : Int) % 4 == 0) = true := beq_iff_eq.2 (by omega)
      have d2 : decide ((n : Int) % 4 = 0) = true := decide_eq_true (by omega)
      subst hk2
      clear h4
      go_wp2_with fail
      go_meet
      exact ⟨rfl, rfl⟩
    · have d1 : ((n : Int) % 4 == 0) = false := beq_false_of_ne (by omega)
      have d2 : decide ((n : Int) % 4 = 0) = false := decide_eq_false (by omega)
      subst hk2
      clear h4
      go_wp2_with fail
      go_meet
      exact ⟨rfl, rfl⟩
  obtain ⟨rfl, hw⟩ := hcut
  have hw' := hw.symm
  subst hw'
  clear hw hsel
  go_wp2_with fail
  go_loopw [7, 8, 9] (fun s7 _ _ wr => ∃ m : Nat, m ≤ k ∧ s7 = .int .i64 ((m : Int) + 1) ∧ Hid (Mk wr b1 b2 st (told st m)) ∧ Hid (Below w.heap.size w wr)) (fun s7 _ _ _ => k + 1 - (intOf s7).toNat)
  case atStart => exact ⟨0, by omega, rfl, by have h0 : told st 0 = 0 := by unfold told; split <;> simp
                                              rw [h0]; exact ⟨HM, HB2⟩⟩
  case round =>
    obtain ⟨m, hm, rfl, hmk, hbl⟩ := hrel
    clear HM HB2
    by_cases hlt : m < k
    · have d0 : decide ((m : Int) + 1 ≤ k) = true := decide_eq_true (by omega)
      by_cases h0 : st = 0
      · have ht : Hid (told st m = 0 ∧ told st (m + 1) = 0) := Lib.hid (by simp [told, if_pos h0])
        have e1 : decide ((0 : Int) < st) = false := decide_eq_false (by omega)
        have e1n : decide (0 < st) = false := decide_eq_false (by omega)
        have H0 := Lib.hid h0
        clear h0
        go_wp2_with fail
        refine (next_stop b1 b2 st _ (.inl H0.out) (by rw [ht.out.1]; omega) wr hmk.out).mono ?_
        rintro e w3 ⟨rfl, hw⟩
        have hw' := hw.symm
        subst hw'
        clear hw
        go_wp2_with fail
        go_roundw
        case rel => exact ⟨m + 1, by omega, by go_num, by rw [ht.out.2, ← ht.out.1]; exact hmk, hbl⟩
        case measure => simp [intOf]; try omega
      · have e1 : decide ((0 : Int) < st) = true := decide_eq_true (by omega)
        have e1n : decide (0 < st) = true := decide_eq_true (by omega)
        by_cases h6 : m < 65535
        · have e2 : decide ((m : Int) + 1 < 65536) = true := decide_eq_true (by omega)
          have ht : Hid (told st m = m ∧ told st (m + 1) = m + 1) := Lib.hid (by simp only [told, if_neg h0]; omega)
          have hmk2 : Mk wr b1 b2 st m := by have := hmk.out; rwa [ht.out.1] at this
          have HMK := Lib.hid hmk2
          have H0 : Hid (0 < st) := Lib.hid (by omega)
          clear hmk hmk2 h0
          go_wp2_with fail
          refine (next_go b1 b2 st m H0.out hst h6 wr HMK.out HNE.out).mono ?_
          rintro e w3 ⟨rfl, hm3, hb3⟩
          have HM3 := Lib.hid hm3
          have HB3 := Lib.hid (hbl.out.trans (hb3 _ HG.out))
          clear hm3 hb3 HMK hbl
          go_wp2_with fail
          go_roundw
          case rel => exact ⟨m + 1, by omega, by go_num, by rw [ht.out.2]; exact HM3, HB3⟩
          case measure => simp [intOf]; try omega
        · have e2 : decide ((m : Int) + 1 < 65536) = false := decide_eq_false (by omega)
          have e3 : decide ((m : Int) < 65535) = false := decide_eq_false (by omega)
          have ht : Hid (told st m = 65535 ∧ told st (m + 1) = 65535) := Lib.hid (by simp only [told, if_neg h0]; omega)
          clear h0
          go_wp2_with fail
          refine (next_stop b1 b2 st _ (.inr (by rw [ht.out.1]; omega)) (by rw [ht.out.1]; omega) wr hmk.out).mono ?_
          rintro e w3 ⟨rfl, hw⟩
          have hw' := hw.symm
          subst hw'
          clear hw
          go_wp2_with fail
          go_roundw
          case rel => exact ⟨m + 1, by omega, by go_num, by rw [ht.out.2, ← ht.out.1]; exact hmk, hbl⟩
          case measure => simp [intOf]; try omega
    · have d0 : decide ((m : Int) + 1 ≤ k) = false := decide_eq_false (by omega)
      clear hmk HG HNE hm hlt hk
      go_wp2_with fail
      refine (fresh_any st wr).mono ?_
      rintro e w4 ⟨c1, c2, rfl, hm4, hg1, hg2, hb4⟩
      have hne : c1 ≠ c2 := fun h => by
        have h1 := hm4.r1
        rw [h, hm4.r2] at h1
        cases h1
      have HNE := Lib.hid hne
      have HG : Hid (w.heap.size ≤ c2) := Lib.hid (Nat.le_trans hbl.out.size hg2)
      have HB4 := Lib.hid (btr hbl.out hb4)
      have HM := Lib.hid hm4
      clear hm4 hg1 hg2 hb4 hbl hne d0
      unfold mkV
      by_cases h0 : st = 0
      · have e1 : decide ((0 : Int) < st) = false := decide_eq_false (by omega)
        have e1n : decide (0 < st) = false := decide_eq_false (by omega)
        have H0 := Lib.hid h0
        clear h0
        go_wp2_with fail
        refine (next_stop c1 c2 st 0 (.inl H0.out) (by omega) w4 HM.out).mono ?_
        rintro e w5 ⟨rfl, hw⟩
        have hw' := hw.symm
        subst hw'
        clear hw
        go_wp2_with fail
        go_ret
        exact ⟨rfl, HB4.out⟩
      · have e1 : decide ((0 : Int) < st) = true := decide_eq_true (by omega)
        have e1n : decide (0 < st) = true := decide_eq_true (by omega)
        have H0 : Hid (0 < st) := Lib.hid (by omega)
        clear h0
        go_wp2_with fail
        refine (next_go c1 c2 st 0 H0.out hst (by omega) w4 HM.out HNE.out).mono ?_
        rintro e w5 ⟨rfl, hm5, hb5⟩
        have HB5 := Lib.hid (HB4.out.trans (hb5 _ HG.out))
        clear hm5 hb5
        go_wp2_with fail
        go_ret
        exact ⟨rfl, HB5.out⟩
end Go.Proofs.YtminfdlhbecnhaaDoor
