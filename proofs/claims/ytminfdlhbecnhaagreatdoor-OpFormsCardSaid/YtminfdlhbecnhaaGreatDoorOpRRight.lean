/- Walk: the document's Right. -/
import Derived.Test.YtminfdlhbecnhaaGreatDoorOpRefR
namespace Go.Proofs.YtminfdlhbecnhaaGreatDoor
open Go.RowKit

theorem has_parts (k : Nat) (h1 : 1 ≤ k) (h2 : k ≤ 14) : hasB (partsOf k) 65 = decide (k ≠ 10) ∧ hasB (partsOf k) 66 = (288 : Nat).testBit k ∧ hasB (partsOf k) 78 = (1374 : Nat).testBit k ∧ wordOf k ≠ [] ∧ (partsOf k).length ≤ 3 := by
  have : ∀ k, k ≤ 14 → 1 ≤ k → hasB (partsOf k) 65 = decide (k ≠ 10) ∧ hasB (partsOf k) 66 = (288 : Nat).testBit k ∧ hasB (partsOf k) 78 = (1374 : Nat).testBit k ∧ wordOf k ≠ [] ∧ (partsOf k).length ≤ 3 := by decide +kernel
  exact this k h2 h1

theorem word_none {k : Nat} (h : ¬ (1 ≤ k ∧ k ≤ 14)) : wordOf k = [] ∧ partsOf k = [] := by
  unfold wordOf partsOf
  by_cases h0 : k = 0
  · rw [if_pos h0, if_pos h0]; exact ⟨rfl, rfl⟩
  · rw [if_neg h0, if_neg h0, List.getD_eq_getElem?_getD, List.getElem?_eq_none (by show 14 ≤ k - 1; omega), List.getD_eq_getElem?_getD, List.getElem?_eq_none (by show 14 ≤ k - 1; omega)]
    exact ⟨rfl, rfl⟩

theorem mk8_toList (l : List UInt8) : (mk8 l).toList = l := by rw [ByteArray.toList_eq]; rfl

theorem nm_none {nm : ByteArray} (h : nm.size = 0) : nm.toList = [] := by
  rw [ByteArray.toList_eq]
  exact List.eq_nil_of_length_eq_zero (by rw [str_len]; exact h)

theorem name_size {nm : ByteArray} (h : nm.size = 0) : nameB nm = false := by
  unfold nameB shapedB
  have : nm.data.toList = [] := List.eq_nil_of_length_eq_zero (by rw [str_len]; exact h)
  rw [this]
  rfl

set_option linter.unusedSimpArgs false in
set_option maxRecDepth 100000 in
set_option maxHeartbeats 3200000 in
theorem rright_any (k a b : Nat) (nm : ByteArray) (hk : k < 256) (hs : nm.size ≤ 9223372036854775807) (w : World) :
    Calls Tryz.prog 7 #[.agg #[.int .u8 k, .int .u64 a, .int .u64 b, .string nm]] w fun e w' => e = .returned (.bool (rightB k a b nm)) ∧ Below w.heap.size w w' := by
  obtain ⟨x, hx⟩ : ∃ x, x = rightB k a b nm := ⟨_, rfl⟩
  rw [← hx]
  have HX := Lib.hid hx
  have HK := Lib.hid hk
  have HS := Lib.hid hs
  clear hx hk hs
  go_enter Tryz.func7, Tryz.ntmps7
  go_upto_region 1 with fail
  have hb0 := bal (bre w) (.cells #[.int .u8 k, .int .u64 a, .int .u64 b, .string nm] 32)
  have hr0 := heap_alloc_new w (.cells #[.int .u8 k, .int .u64 a, .int .u64 b, .string nm] 32)
  generalize w.alloc (.cells #[.int .u8 k, .int .u64 a, .int .u64 b, .string nm] 32) = W at *
  obtain ⟨n1, hn1⟩ : ∃ n, n = w.heap.size := ⟨_, rfl⟩
  rw [← hn1] at hr0 ⊢
  have HB0 := Lib.hid hb0
  have HR0 := Lib.hid hr0
  clear hb0 hr0 hn1
  have c0 := cell_of_row W n1 0 _ _ _ HR0.out
  go_wp2_with fail
  refine (parts_any k HK.out W).mono ?_
  rintro e w1 ⟨rfl, hb1⟩
  have HB1 := Lib.hid (btr HB0.out hb1)
  have HR1 : Hid (w1.heap[n1]? = some (.cells #[.int .u8 k, .int .u64 a, .int .u64 b, .string nm] 32 (0, 0))) := Lib.hid ((hb1.block n1 (Array.getElem?_eq_some_iff.1 HR0.out).1).trans HR0.out)
  clear hb1 HB0 HR0 c0
  by_cases hv : 1 ≤ k ∧ k ≤ 14
  rotate_left
  · have hr : x = false := by
      rw [HX.out]; unfold rightB
      by_cases h1 : 1 ≤ k
      · rw [decide_eq_true h1, decide_eq_false (fun h => hv ⟨h1, h⟩)]; simp
      · rw [decide_eq_false h1]; rfl
    obtain ⟨e1, e2⟩ := word_none hv
    subst hr
    rw [e1, e2]
    have hz : strV [] = .string ⟨#[]⟩ := rfl
    rw [hz]
    clear hv e1 e2 hz
    go_upto_region 2 with fail
    go_quiet (fail)
    go_wp2_with fail
    go_ret
    exact ⟨rfl, bdn HB1.out _⟩
  obtain ⟨p1, p2, p3, p4, p5⟩ := has_parts k hv.1 hv.2
  have hx2 := HX.out
  unfold rightB at hx2
  rw [decide_eq_true hv.1, decide_eq_true hv.2, Bool.true_and, Bool.true_and, ← p1, ← p2, ← p3] at hx2
  obtain ⟨Wd, hW⟩ : ∃ W, W = mk8 (wordOf k) := ⟨_, rfl⟩
  obtain ⟨Pt, hP⟩ : ∃ P, P = mk8 (partsOf k) := ⟨_, rfl⟩
  rw [strV_mk, strV_mk, ← hW, ← hP]
  have hwd : Wd.toList.isEmpty = false := by rw [hW, mk8_toList]; cases h : wordOf k with
    | nil => exact absurd h p4
    | cons _ _ => rfl
  have hwd2 : (!Wd.toList.isEmpty) = true := by rw [hwd]; rfl
  have hwd3 : Wd.toList ≠ [] := fun h => by rw [h] at hwd; cases hwd
  have hPl : Pt.data.toList = partsOf k := by rw [hP]; rfl
  have hPs : Pt.size ≤ 9223372036854775807 := by
    rw [← str_len, hPl]; omega
  rw [← hPl] at hx2
  have HHA : Hid (∀ w', Calls Tryz.prog 20 #[.string Pt, .int .u8 65] w' fun e w'' => e = .returned (.bool (hasB Pt.data.toList 65)) ∧ w'' = w') := Lib.hid fun w' => has_any Pt 65 hPs w'
  have HHB : Hid (∀ w', Calls Tryz.prog 20 #[.string Pt, .int .u8 66] w' fun e w'' => e = .returned (.bool (hasB Pt.data.toList 66)) ∧ w'' = w') := Lib.hid fun w' => has_any Pt 66 hPs w'
  have HHN : Hid (∀ w', Calls Tryz.prog 20 #[.string Pt, .int .u8 78] w' fun e w'' => e = .returned (.bool (hasB Pt.data.toList 78)) ∧ w'' = w') := Lib.hid fun w' => has_any Pt 78 hPs w'
  have a1 : decide ((0 : Int) < a) = decide (a ≠ 0) := by rw [Bool.eq_iff_iff, decide_eq_true_iff, decide_eq_true_iff]; omega
  have a2 : decide (0 < a) = decide (a ≠ 0) := by rw [Bool.eq_iff_iff, decide_eq_true_iff, decide_eq_true_iff]; omega
  have b1 : decide ((0 : Int) < b) = decide (b ≠ 0) := by rw [Bool.eq_iff_iff, decide_eq_true_iff, decide_eq_true_iff]; omega
  have b2 : decide (0 < b) = decide (b ≠ 0) := by rw [Bool.eq_iff_iff, decide_eq_true_iff, decide_eq_true_iff]; omega
  generalize hasB Pt.data.toList 65 = HA at *
  generalize hasB Pt.data.toList 66 = HBt at *
  generalize hasB Pt.data.toList 78 = HN at *
  generalize decide (a ≠ 0) = A at *
  generalize decide (b ≠ 0) = B at *
  have HX2 := Lib.hid hx2
  have c1 := cell_of_row w1 n1 1 _ _ _ HR1.out
  have c2 := cell_of_row w1 n1 2 _ _ _ HR1.out
  have HWD := Lib.hid hW
  clear hW hP HX hv p1 p2 p3 p4 p5 hx2 hPl hPs HK HWD
  go_upto_region 2 with fail
  cases HA <;> cases A
  case false.true =>
    have hr : x = false := by rw [HX2.out]; rfl
    subst hr
    go_quiet ((go_at_call 20; first | (with_reducible exact Calls.quiet_of_same (HHA.out _)) | (with_reducible exact Calls.quiet_of_same (HHB.out _))))
    go_wp2_with fail
    go_ret
    exact ⟨rfl, bdn HB1.out _⟩
  case true.false =>
    have hr : x = false := by rw [HX2.out]; rfl
    subst hr
    go_quiet ((go_at_call 20; first | (with_reducible exact Calls.quiet_of_same (HHA.out _)) | (with_reducible exact Calls.quiet_of_same (HHB.out _))))
    go_wp2_with fail
    go_ret
    exact ⟨rfl, bdn HB1.out _⟩
  all_goals
    cases HBt <;> cases B
    case false.true =>
      have hr : x = false := by rw [HX2.out]; rfl
      subst hr
      go_quiet ((go_at_call 20; first | (with_reducible exact Calls.quiet_of_same (HHA.out _)) | (with_reducible exact Calls.quiet_of_same (HHB.out _))))
      go_wp2_with fail
      go_ret
      exact ⟨rfl, bdn HB1.out _⟩
    case true.false =>
      have hr : x = false := by rw [HX2.out]; rfl
      subst hr
      go_quiet ((go_at_call 20; first | (with_reducible exact Calls.quiet_of_same (HHA.out _)) | (with_reducible exact Calls.quiet_of_same (HHB.out _))))
      go_wp2_with fail
      go_ret
      exact ⟨rfl, bdn HB1.out _⟩
    all_goals
      have hx3 := HX2.out
      simp only [beq_self_eq_true, Bool.true_and] at hx3
      have HX3 := Lib.hid hx3
      clear hx3 HX2
      go_quiet ((go_at_call 20; first | (with_reducible exact Calls.quiet_of_same (HHA.out _)) | (with_reducible exact Calls.quiet_of_same (HHB.out _))))
      have HB2 := Lib.hid (bdn HB1.out nq)
      have c3 : (w1.drewN nq).cell? ⟨n1, 3, none⟩ = some (.string nm) := cell_of_row (w1.drewN nq) n1 3 _ _ _ HR1.out
      clear HB1 HR1 HHA HHB c1 c2 a1 a2 b1 b2
      generalize w1.drewN nq = w2 at *
      go_wp2_with fail
      refine (HHN.out _).mono ?_
      rintro e w3 ⟨rfl, hw⟩
      have hw' := hw.symm
      subst hw'
      clear hw HHN
      cases HN
      · have hse := str_isEmpty nm
        by_cases hz : nm.size = 0
        · have hr : x = true := by rw [HX3.out]; simp [hz]
          subst hr
          rw [decide_eq_true hz] at hse
          have hz2 : nm.toList = [] := nm_none hz
          clear hz
          go_wp2_with fail
          go_ret
          exact ⟨rfl, HB2.out⟩
        · have hr : x = false := by rw [HX3.out]; simp [hz]
          subst hr
          rw [decide_eq_false hz] at hse
          clear hz
          go_wp2_with fail
          go_ret
          exact ⟨rfl, HB2.out⟩
      · have hr : x = nameB nm := by
          rw [HX3.out]
          by_cases hz : nm.size = 0
          · rw [name_size hz]; simp [hz]
          · simp [hz]
        have HR := Lib.hid hr
        clear hr
        go_wp2_with fail
        refine (rname_any nm _ HS.out).mono ?_
        rintro e w4 ⟨rfl, hb4⟩
        have HB4 := Lib.hid (btr HB2.out hb4)
        clear hb4
        go_wp2_with fail
        go_ret
        exact ⟨by rw [HR.out]; rfl, HB4.out⟩
end Go.Proofs.YtminfdlhbecnhaaGreatDoor
