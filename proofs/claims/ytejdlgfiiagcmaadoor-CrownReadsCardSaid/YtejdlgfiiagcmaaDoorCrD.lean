/- Crowns: Format. -/
import Derived.Test.YtejdlgfiiagcmaaDoorCrC
namespace Go.Proofs.YtejdlgfiiagcmaaDoor
open Go.RowKit

/-- the first sectors made blank -/
def fmtK : Nat → Dk → Dk
  | 0, d => d
  | k + 1, d => if (fmtK k d).now k = blank512 then fmtK k d else (fmtK k d).wrote k blank512

theorem fmtK_easy (d : Dk) (h : d.bound = false) (l0 : -9223372036854775808 < d.left) (l1 : d.left ≤ 9223372036854775807) : ∀ k, (fmtK k d).bound = false ∧ -9223372036854775808 < (fmtK k d).left ∧ (fmtK k d).left ≤ 9223372036854775807 ∧ (fmtK k d).count ≤ d.count + k ∧ (fmtK k d).wait.length ≤ d.wait.length + k ∧ (fmtK k d).safe = d.safe := by
  intro k
  induction k with
  | zero => exact ⟨h, l0, l1, Nat.le_refl _, Nat.le_refl _, rfl⟩
  | succ k ih =>
    obtain ⟨i1, i2, i3, i4, i5, i6⟩ := ih
    unfold fmtK
    split
    · exact ⟨i1, i2, i3, by omega, by omega, i6⟩
    · refine ⟨i1, ?_, ?_, ?_, ?_, i6⟩
      · show _ < (if (fmtK k d).bound then (fmtK k d).left - 1 else (fmtK k d).left); rw [i1]; exact i2
      · show (if (fmtK k d).bound then (fmtK k d).left - 1 else (fmtK k d).left) ≤ _; rw [i1]; exact i3
      · show (fmtK k d).count + 1 ≤ _; omega
      · show ((fmtK k d).wait ++ [(k, blank512)]).length ≤ _; rw [List.length_append]; simp; omega

def Dk.formatted (d : Dk) : Dk := (fmtK 2 d).crowned Cr.first

structure FmtRel (w : World) (g : Nat) (d : Dk) (F : Nat → Prop) (k : Nat) (wr : World) : Prop where
  ex : ∃ F', DiskAt wr g (fmtK k d) F' ∧ Moved w wr F F'

set_option maxRecDepth 10000 in
set_option maxHeartbeats 1600000 in
theorem cformat_ok (g : Nat) (d : Dk) (F : Nat → Prop) (w : World) (h : DiskAt w g d F) (h4 : 4 ≤ d.safe.length) (hb : d.bound = false) (hl0 : -9223372036854775808 < d.left) (hl1 : d.left ≤ 9223372036854775807) (hc : d.count ≤ 800000) (hw : d.wait.length ≤ 800000) :
    Calls Tryd.prog 19 #[.pointer (some ⟨g, 0, none⟩)] w fun e w' => ∃ F', e = .returned (.int .i64 0) ∧ DiskAt w' g d.formatted F' ∧ Moved w w' F F' := by
  have he := fmtK_easy d hb hl0 hl1
  have hk4 : decide ((d.safe.length : Int) < 4) = false := decide_eq_false (by omega)
  have HE := Lib.hid he
  have HD := Lib.hid h
  have H4 := Lib.hid h4
  have HC := Lib.hid hc
  have HW := Lib.hid hw
  clear he h h4 hb hl0 hl1 hc hw
  go_enter Tryd.func19, Tryd.ntmps19
  go_wp2_with fail
  refine (sectors_any g d F w HD.out).mono ?_
  rintro e w1 ⟨rfl, hw1⟩
  have hw1' := hw1.symm
  subst hw1'
  clear hw1
  go_wp2_with fail
  go_loopw [3, 11] (fun _ i wr => ∃ k : Nat, k ≤ 2 ∧ i = .int .i64 k ∧ FmtRel w g d F k wr) (fun _ i _ => 2 - (intOf i).toNat)
  case atStart => exact ⟨0, by omega, rfl, ⟨F, HD.out, Moved.refl _ _⟩⟩
  case round =>
    obtain ⟨k, hk, rfl, hr⟩ := hrel
    obtain ⟨F1, hd1, hm1⟩ := hr.ex
    have HD1 := Lib.hid hd1
    have HM1 := Lib.hid hm1
    clear hr hd1 hm1
    by_cases hlt : k < 2
    · obtain ⟨e1, e2, e3, e4, e5, e6⟩ := HE.out k
      have hks : k < (fmtK k d).safe.length := by rw [e6]; have := H4.out; omega
      have hcount : (fmtK k d).count ≤ 1000000 := by have := HC.out; omega
      have hwait : (fmtK k d).wait.length ≤ 1000000 := by have := HW.out; omega
      have hmay : (fmtK k d).may = true := by unfold Dk.may; rw [e1]; rfl
      have hstep : fmtK (k + 1) d = if (fmtK k d).now k = blank512 then fmtK k d else (fmtK k d).wrote k blank512 := rfl
      generalize hd1 : fmtK k d = d1 at *
      have HKS := Lib.hid hks
      have HCO := Lib.hid hcount
      have HWA := Lib.hid hwait
      have HMAY := Lib.hid hmay
      have HL0 := Lib.hid e2
      have HL1 := Lib.hid e3
      have HSTEP := Lib.hid hstep
      clear hks hcount hwait hmay e1 e2 e3 e4 e5 e6 hstep hd1
      go_wp2_with fail
      refine (blank_ok g d1 F1 k wr HD1.out HKS.out HWA.out).mono ?_
      rintro e w2 ⟨rfl, hb2⟩
      have HD2 := Lib.hid (HD1.out.below hb2)
      have HM2 := Lib.hid (HM1.out.trans (Moved.of_below F1 hb2))
      clear hb2
      by_cases hbl : d1.now k = blank512
      · rw [decide_eq_true hbl]
        have hn : FmtRel w g d F (k + 1) w2 := ⟨F1, by rw [HSTEP.out, if_pos hbl]; exact HD2.out, HM2.out⟩
        have HN := Lib.hid hn
        clear hn hbl
        go_wp2_with fail
        go_roundw
        case rel => exact ⟨k + 1, by omega, by go_num, HN.out⟩
        case measure => simp [intOf]; try omega
      · rw [decide_eq_false hbl]
        have HBL := Lib.hid hbl
        clear hbl
        go_wp2_with (refine wpList_make8 rfl _ _ 25 5 make8 rfl 512 rfl rfl (by omega) (fun w3 how hbw => ?_))
        refine (write_ok g d1 F1 k (.slice (some ⟨w2.heap.size, 0, none⟩) 512 512) blank512 w3 (HD2.out.below hbw) HKS.out HMAY.out how.bytes blank_len HL0.out HL1.out HCO.out HWA.out).mono ?_
        rintro e w4 ⟨F4, rfl, hd4, hm4⟩
        have hn : FmtRel w g d F (k + 1) w4 := ⟨F4, by rw [HSTEP.out, if_neg HBL.out]; exact hd4, (HM2.out.trans (Moved.of_below F1 hbw)).trans hm4⟩
        have HN := Lib.hid hn
        clear hn hd4 hm4 how hbw
        go_wp2_with fail
        go_roundw
        case rel => exact ⟨k + 1, by omega, by go_num, HN.out⟩
        case measure => simp [intOf]; try omega
    · have e2 : k = 2 := by omega
      subst e2
      obtain ⟨e1, e2, e3, e4, e5, e6⟩ := HE.out 2
      have hez : Easy (fmtK 2 d) := ⟨e1, e2, e3, by have := HC.out; omega, by have := HW.out; omega⟩
      have h2s : 2 ≤ (fmtK 2 d).safe.length := by rw [e6]; have := H4.out; omega
      have HEZ := Lib.hid hez
      have H2S := Lib.hid h2s
      clear hez h2s e1 e2 e3 e4 e5 e6 hlt hk
      go_wp2_with fail
      refine (first_any wr).mono ?_
      rintro e w5 ⟨rfl, hb5⟩
      have HD5 := Lib.hid (HD1.out.below hb5)
      have HM5 := Lib.hid (HM1.out.trans (Moved.of_below F1 hb5))
      clear hb5
      go_wp2_with fail
      refine (cwrite_ok g (fmtK 2 d) F1 Cr.first w5 HD5.out H2S.out HEZ.out Cr.first_ok (by decide)).mono ?_
      rintro e w6 ⟨F6, rfl, hd6, hm6⟩
      have HD6 := Lib.hid hd6
      have HM6 := Lib.hid (HM5.out.trans hm6)
      clear hd6 hm6
      go_wp2_with fail
      go_ret
      exact ⟨F6, rfl, HD6.out, HM6.out⟩
end Go.Proofs.YtejdlgfiiagcmaaDoor
