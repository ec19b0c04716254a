/- Walk: what stands between tokens is skipped. -/
import Derived.Test.YtffghdehimhpiaaDoorTkRun
namespace Go.Proofs.YtffghdehimhpiaaDoor
open Go.RowKit

theorem class_three (n : Nat) : classOf n = 3 ↔ n = 32 ∨ n = 9 ∨ n = 10 := by
  unfold classOf
  have h : (n = 32 ∨ n = 9 ∨ n = 10) → letN n = false ∧ digN n = false := by
    rintro (rfl | rfl | rfl) <;> exact ⟨rfl, rfl⟩
  constructor
  · intro hc
    revert hc
    cases letN n
    · cases digN n
      · simp only [Bool.false_eq_true, if_false]
        split
        · next h => exact fun _ => h
        · intro h; cases h
      · intro h; cases h
    · intro h; cases h
  · intro hc
    obtain ⟨h1, h2⟩ := h hc
    rw [h1, h2, if_neg (by decide), if_neg (by decide), if_pos hc]

/-- the next place at which a token may begin -/
structure Skipped (l : List UInt8) (i j : Nat) : Prop where
  ge : i ≤ j
  le : j ≤ l.length
  came : ∀ out, Came l i out → Came l j out
  stop : ∀ h : j < l.length, classOf (l[j]).toNat ≠ 3 ∧ (l[j]).toNat ≠ 35

def SkipPost (w : World) (g : Nat) (s : ByteArray) (i : Nat) (e : Ending) (w' : World) : Prop := e = .returned (.tuple #[]) ∧ ∃ j, ScanAt w' g s j ∧ Only w w' (fun k => k = g) ∧ Skipped s.data.toList i j

set_option maxRecDepth 100000 in
set_option maxHeartbeats 3200000 in
theorem skip_any (g i : Nat) (s : ByteArray) (w : World) (hr : ScanAt w g s i) (hi : i ≤ s.size) (hs : s.size ≤ 281474976710656) :
    Calls Tryd.prog 25 #[.pointer (some ⟨g, 0, none⟩)] w (SkipPost w g s i) := by
  have HR := Lib.hid hr
  clear hr
  go_enter Tryd.func25, Tryd.ntmps25
  go_wp2_with fail
  go_loopw [] (fun wr => ∃ k : Nat, i ≤ k ∧ k ≤ s.size ∧ Hid (ScanAt wr g s k) ∧ Hid (Only w wr (fun k => k = g)) ∧ Hid (∀ out, Came s.data.toList i out → Came s.data.toList k out)) (fun wr => s.size - (intOf ((wr.cell? ⟨g, 1, none⟩).getD undef)).toNat)
  case atStart => exact ⟨i, Nat.le_refl _, hi, HR, Lib.hid (Only.refl _ _), Lib.hid fun _ h => h⟩
  case round =>
    obtain ⟨k, hik, hk, hsc, hon, hall⟩ := hrel
    clear HR
    have c0 := cell_of_row wr g 0 _ _ _ hsc.out
    have c1 := cell_of_row wr g 1 _ _ _ hsc.out
    by_cases hlt : k < s.size
    rotate_left
    · have ek : k = s.size := by omega
      subst ek
      have d1 : decide ((s.size : Int) < s.size) = false := decide_eq_false (by omega)
      go_upto_region 0 with fail
      go_quiet (fail)
      go_wp2_with fail
      refine bodyPost_end (results_none rfl _ _ _) rfl ?_
      exact ⟨rfl, s.size, scan_drewN hsc.out _, hon.out.drewN _, ⟨hik, by rw [str_len]; omega, hall.out, fun h => absurd h (by rw [str_len]; omega)⟩⟩
    have hll : k < s.data.toList.length := by rw [str_len]; exact hlt
    have d1 : decide ((k : Int) < s.size) = true := decide_eq_true (by omega)
    have d1n : decide (k < s.size) = true := decide_eq_true hlt
    have hgb := str_get s k hlt
    go_upto_region 0 with fail
    go_quiet (fail)
    have HSC : Hid (ScanAt (wr.drewN nq) g s k) := Lib.hid (scan_drewN hsc.out nq)
    have HON : Hid (Only w (wr.drewN nq) (fun k => k = g)) := Lib.hid (hon.out.drewN nq)
    have HM : Hid (s.size - (intOf ((wr.cell? ⟨g, 1, none⟩).getD undef)).toNat = s.size - k) := Lib.hid (by rw [c1]; simp [intOf])
    have c0 := cell_of_row _ g 0 _ _ _ HSC.out
    have c1 := cell_of_row _ g 1 _ _ _ HSC.out
    clear hsc hon
    generalize wr.drewN nq = w2 at *
    clear nq
    go_upto_region 1 with fail
    go_quiet (fail)
    have HSC : Hid (ScanAt (w2.drewN nq) g s k) := Lib.hid (scan_drewN HSC.out nq)
    have HON : Hid (Only w (w2.drewN nq) (fun k => k = g)) := Lib.hid (HON.out.drewN nq)
    have c0 := cell_of_row _ g 0 _ _ _ HSC.out
    have c1 := cell_of_row _ g 1 _ _ _ HSC.out
    have f1 := frozen_of_row _ g 1 _ _ HSC.out
    generalize w2.drewN nq = w3 at *
    clear nq d1 d1n
    obtain ⟨b, hb⟩ : ∃ b, b = (s[k]'hlt).toNat := ⟨_, rfl⟩
    have hbl : (s.data.toList[k]'hll).toNat = b := by rw [hgb, ← hb]
    rw [← hb]
    have HBL := Lib.hid hbl
    clear hgb hb hbl
    rcases (by omega : b = 32 ∨ b = 9 ∨ b = 10 ∨ b = 35 ∨ (b ≠ 32 ∧ b ≠ 9 ∧ b ≠ 10 ∧ b ≠ 35)) with hb1 | hb1 | hb1 | hb1 | ⟨h32, h9, h10, h35⟩
    · have HN : Hid (∀ out, Came s.data.toList i out → Came s.data.toList (k + 1) out) := Lib.hid fun out h => came_blank (hall.out out h) hll (by rw [HBL.out]; exact (class_three _).2 (by omega))
      have e32 : ((b : Int) == 32) = true := by rw [hb1]; rfl
      have g32 : decide ((b : Int) = 32) = true := e32
      clear hall hb1 HBL
      go_wp2_with fail
      go_roundw
      case rel => exact ⟨k + 1, by omega, by omega, Lib.hid (by have := scan_set HSC.out (k + 1); exact this), Lib.hid (HON.out.trans (Only.setCell _ _ _) fun _ _ h => h), HN⟩
      case measure =>
        have e1 := cell_of_row _ g 1 _ _ _ (scan_set HSC.out (k + 1))
        show s.size - (intOf (((w3.setCell ⟨g, 1, none⟩ (.int .i64 ((k + 1 : Nat) : Int))).cell? ⟨g, 1, none⟩).getD undef)).toNat < s.size - (intOf ((wr.cell? ⟨g, 1, none⟩).getD undef)).toNat
        rw [e1, HM.out]
        simp [intOf]
        omega
    · have HN : Hid (∀ out, Came s.data.toList i out → Came s.data.toList (k + 1) out) := Lib.hid fun out h => came_blank (hall.out out h) hll (by rw [HBL.out]; exact (class_three _).2 (by omega))
      have e32 : ((b : Int) == 32) = false := beq_false_of_ne (by omega)
      have g32 : decide ((b : Int) = 32) = false := e32
      have e9 : ((b : Int) == 9) = true := by rw [hb1]; rfl
      have g9 : decide ((b : Int) = 9) = true := e9
      clear hall hb1 HBL
      go_wp2_with fail
      go_roundw
      case rel => exact ⟨k + 1, by omega, by omega, Lib.hid (by have := scan_set HSC.out (k + 1); exact this), Lib.hid (HON.out.trans (Only.setCell _ _ _) fun _ _ h => h), HN⟩
      case measure =>
        have e1 := cell_of_row _ g 1 _ _ _ (scan_set HSC.out (k + 1))
        show s.size - (intOf (((w3.setCell ⟨g, 1, none⟩ (.int .i64 ((k + 1 : Nat) : Int))).cell? ⟨g, 1, none⟩).getD undef)).toNat < s.size - (intOf ((wr.cell? ⟨g, 1, none⟩).getD undef)).toNat
        rw [e1, HM.out]
        simp [intOf]
        omega
    · have HN : Hid (∀ out, Came s.data.toList i out → Came s.data.toList (k + 1) out) := Lib.hid fun out h => came_blank (hall.out out h) hll (by rw [HBL.out]; exact (class_three _).2 (by omega))
      have e32 : ((b : Int) == 32) = false := beq_false_of_ne (by omega)
      have g32 : decide ((b : Int) = 32) = false := e32
      have e9 : ((b : Int) == 9) = false := beq_false_of_ne (by omega)
      have g9 : decide ((b : Int) = 9) = false := e9
      have e10 : ((b : Int) == 10) = true := by rw [hb1]; rfl
      have g10 : decide ((b : Int) = 10) = true := e10
      clear hall hb1 HBL
      go_wp2_with fail
      go_roundw
      case rel => exact ⟨k + 1, by omega, by omega, Lib.hid (by have := scan_set HSC.out (k + 1); exact this), Lib.hid (HON.out.trans (Only.setCell _ _ _) fun _ _ h => h), HN⟩
      case measure =>
        have e1 := cell_of_row _ g 1 _ _ _ (scan_set HSC.out (k + 1))
        show s.size - (intOf (((w3.setCell ⟨g, 1, none⟩ (.int .i64 ((k + 1 : Nat) : Int))).cell? ⟨g, 1, none⟩).getD undef)).toNat < s.size - (intOf ((wr.cell? ⟨g, 1, none⟩).getD undef)).toNat
        rw [e1, HM.out]
        simp [intOf]
        omega
    · have HN : Hid (∀ out, Came s.data.toList i out → Came s.data.toList (k + noteOf (s.data.toList.drop k)) out) := Lib.hid fun out h => came_note (hall.out out h) hll (by rw [HBL.out]; exact hb1)
      have HP : Hid (0 < noteOf (s.data.toList.drop k)) := Lib.hid (by rw [drop_cons _ k hll]; exact note_pos (by rw [HBL.out]; exact hb1))
      have HQ : Hid (k + noteOf (s.data.toList.drop k) ≤ s.size) := Lib.hid (by
        have h1 : (s.data.toList.drop k).length = s.size - k := by rw [List.length_drop, str_len]
        have h2 : noteOf (s.data.toList.drop k) ≤ (s.data.toList.drop k).length := by
          unfold noteOf
          exact (List.takeWhile_sublist _).length_le
        omega)
      have e32 : ((b : Int) == 32) = false := beq_false_of_ne (by omega)
      have g32 : decide ((b : Int) = 32) = false := e32
      have e9 : ((b : Int) == 9) = false := beq_false_of_ne (by omega)
      have g9 : decide ((b : Int) = 9) = false := e9
      have e10 : ((b : Int) == 10) = false := beq_false_of_ne (by omega)
      have g10 : decide ((b : Int) = 10) = false := e10
      have e35 : ((b : Int) == 35) = true := by rw [hb1]; rfl
      have g35 : decide ((b : Int) = 35) = true := e35
      clear hall hb1 HBL
      go_wp2_with fail
      refine (run_note g k s w3 HSC.out hk hs).mono ?_
      rintro e w4 ⟨rfl, hs4, ho4⟩
      have HS4 := Lib.hid hs4
      have HO4 := Lib.hid ho4
      clear hs4 ho4
      go_wp2_with fail
      go_roundw
      case rel => exact ⟨k + noteOf (s.data.toList.drop k), by omega, HQ.out, HS4, Lib.hid (HON.out.trans HO4.out fun _ _ h => h), HN⟩
      case measure =>
        have e1 := cell_of_row _ g 1 _ _ _ HS4.out
        rw [HM.out]
        rw [e1]
        have h1 := HP.out
        have h2 := HQ.out
        simp [intOf]
        omega
    · have HST : Hid (∀ h : k < s.data.toList.length, classOf (s.data.toList[k]).toNat ≠ 3 ∧ (s.data.toList[k]).toNat ≠ 35) := Lib.hid fun _ => by
        rw [HBL.out]
        exact ⟨fun h => by rcases (class_three _).1 h with h | h | h <;> omega, h35⟩
      have e32 : ((b : Int) == 32) = false := beq_false_of_ne (by omega)
      have g32 : decide ((b : Int) = 32) = false := e32
      have e9 : ((b : Int) == 9) = false := beq_false_of_ne (by omega)
      have g9 : decide ((b : Int) = 9) = false := e9
      have e10 : ((b : Int) == 10) = false := beq_false_of_ne (by omega)
      have g10 : decide ((b : Int) = 10) = false := e10
      have e35 : ((b : Int) == 35) = false := beq_false_of_ne (by omega)
      have g35 : decide ((b : Int) = 35) = false := e35
      clear h32 h9 h10 h35 HBL
      go_wp2_with fail
      refine bodyPost_end (results_none rfl _ _ _) rfl ?_
      exact ⟨rfl, k, HSC.out, HON.out, ⟨hik, Nat.le_of_lt hll, hall.out, HST.out⟩⟩
end Go.Proofs.YtffghdehimhpiaaDoor
