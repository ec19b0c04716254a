/- Walks: part; the bytes of a class from here on. -/
import Derived.Test.YtffghdehimhpiaaDoorTkP
import Derived.Test.YtffghdehimhpiaaDoorApp
import Derived.Test.YtffghdehimhpiaaDoorOpRef
import Derived.Test.YtffghdehimhpiaaDoorOpRefR
import Derived.Deep.QuietTactic
import Derived.BigQuiet
namespace Go.Proofs.YtffghdehimhpiaaDoor
open Go.RowKit

/-- a text that is scanned, and the place in it -/
def ScanAt (w : World) (g : Nat) (s : ByteArray) (i : Nat) : Prop := w.heap[g]? = some (.cells #[.string s, .int .i64 i] 48 (0, 0))

theorem scan_drewN {w : World} {g : Nat} {s : ByteArray} {i : Nat} (h : ScanAt w g s i) (n : Nat) : ScanAt (w.drewN n) g s i := h
theorem scan_set {w : World} {g : Nat} {s : ByteArray} {i : Nat} (h : ScanAt w g s i) (j : Nat) : ScanAt (w.setCell ⟨g, 1, none⟩ (.int .i64 j)) g s j := heap_setCell_same w g 1 _ _ (.int .i64 j) h
theorem scan_keep {w w' : World} {g : Nat} {s : ByteArray} {i : Nat} (h : ScanAt w g s i) (hb : Below w.heap.size w w') : ScanAt w' g s i := (hb.block g (Array.getElem?_eq_some_iff.1 h).1).trans h

set_option maxRecDepth 10000 in
theorem part_any (n : Nat) (w : World) : Calls Tryd.prog 37 #[.int .u8 n] w fun e w' => e = .returned (.bool (partN n)) ∧ w' = w := by
  obtain ⟨x, hx⟩ : ∃ x, x = partN n := ⟨_, rfl⟩
  rw [← hx]
  unfold partN at hx
  have HX := Lib.hid hx
  clear hx
  go_enter Tryd.func37, Tryd.ntmps37
  go_wp2_with fail
  refine (letter_any n w).mono ?_
  rintro e w1 ⟨rfl, hw⟩
  have hw' := hw.symm
  subst hw'
  clear hw
  cases h1 : letN n with
  | true =>
    have hr : x = true := by rw [HX.out, h1]; rfl
    subst hr
    clear h1
    go_wp2_with fail
    go_ret
    exact ⟨rfl, rfl⟩
  | false =>
    have hr : Hid (x = digN n) := Lib.hid (by rw [HX.out, h1]; rfl)
    clear h1
    go_wp2_with fail
    refine (digit_any n _).mono ?_
    rintro e w2 ⟨rfl, hw⟩
    have hw' := hw.symm
    subst hw'
    clear hw
    go_wp2_with fail
    go_ret
    exact ⟨by rw [hr.out]; rfl, rfl⟩

def noteN (n : Nat) : Bool := n != 10

set_option maxRecDepth 10000 in
theorem note_any (n : Nat) (w : World) : Calls Tryd.prog 36 #[.int .u8 n] w fun e w' => e = .returned (.bool (noteN n)) ∧ w' = w := by
  obtain ⟨x, hx⟩ : ∃ x, x = noteN n := ⟨_, rfl⟩
  rw [← hx]
  have HX := Lib.hid hx
  clear hx
  go_enter Tryd.func36, Tryd.ntmps36
  go_wp2_with fail
  go_ret
  have hb : ((n : Int) != 10) = noteN n := by
    unfold noteN
    rw [Bool.eq_iff_iff, bne_iff_ne, bne_iff_ne]
    omega
  exact ⟨by rw [HX.out, ← hb]; rfl, rfl⟩

theorem take_while_end {p : UInt8 → Bool} (l : List UInt8) (n : Nat) (hn : n ≤ l.length) (h1 : ∀ j (h : j < l.length), j < n → p (l[j]) = true) (h2 : ∀ h : n < l.length, p (l[n]) = false) : (l.takeWhile p).length = n := by
  induction n generalizing l with
  | zero =>
    cases l with
    | nil => rfl
    | cons b r =>
      have := h2 (by simp)
      rw [List.takeWhile_cons, if_neg (by simpa using this)]
      rfl
  | succ n ih =>
    cases l with
    | nil => simp at hn
    | cons b r =>
      have hb := h1 0 (by simp) (by omega)
      rw [List.takeWhile_cons, if_pos (by simpa using hb)]
      rw [List.length_cons, ih r (by simpa using hn) (fun j h hj => by have := h1 (j + 1) (by simp; omega) (by omega); simpa using this) (fun h => by have := h2 (by simp; omega); simpa using this)]

theorem str_get (s : ByteArray) (j : Nat) (h : j < s.size) : s.data.toList[j]'(by rw [str_len]; exact h) = s[j]'h := by
  have := str_at s j h
  rw [List.getElem?_eq_getElem (by rw [str_len]; exact h)] at this
  exact Option.some.inj this

/-- how far a class of bytes goes -/
theorem run_until (p : Nat → Bool) (s : ByteArray) (i k : Nat) (hi : i ≤ k) (hk : k ≤ s.size) (h1 : ∀ j (h : j < s.size), i ≤ j → j < k → p (s[j]'h).toNat = true) (h2 : ∀ h : k < s.size, p (s[k]'h).toNat = false) :
    ((s.data.toList.drop i).takeWhile fun b => p b.toNat).length = k - i := by
  refine take_while_end _ _ (by rw [List.length_drop, str_len]; omega) (fun j h hj => ?_) (fun h => ?_)
  · rw [List.length_drop, str_len] at h
    rw [List.getElem_drop, str_get s (i + j) (by omega)]
    exact h1 (i + j) (by omega) (by omega) (by omega)
  · rw [List.length_drop, str_len] at h
    rw [List.getElem_drop, str_get s (i + (k - i)) (by omega)]
    have e : i + (k - i) = k := by omega
    have := h2 (by omega)
    simp only [e]
    exact this

theorem mid_bytes (s : ByteArray) (i k : Nat) : (s.extract i k).data.toList = (s.data.toList.drop i).take (k - i) := Lib.extract_data s i k

set_option maxRecDepth 100000 in
set_option maxHeartbeats 1600000 in
theorem run_part (g i : Nat) (s : ByteArray) (w : World) (hr : ScanAt w g s i) (hi : i ≤ s.size) (hs : s.size ≤ 281474976710656) :
    Calls Tryd.prog 35 #[.pointer (some ⟨g, 0, none⟩), .func (.func 37) #[] #[]] w fun e w' => e = .returned (strV ((s.data.toList.drop i).take (runOf (s.data.toList.drop i)))) ∧ ScanAt w' g s (i + runOf (s.data.toList.drop i)) ∧ Only w w' (fun k => k = g) := by
  have hc1 := cell_of_row w g 1 _ _ _ hr
  have HR := Lib.hid hr
  have HI := Lib.hid hi
  clear hr
  go_enter Tryd.func35, Tryd.ntmps35
  go_wp2_with fail
  go_loopw [] (fun wr => ∃ k : Nat, i ≤ k ∧ k ≤ s.size ∧ Hid (ScanAt wr g s k) ∧ Hid (Only w wr (fun k => k = g)) ∧ Hid (∀ j (h : j < s.size), i ≤ j → j < k → partN (s[j]'h).toNat = true)) (fun wr => s.size - (intOf ((wr.cell? ⟨g, 1, none⟩).getD undef)).toNat)
  case atStart => exact ⟨i, Nat.le_refl _, hi, HR, Lib.hid (Only.refl _ _), Lib.hid fun j _ h1 h2 => absurd h1 (by omega)⟩
  case round =>
    obtain ⟨k, hik, hk, hsc, hon, hall⟩ := hrel
    clear hc1 HR
    have c0 := cell_of_row wr g 0 _ _ _ hsc.out
    have c1 := cell_of_row wr g 1 _ _ _ hsc.out
    have f1 := frozen_of_row wr g 1 _ _ hsc.out
    by_cases hlt : k < s.size
    · have d1 : decide ((k : Int) < s.size) = true := decide_eq_true (by omega)
      have d1n : decide (k < s.size) = true := decide_eq_true hlt
      cases hp : partN (s[k]'hlt).toNat with
      | true =>
        have HN : Hid (∀ j (h : j < s.size), i ≤ j → j < k + 1 → partN (s[j]'h).toNat = true) := Lib.hid fun j h h1 h2 => by
          rcases Nat.lt_or_ge j k with h' | h'
          · exact hall.out j h h1 h'
          · have : j = k := by omega
            subst this
            exact hp
        have HP : Hid (∀ w', Calls Tryd.prog 37 #[.int .u8 (s[k]'hlt).toNat] w' fun e w'' => e = .returned (.bool true) ∧ w'' = w') := Lib.hid fun w' => by rw [← hp]; exact part_any _ w'
        clear hp hall
        go_upto_region 2 with fail
        go_quiet ((go_at_call 37; exact Calls.quiet_of_same (HP.out _)))
        clear HP
        go_wp2_with fail
        go_roundw
        case rel => exact ⟨k + 1, by omega, by omega, Lib.hid (by have := scan_set (scan_drewN hsc.out nq) (k + 1); exact this), Lib.hid ((hon.out.drewN nq).trans (Only.setCell _ _ _) fun _ _ h => h), HN⟩
        case measure =>
          have e1 := cell_of_row _ g 1 _ _ _ (scan_set (scan_drewN hsc.out nq) (k + 1))
          have e2 := cell_of_row _ g 1 _ _ _ hsc.out
          show s.size - (intOf ((((wr.drewN nq).setCell ⟨g, 1, none⟩ (.int .i64 ((k + 1 : Nat) : Int))).cell? ⟨g, 1, none⟩).getD undef)).toNat < s.size - (intOf ((wr.cell? ⟨g, 1, none⟩).getD undef)).toNat
          rw [e1, e2]
          simp [intOf]
          omega
      | false =>
        have HP : Hid (∀ w', Calls Tryd.prog 37 #[.int .u8 (s[k]'hlt).toNat] w' fun e w'' => e = .returned (.bool false) ∧ w'' = w') := Lib.hid fun w' => by rw [← hp]; exact part_any _ w'
        have HL : Hid (runOf (s.data.toList.drop i) = k - i) := Lib.hid (run_until partN s i k hik hk (fun j h h1 h2 => hall.out j h h1 h2) (fun _ => hp))
        clear hp hall
        go_upto_region 2 with fail
        go_quiet ((go_at_call 37; exact Calls.quiet_of_same (HP.out _)))
        clear HP
        go_wp2_with fail
        have HSC : Hid (ScanAt (wr.drewN nq) g s k) := Lib.hid (scan_drewN hsc.out nq)
        have HON : Hid (Only w (wr.drewN nq) (fun k => k = g)) := Lib.hid (hon.out.drewN nq)
        have c0 := cell_of_row _ g 0 _ _ _ HSC.out
        have c1 := cell_of_row _ g 1 _ _ _ HSC.out
        clear f1 d1 d1n hsc hon
        generalize wr.drewN nq = w2 at *
        go_quiet (fail)
        go_wp2_with fail
        go_ret
        have e1 := mk_eq (show (s.extract i k).data.toList = (s.data.toList.drop i).take (runOf (s.data.toList.drop i)) by rw [mid_bytes, HL.out])
        refine ⟨by rw [← e1]; rfl, ?_, HON.out.drewN _⟩
        rw [HL.out, show i + (k - i) = k by omega]
        exact scan_drewN HSC.out _
    · have ek : k = s.size := by omega
      subst ek
      have d1 : decide ((s.size : Int) < s.size) = false := decide_eq_false (by omega)
      have HL : Hid (runOf (s.data.toList.drop i) = s.size - i) := Lib.hid (run_until partN s i s.size hik (Nat.le_refl _) (fun j h h1 h2 => hall.out j h h1 h2) (fun h => absurd h (Nat.lt_irrefl _)))
      clear hall
      go_upto_region 2 with fail
      go_quiet (fail)
      go_wp2_with fail
      have HSC : Hid (ScanAt (wr.drewN nq) g s s.size) := Lib.hid (scan_drewN hsc.out nq)
      have HON : Hid (Only w (wr.drewN nq) (fun k => k = g)) := Lib.hid (hon.out.drewN nq)
      have c0 := cell_of_row _ g 0 _ _ _ HSC.out
      have c1 := cell_of_row _ g 1 _ _ _ HSC.out
      clear f1 d1 hsc hon
      generalize wr.drewN nq = w2 at *
      go_quiet (fail)
      go_wp2_with fail
      go_ret
      have e1 := mk_eq (show (s.extract i s.size).data.toList = (s.data.toList.drop i).take (runOf (s.data.toList.drop i)) by rw [mid_bytes, HL.out])
      refine ⟨by rw [← e1]; rfl, ?_, HON.out.drewN _⟩
      rw [HL.out, show i + (s.size - i) = s.size by omega]
      exact scan_drewN HSC.out _

set_option maxRecDepth 100000 in
set_option maxHeartbeats 1600000 in
theorem run_note (g i : Nat) (s : ByteArray) (w : World) (hr : ScanAt w g s i) (hi : i ≤ s.size) (hs : s.size ≤ 281474976710656) :
    Calls Tryd.prog 35 #[.pointer (some ⟨g, 0, none⟩), .func (.func 36) #[] #[]] w fun e w' => e = .returned (strV ((s.data.toList.drop i).take (noteOf (s.data.toList.drop i)))) ∧ ScanAt w' g s (i + noteOf (s.data.toList.drop i)) ∧ Only w w' (fun k => k = g) := by
  have hc1 := cell_of_row w g 1 _ _ _ hr
  have HR := Lib.hid hr
  have HI := Lib.hid hi
  clear hr
  go_enter Tryd.func35, Tryd.ntmps35
  go_wp2_with fail
  go_loopw [] (fun wr => ∃ k : Nat, i ≤ k ∧ k ≤ s.size ∧ Hid (ScanAt wr g s k) ∧ Hid (Only w wr (fun k => k = g)) ∧ Hid (∀ j (h : j < s.size), i ≤ j → j < k → noteN (s[j]'h).toNat = true)) (fun wr => s.size - (intOf ((wr.cell? ⟨g, 1, none⟩).getD undef)).toNat)
  case atStart => exact ⟨i, Nat.le_refl _, hi, HR, Lib.hid (Only.refl _ _), Lib.hid fun j _ h1 h2 => absurd h1 (by omega)⟩
  case round =>
    obtain ⟨k, hik, hk, hsc, hon, hall⟩ := hrel
    clear hc1 HR
    have c0 := cell_of_row wr g 0 _ _ _ hsc.out
    have c1 := cell_of_row wr g 1 _ _ _ hsc.out
    have f1 := frozen_of_row wr g 1 _ _ hsc.out
    by_cases hlt : k < s.size
    · have d1 : decide ((k : Int) < s.size) = true := decide_eq_true (by omega)
      have d1n : decide (k < s.size) = true := decide_eq_true hlt
      cases hp : noteN (s[k]'hlt).toNat with
      | true =>
        have HN : Hid (∀ j (h : j < s.size), i ≤ j → j < k + 1 → noteN (s[j]'h).toNat = true) := Lib.hid fun j h h1 h2 => by
          rcases Nat.lt_or_ge j k with h' | h'
          · exact hall.out j h h1 h'
          · have : j = k := by omega
            subst this
            exact hp
        have HP : Hid (∀ w', Calls Tryd.prog 36 #[.int .u8 (s[k]'hlt).toNat] w' fun e w'' => e = .returned (.bool true) ∧ w'' = w') := Lib.hid fun w' => by rw [← hp]; exact note_any _ w'
        clear hp hall
        go_upto_region 2 with fail
        go_quiet ((go_at_call 36; exact Calls.quiet_of_same (HP.out _)))
        clear HP
        go_wp2_with fail
        go_roundw
        case rel => exact ⟨k + 1, by omega, by omega, Lib.hid (by have := scan_set (scan_drewN hsc.out nq) (k + 1); exact this), Lib.hid ((hon.out.drewN nq).trans (Only.setCell _ _ _) fun _ _ h => h), HN⟩
        case measure =>
          have e1 := cell_of_row _ g 1 _ _ _ (scan_set (scan_drewN hsc.out nq) (k + 1))
          have e2 := cell_of_row _ g 1 _ _ _ hsc.out
          show s.size - (intOf ((((wr.drewN nq).setCell ⟨g, 1, none⟩ (.int .i64 ((k + 1 : Nat) : Int))).cell? ⟨g, 1, none⟩).getD undef)).toNat < s.size - (intOf ((wr.cell? ⟨g, 1, none⟩).getD undef)).toNat
          rw [e1, e2]
          simp [intOf]
          omega
      | false =>
        have HP : Hid (∀ w', Calls Tryd.prog 36 #[.int .u8 (s[k]'hlt).toNat] w' fun e w'' => e = .returned (.bool false) ∧ w'' = w') := Lib.hid fun w' => by rw [← hp]; exact note_any _ w'
        have HL : Hid (noteOf (s.data.toList.drop i) = k - i) := Lib.hid (run_until noteN s i k hik hk (fun j h h1 h2 => hall.out j h h1 h2) (fun _ => hp))
        clear hp hall
        go_upto_region 2 with fail
        go_quiet ((go_at_call 36; exact Calls.quiet_of_same (HP.out _)))
        clear HP
        go_wp2_with fail
        have HSC : Hid (ScanAt (wr.drewN nq) g s k) := Lib.hid (scan_drewN hsc.out nq)
        have HON : Hid (Only w (wr.drewN nq) (fun k => k = g)) := Lib.hid (hon.out.drewN nq)
        have c0 := cell_of_row _ g 0 _ _ _ HSC.out
        have c1 := cell_of_row _ g 1 _ _ _ HSC.out
        clear f1 d1 d1n hsc hon
        generalize wr.drewN nq = w2 at *
        go_quiet (fail)
        go_wp2_with fail
        go_ret
        have e1 := mk_eq (show (s.extract i k).data.toList = (s.data.toList.drop i).take (noteOf (s.data.toList.drop i)) by rw [mid_bytes, HL.out])
        refine ⟨by rw [← e1]; rfl, ?_, HON.out.drewN _⟩
        rw [HL.out, show i + (k - i) = k by omega]
        exact scan_drewN HSC.out _
    · have ek : k = s.size := by omega
      subst ek
      have d1 : decide ((s.size : Int) < s.size) = false := decide_eq_false (by omega)
      have HL : Hid (noteOf (s.data.toList.drop i) = s.size - i) := Lib.hid (run_until noteN s i s.size hik (Nat.le_refl _) (fun j h h1 h2 => hall.out j h h1 h2) (fun h => absurd h (Nat.lt_irrefl _)))
      clear hall
      go_upto_region 2 with fail
      go_quiet (fail)
      go_wp2_with fail
      have HSC : Hid (ScanAt (wr.drewN nq) g s s.size) := Lib.hid (scan_drewN hsc.out nq)
      have HON : Hid (Only w (wr.drewN nq) (fun k => k = g)) := Lib.hid (hon.out.drewN nq)
      have c0 := cell_of_row _ g 0 _ _ _ HSC.out
      have c1 := cell_of_row _ g 1 _ _ _ HSC.out
      clear f1 d1 hsc hon
      generalize wr.drewN nq = w2 at *
      go_quiet (fail)
      go_wp2_with fail
      go_ret
      have e1 := mk_eq (show (s.extract i s.size).data.toList = (s.data.toList.drop i).take (noteOf (s.data.toList.drop i)) by rw [mid_bytes, HL.out])
      refine ⟨by rw [← e1]; rfl, ?_, HON.out.drewN _⟩
      rw [HL.out, show i + (s.size - i) = s.size by omega]
      exact scan_drewN HSC.out _

end Go.Proofs.YtffghdehimhpiaaDoor
