/- Walk: the law of names and words, and of texts that are too long. -/
import Derived.Test.YtffghdehimhpiaaDoorTkLawA
import Derived.Test.YtffghdehimhpiaaDoorTkEq
import Derived.Test.YtffghdehimhpiaaDoorMake
namespace Go.Proofs.YtffghdehimhpiaaDoor
open Go.RowKit

theorem make8 : MakeTy Tryd.prog 37 5 := MakeTy.mk' Tryd.underlying37 (by kernel_rfl)

theorem contains_words (s : ByteArray) (w w' : World) (hw : Below (w.alloc (.cells (tokWords.map strV).toArray 9)).heap.size (w.alloc (.cells (tokWords.map strV).toArray 9)) w') :
    Calls Tryd.prog 16 #[.slice (some ⟨w.heap.size, 0, none⟩) 14 14, .string s] w' fun e w'' => e = .returned (.bool (isWordB s)) ∧ w'' = w' := by
  have hrow := (hw.block w.heap.size (by simp)).trans (heap_alloc_new w (.cells (tokWords.map strV).toArray 9))
  exact contains_any w.heap.size 14 (tokWords.map mk8) s w' rfl (by decide) fun j hj => by
    rw [List.length_map] at hj
    rw [Nat.zero_add, strs_cell hrow j hj, strV_mk]
    simp [List.getD_eq_getElem?_getD, List.getElem?_eq_getElem hj]

set_option maxRecDepth 100000 in
set_option maxHeartbeats 3200000 in
theorem names_calls (s : ByteArray) (hs : s.size ≤ 9223372036854775807) (k : Nat) (hk : k < 256) (w : World) (ht : Tb w.heap.size w) : Calls Tryd.prog 6 #[.string s, .int .u8 k] w fun e w' => e = .returned (.bool true) ∧ Below w.heap.size w w' := by
  have HT := Lib.hid ht
  have HTX := Lib.hid (fun w' => text_any s 80 w' hs (by omega))
  obtain ⟨r, hr⟩ : ∃ r, r = k % 5 := ⟨_, rfl⟩
  have hri : (k : Int) % 5 = r := by omega
  have hr5 : r < 5 := by omega
  clear ht hs hr
  go_enter Tryd.func6, Tryd.ntmps6
  go_wp2_with fail
  refine (awake_any w HT.out).mono ?_
  rintro e w1 ⟨rfl, hb1⟩
  have HB1 := Lib.hid hb1
  clear hb1
  go_wp2_with fail
  refine (HTX.out w1).mono ?_
  rintro e w2 ⟨rfl, hw⟩
  have hw' := hw.symm
  subst hw'
  clear hw HTX
  have hsz := first_size s 80
  generalize firstOf s 80 = s8 at *
  go_wp2_with fail
  refine (rwords_any w1).mono ?_
  rintro e w3 ⟨rfl, rfl⟩
  have hb3 := bal (bre w1) (.cells (tokWords.map strV).toArray 9)
  have HCW := Lib.hid (contains_words s8 w1 _ (bre _))
  generalize w1.alloc (.cells (tokWords.map strV).toArray 9) = w3 at *
  have HB3 := Lib.hid (btr HB1.out hb3)
  clear hb3 HB1
  go_wp2_with fail
  refine HCW.out.mono ?_
  rintro e w4 ⟨rfl, hw⟩
  have hw' := hw.symm
  subst hw'
  clear hw HCW
  go_wp2_with (refine wpList_make8 rfl _ _ 37 5 make8 rfl (199998 + r) (by first | rfl | exact congrArg (Value.int .i64) (by omega)) (by first | rfl | exact congrArg (Value.int .i64) (by omega)) (by omega) (fun W how hbw => ?_); have hst := run_str (P := Tryd.prog) W 37 9 5 _ _ how.bytes Tryd.underlying37 Tryd.underlying5 Tryd.underlying9; generalize hz : strOf (List.replicate (199998 + r) 0) = z at hst; clear how)
  have hzs : z.size = 199998 + r := by rw [← hz, strOf]; simp [ByteArray.size]
  have HZ : Hid (toksOf z.data.toList = none) := Lib.hid (by rw [← hz]; exact toks_zeros _ (by omega))
  have HW := Lib.hid (btr HB3.out hbw)
  clear hz hst hbw HB3
  have HT2 : Hid (Tb W.heap.size W) := Lib.hid (fun w' k => (HT.out.below HW.out) w' (k.mono HW.out.size))
  have HIS := Lib.hid (fun w' h => isword_any s8 w' h)
  have HNM : Hid (∀ w', Sp w' → Calls Tryd.prog 19 #[.string s8] w' fun e w'' => e = .returned (.bool (shapedB s8.data.toList && !isWordB s8)) ∧ Below w'.heap.size w' w'') := Lib.hid (fun w' h => isname_any s8 w' (by omega) h)
  have HRN := Lib.hid (fun w' => rname8_any s8 w' (by omega))
  clear hsz HT
  generalize shapedB s8.data.toList = sh at *
  generalize isWordB s8 = iw at *
  have HALL : ∃ q : Int, (r > 2 ∧ q = 4 ∨ ¬ r > 2 ∧ q = 20) ∧ Hid (Calls Tryd.prog 10 #[.string z] W fun e w' => e = .returned (.tuple #[.slice none 0 0, .int .i64 q]) ∧ Below W.heap.size W w') := by
    by_cases hr2 : r > 2
    · exact ⟨4, .inl ⟨hr2, rfl⟩, Lib.hid ((all_long z (by omega) W).mono fun e w' h => ⟨h.1, by rw [h.2]; exact bre W⟩)⟩
    · exact ⟨20, .inr ⟨hr2, rfl⟩, Lib.hid ((all_any z (by omega) W HT2.out).mono fun e w' h => ⟨h.1 HZ.out, h.2.2⟩)⟩
  obtain ⟨q, hq, HALL⟩ := HALL
  clear hzs HZ
  refine HALL.out.mono ?_
  rintro e w5 ⟨rfl, hb5⟩
  have HW5 := Lib.hid (btr HW.out hb5)
  have HT5 : Hid (Tb w5.heap.size w5) := Lib.hid (fun w' k => (HT2.out.below hb5) w' (k.mono hb5.size))
  clear hb5 HALL HW HT2
  rcases hq with ⟨hr2, rfl⟩ | ⟨hr2, rfl⟩ <;> cases iw <;> cases sh
  all_goals
    go_wp2_with fail
    refine (HIS.out w5 HT5.out.here.1).mono ?_
    rintro e v1 ⟨rfl, hb⟩
    have HV1 := Lib.hid (btr (bre w5) hb)
    clear hb
    go_wp2_with fail
    refine (HNM.out v1 (HT5.out.below HV1.out).here.1).mono ?_
    rintro e v2 ⟨rfl, hb⟩
    have HV2 := Lib.hid (btr HV1.out hb)
    clear hb
    go_wp2_with fail
    refine (HRN.out v2).mono ?_
    rintro e v3 ⟨rfl, hw⟩
    have hw' := hw.symm
    subst hw'
    clear hw HV1
    go_wp2_with fail
    refine (twords_any v2 (HT5.out.below HV2.out).here.1).mono ?_
    rintro e x1 ⟨rfl, rfl⟩
    have hb3 := bal (bre v2) (.cells (tokWords.map strV).toArray 9)
    have hr3 := heap_alloc_new v2 (.cells (tokWords.map strV).toArray 9)
    generalize v2.alloc (.cells (tokWords.map strV).toArray 9) = x1 at *
    obtain ⟨n3, hn3⟩ : ∃ n, n = v2.heap.size := ⟨_, rfl⟩
    rw [← hn3] at hr3 ⊢
    have HX1 := Lib.hid (btr HV2.out hb3)
    have HR3 := Lib.hid hr3
    clear hb3 hr3 hn3 HV2
    go_wp2_with fail
    refine (rwords_any x1).mono ?_
    rintro e x2 ⟨rfl, rfl⟩
    have hb4 := bal (bre x1) (.cells (tokWords.map strV).toArray 9)
    have hr4 := heap_alloc_new x1 (.cells (tokWords.map strV).toArray 9)
    generalize x1.alloc (.cells (tokWords.map strV).toArray 9) = x2 at *
    obtain ⟨n4, hn4⟩ : ∃ n, n = x1.heap.size := ⟨_, rfl⟩
    rw [← hn4] at hr4 ⊢
    have HEQ := Lib.hid (equal_same n3 n4 14 tokWords x2 rfl (by decide) ((hb4.block n3 (Array.getElem?_eq_some_iff.1 HR3.out).1).trans HR3.out) hr4)
    have HX2 := Lib.hid (btr HX1.out hb4)
    clear hb4 hr4 hn4 HX1 HR3
    go_wp2_with fail
    refine HEQ.out.mono ?_
    rintro e x3 ⟨rfl, hb⟩
    have HX3 := Lib.hid (btr HX2.out hb)
    clear hb HEQ HX2
    go_wp2_with fail
    refine (signs_any x3 (HT5.out.below HX3.out).here.1).mono ?_
    rintro e y1 ⟨rfl, rfl⟩
    have hb3 := bal (bre x3) (.cells (signRows.map strV).toArray 9)
    have hr3 := heap_alloc_new x3 (.cells (signRows.map strV).toArray 9)
    generalize x3.alloc (.cells (signRows.map strV).toArray 9) = y1 at *
    obtain ⟨n5, hn5⟩ : ∃ n, n = x3.heap.size := ⟨_, rfl⟩
    rw [← hn5] at hr3 ⊢
    have HY1 := Lib.hid (btr HX3.out hb3)
    have HR3 := Lib.hid hr3
    clear hb3 hr3 hn5 HX3
    go_wp2_with fail
    refine (rsigns_any y1).mono ?_
    rintro e y2 ⟨rfl, rfl⟩
    have hb4 := bal (bre y1) (.cells (signRows.map strV).toArray 9)
    have hr4 := heap_alloc_new y1 (.cells (signRows.map strV).toArray 9)
    generalize y1.alloc (.cells (signRows.map strV).toArray 9) = y2 at *
    obtain ⟨n6, hn6⟩ : ∃ n, n = y1.heap.size := ⟨_, rfl⟩
    rw [← hn6] at hr4 ⊢
    have HEQ := Lib.hid (equal_same n5 n6 22 signRows y2 rfl (by decide) ((hb4.block n5 (Array.getElem?_eq_some_iff.1 HR3.out).1).trans HR3.out) hr4)
    have HY2 := Lib.hid (btr HY1.out hb4)
    clear hb4 hr4 hn6 HY1 HR3
    go_wp2_with fail
    refine HEQ.out.mono ?_
    rintro e y3 ⟨rfl, hb⟩
    have HY3 := Lib.hid (btr HW5.out (btr HY2.out hb))
    clear hb HEQ HY2
    go_wp2_with fail
    go_ret
    exact ⟨rfl, HY3.out⟩
end Go.Proofs.YtffghdehimhpiaaDoor
