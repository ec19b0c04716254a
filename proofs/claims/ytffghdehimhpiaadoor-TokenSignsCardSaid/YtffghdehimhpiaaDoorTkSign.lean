/- Walk: the next token where it is a sign, or none. -/
import Derived.Test.YtffghdehimhpiaaDoorTkNext
namespace Go.Proofs.YtffghdehimhpiaaDoor
open Go.RowKit

theorem signs_cells {w : World} {n e : Nat} (h : w.heap[n]? = some (.cells (signRows.map strV).toArray e (0, 0))) : ∀ j, j < (signRows.map mk8).length → w.cell? ⟨n, 0 + j, none⟩ = some (.string ((signRows.map mk8).getD j ByteArray.empty)) := fun j hj => by
  rw [List.length_map] at hj
  rw [Nat.zero_add, strs_cell h j hj, strV_mk]
  simp [List.getD_eq_getElem?_getD, List.getElem?_eq_getElem hj]

theorem Below.drewN' {B : Nat} {a b : World} (h : Below B a b) (n : Nat) : Below B a (b.drewN n) := ⟨h.os, h.tape, h.output, h.size, h.block⟩

/-- is a text a sign? -/
theorem sign_in (T : List UInt8) (w : World) (hsp : Sp w) : Calls Tryd.prog 23 #[] w fun e w' => e = .returned (.slice (some ⟨w.heap.size, 0, none⟩) 22 22) ∧ Below w.heap.size w w' ∧ (∀ w2, w2 = w' → Calls Tryd.prog 16 #[.slice (some ⟨w.heap.size, 0, none⟩) 22 22, .string (mk8 T)] w2 fun e w3 => e = .returned (.bool (signRows.contains T)) ∧ w3 = w2) := by
  refine (signs_any w hsp).mono ?_
  rintro e w1 ⟨rfl, rfl⟩
  refine ⟨rfl, bal (bre w) _, fun w2 h => ?_⟩
  subst h
  rw [← signs_mem]
  exact contains_any w.heap.size 22 (signRows.map mk8) (mk8 T) _ rfl (by decide) (signs_cells (heap_alloc_new w _))

theorem sign_cut (s : ByteArray) (i m K : Nat) (hi : i < s.size) (hK : K = if i + m ≤ s.size then i + m else s.size) : s.extract i K = mk8 ((s.data.toList.drop i).take m) := by
  have h1 := mid_bytes s i K
  have h2 : (s.data.toList.drop i).take (K - i) = (s.data.toList.drop i).take m := by
    subst hK
    split
    · rw [Nat.add_sub_cancel_left]
    · rw [List.take_of_length_le (by rw [List.length_drop, str_len]; exact Nat.le_refl _), List.take_of_length_le (by rw [List.length_drop, str_len]; omega)]
  rw [h2] at h1
  have h3 := mk_eq h1
  rw [strV_mk] at h3
  exact Value.string.inj h3

set_option maxRecDepth 100000 in
set_option maxHeartbeats 3200000 in
theorem next_sign (B g i : Nat) (s : ByteArray) (w : World) (hr : ScanAt w g s i) (hi : i < s.size) (hs : s.size ≤ 281474976710656) (ht : Tb B w) (hB : B ≤ w.heap.size) (hg : B ≤ g)
    (hp : partN (s[i]'hi).toNat = false) : Calls Tryd.prog 26 #[.pointer (some ⟨g, 0, none⟩)] w (NextSays w g s i (tokAt (s.data.toList.drop i))) := by
  have hll : i < s.data.toList.length := by rw [str_len]; exact hi
  have hd := drop_cons s.data.toList i hll
  rw [str_get s i hi] at hd
  obtain ⟨r, hrr⟩ : ∃ r, r = s.data.toList.drop i := ⟨_, rfl⟩
  have hta : tokAt (s.data.toList.drop i) = if signRows.contains (r.take 2) then (4, (r.take 2).length) else if signRows.contains (r.take 1) then (4, (r.take 1).length) else (0, 0) := by
    unfold tokAt
    rw [if_neg (by rw [hd]; show ¬ partN (s[i]'hi).toNat = true; rw [hp]; decide), ← hrr]
  obtain ⟨kn, hkn⟩ : ∃ kn, kn = tokAt (s.data.toList.drop i) := ⟨_, rfl⟩
  rw [← hkn]
  have HTA : Hid (kn = if signRows.contains (r.take 2) then (4, (r.take 2).length) else if signRows.contains (r.take 1) then (4, (r.take 1).length) else (0, 0)) := Lib.hid (hkn.trans hta)
  have HRR := Lib.hid hrr
  have HSC := Lib.hid hr
  have HT := Lib.hid ht
  have HGL : Hid (g < w.heap.size) := Lib.hid (Array.getElem?_eq_some_iff.1 hr).1
  clear hd hrr hta hkn hr ht hll
  go_enter Tryd.func26, Tryd.ntmps26
  go_upto_region 1 with fail
  have hb0 := bal (bre w) (.cells #[.int .u8 0, .string ⟨#[]⟩, .int .i64 0] 32)
  have hr0 := heap_alloc_new w (.cells #[.int .u8 0, .string ⟨#[]⟩, .int .i64 0] 32)
  generalize w.alloc (.cells #[.int .u8 0, .string ⟨#[]⟩, .int .i64 0] 32) = W0 at *
  obtain ⟨n2, hn2⟩ : ∃ n, n = w.heap.size := ⟨_, rfl⟩
  rw [← hn2] at hr0 ⊢
  have HNE2 : Hid (n2 ≠ g) := Lib.hid (by have := HGL.out; omega)
  have HS0 : Hid (ScanAt W0 g s i) := Lib.hid (scan_keep HSC.out hb0)
  have HO0 : Hid (Only w W0 (fun k => k = g)) := Lib.hid (Only.of_below hb0 _)
  have HN2 : Hid (w.heap.size ≤ n2) := Lib.hid (by omega)
  have HR0 := Lib.hid hr0
  have c0 := cell_of_row W0 g 0 _ _ _ HS0.out
  have c1 := cell_of_row W0 g 1 _ _ _ HS0.out
  have HPA : Hid (∀ w', Calls Tryd.prog 37 #[.int .u8 (s[i]'hi).toNat] w' fun e w'' => e = .returned (.bool false) ∧ w'' = w') := Lib.hid fun w' => by rw [← hp]; exact part_any _ w'
  clear hb0 hr0 hn2 HSC hp
  go_wp2_with fail
  refine (HPA.out _).mono ?_
  rintro e w1 ⟨rfl, hw⟩
  have hw' := hw.symm
  subst hw'
  clear hw HPA
  go_wp2_with fail
  clear c0 c1
  go_loopw [8, 9] (fun s8 _ wr => ∃ m : Nat, m ≤ 2 ∧ s8 = .int .i64 m ∧ Hid (∀ j, m < j → j ≤ 2 → signRows.contains (r.take j) = false) ∧ Hid (ScanAt wr g s i) ∧ Hid (wr.heap[n2]? = some (.cells #[.int .u8 0, .string ⟨#[]⟩, .int .i64 0] 32 (0, 0))) ∧ Hid (Only w wr (fun k => k = g))) (fun s8 _ _ => (intOf s8).toNat)
  case atStart => exact ⟨2, Nat.le_refl _, rfl, Lib.hid fun j h1 h2 => absurd h1 (by omega), HS0, HR0, HO0⟩
  case round =>
    obtain ⟨m, hm, rfl, hnot, hsc, hrow, hon⟩ := hrel
    clear HS0 HR0 HO0
    have HTB : Hid (Tb B wr) := Lib.hid (HT.out.below (hon.out.below B hB fun k hk h => by omega))
    rcases (by omega : m = 0 ∨ m = 1 ∨ m = 2) with rfl | rfl | rfl
    · have HK : Hid (kn = (0, 0)) := Lib.hid (by rw [HTA.out, hnot.out 2 (by omega) (by omega), hnot.out 1 (by omega) (by omega)]; rfl)
      have c0 := cell_of_row wr n2 0 _ _ _ hrow.out
      have f0 := frozen_of_row wr n2 0 _ _ hrow.out
      have c1 := cell_of_row wr n2 1 _ _ _ hrow.out
      have f1 := frozen_of_row wr n2 1 _ _ hrow.out
      have c2 := cell_of_row wr n2 2 _ _ _ hrow.out
      have f2 := frozen_of_row wr n2 2 _ _ hrow.out
      go_wp2_with fail
      obtain ⟨hrw, hsc2, hon2⟩ := tok_stored (k := 0) (T := []) (i := 0) hrow.out hsc.out hon.out HN2.out HNE2.out
      have d0 := cell_of_row _ n2 0 _ _ _ hrw
      have d1 := cell_of_row _ n2 1 _ _ _ hrw
      have d2 := cell_of_row _ n2 2 _ _ _ hrw
      have HON := Lib.hid hon2
      clear hrw hsc2 hon2
      show bodyPost _ _ _ _ _ (((wr.setCell ⟨n2, 0, none⟩ (.int .u8 ((0 : Nat) : Int))).setCell ⟨n2, 1, none⟩ (.string (mk8 []))).setCell ⟨n2, 2, none⟩ (.int .i64 ((0 : Nat) : Int)))
      generalize ((wr.setCell ⟨n2, 0, none⟩ (.int .u8 ((0 : Nat) : Int))).setCell ⟨n2, 1, none⟩ (.string (mk8 []))).setCell ⟨n2, 2, none⟩ (.int .i64 ((0 : Nat) : Int)) = W9 at *
      refine bodyPost_ret (v := .tuple #[tokV 0 [] 0, .bool false]) (by simp [results, Tryd.results26, go_sem, d0, d1, d2, tokV, strV_mk]) rfl ?_
      exact ⟨fun _ => ⟨_, _, _, rfl⟩, fun h => absurd (by rw [HK.out]) h, HON.out⟩
    · have hwr : IntKind.i64.wrap ((i : Int) + 1) = (i : Int) + 1 := by rw [IntKind.wrap_i64]; omega
      obtain ⟨K, hK⟩ : ∃ K, K = if i + 1 ≤ s.size then i + 1 else s.size := ⟨_, rfl⟩
      have hKc := sign_cut s i 1 K hi hK
      rw [← HRR.out] at hKc
      have hiK : i ≤ K := by rw [hK]; split <;> omega
      have hKs : K ≤ s.size := by rw [hK]; split <;> omega
      have hmin : (min ((i : Int) + 1) (s.size : Int)).toNat = K := by rw [hK]; split <;> omega
      have HMIN := Lib.hid hmin
      obtain ⟨T, hT⟩ : ∃ T, T = r.take 1 := ⟨_, rfl⟩
      obtain ⟨n, hn⟩ : ∃ n, n = T.length := ⟨_, rfl⟩
      have hrl : r.length = s.size - i := by rw [HRR.out, List.length_drop, str_len]
      have hTn : r.take n = T := by rw [hn, hT, List.length_take, ← List.take_eq_take_min]
      have hin : i + n ≤ s.size := by rw [hn, hT, List.length_take, hrl]; omega
      have hsz : (mk8 T).size = n := by rw [hn]; exact (str_len (mk8 T)).symm
      have HTN : Hid ((s.data.toList.drop i).take n = T) := Lib.hid (by rw [← HRR.out]; exact hTn)
      have HKT : Hid (signRows.contains T = true → kn = (4, n)) := Lib.hid fun h => by
        rw [HTA.out]
        rw [hnot.out 2 (by omega) (by omega), if_neg (by decide), ← hT, if_pos h, ← hn]
      have HKF : Hid (signRows.contains T = false → ∀ j, 1 - 1 < j → j ≤ 2 → signRows.contains (r.take j) = false) := Lib.hid fun h j h1 h2 => by
        rcases (by omega : j = 1 ∨ 1 < j) with rfl | h3
        · rw [← hT]; exact h
        · exact hnot.out j h3 h2
      rw [← hT] at hKc
      have HKC := Lib.hid hKc
      have HN := Lib.hid hsz
      clear hK hKc hmin hT hn hrl hTn hsz hnot
      have c0 := cell_of_row wr g 0 _ _ _ hsc.out
      have c1 := cell_of_row wr g 1 _ _ _ hsc.out
      go_upto_region 13 with fail
      go_quiet (fail)
      rw [HMIN.out, HKC.out]
      have HS2 : Hid (ScanAt (wr.drewN nq) g s i) := Lib.hid (scan_drewN hsc.out nq)
      have HO2 : Hid (Only w (wr.drewN nq) (fun k => k = g)) := Lib.hid (hon.out.drewN nq)
      have HR2 : Hid ((wr.drewN nq).heap[n2]? = some (.cells #[.int .u8 0, .string ⟨#[]⟩, .int .i64 0] 32 (0, 0))) := Lib.hid hrow.out
      have HT2 : Hid (Tb B (wr.drewN nq)) := Lib.hid (HTB.out.below (Below.drewN' (Below.refl _ _) nq))
      clear c0 c1 hwr hsc hon hrow HTB hiK hKs
      generalize wr.drewN nq = w2 at *
      clear nq HKC HMIN
      go_wp2_with fail
      refine (sign_in T w2 HT2.out.here.1).mono ?_
      rintro e w3 ⟨rfl, hb3, hcon⟩
      have HCON := Lib.hid (hcon _ rfl)
      have HS3 : Hid (ScanAt w3 g s i) := Lib.hid (scan_keep HS2.out hb3)
      have HO3 : Hid (Only w w3 (fun k => k = g)) := Lib.hid (HO2.out.trans (Only.of_below hb3 _) fun _ _ h => h)
      have HR3 : Hid (w3.heap[n2]? = some (.cells #[.int .u8 0, .string ⟨#[]⟩, .int .i64 0] 32 (0, 0))) := Lib.hid ((hb3.block n2 (Array.getElem?_eq_some_iff.1 HR2.out).1).trans HR2.out)
      clear hb3 hcon HS2 HO2 HR2 HT2
      go_wp2_with fail
      refine HCON.out.mono ?_
      rintro e w4 ⟨rfl, hw⟩
      have hw' := hw.symm
      subst hw'
      clear hw HCON
      cases hc : signRows.contains T with
      | false =>
        have HF := Lib.hid (HKF.out hc)
        clear hc HKF HKT
        go_wp2_with fail
        go_roundw
        case rel => exact ⟨1 - 1, by omega, by rfl, HF, HS3, HR3, HO3⟩
        case measure => simp [intOf]
      | true =>
        have HK := Lib.hid (HKT.out hc)
        clear hc HKF HKT
        have hsz := HN.out
        have c1 := cell_of_row w3 g 1 _ _ _ HS3.out
        have f1 := frozen_of_row w3 g 1 _ _ HS3.out
        go_upto_region 16 with fail
        have HS4 : Hid (ScanAt (w3.setCell ⟨g, 1, none⟩ (.int .i64 ((i + n : Nat) : Int))) g s (i + n)) := Lib.hid (scan_set HS3.out (i + n))
        have HR4 : Hid ((w3.setCell ⟨g, 1, none⟩ (.int .i64 ((i + n : Nat) : Int))).heap[n2]? = some (.cells #[.int .u8 0, .string ⟨#[]⟩, .int .i64 0] 32 (0, 0))) := Lib.hid ((Below.heap_setCell _ _ _ _ HNE2.out).trans HR3.out)
        have HO4 : Hid (Only w (w3.setCell ⟨g, 1, none⟩ (.int .i64 ((i + n : Nat) : Int))) (fun k => k = g)) := Lib.hid (HO3.out.trans (Only.setCell _ _ _) fun _ _ h => h)
        have hcast : ((i : Int) + (n : Int)) = ((i + n : Nat) : Int) := by omega
        rw [hcast]
        clear hcast c1 f1 hsz HS3 HO3 HR3
        generalize w3.setCell ⟨g, 1, none⟩ (.int .i64 ((i + n : Nat) : Int)) = w5 at *
        have c0 := cell_of_row w5 n2 0 _ _ _ HR4.out
        have f0 := frozen_of_row w5 n2 0 _ _ HR4.out
        have c1 := cell_of_row w5 n2 1 _ _ _ HR4.out
        have f1 := frozen_of_row w5 n2 1 _ _ HR4.out
        have c2 := cell_of_row w5 n2 2 _ _ _ HR4.out
        have f2 := frozen_of_row w5 n2 2 _ _ HR4.out
        go_wp2_with fail
        obtain ⟨hrw, hsc2, hon2⟩ := tok_stored (k := 4) (T := T) (i := i) HR4.out HS4.out HO4.out HN2.out HNE2.out
        have d0 := cell_of_row _ n2 0 _ _ _ hrw
        have d1 := cell_of_row _ n2 1 _ _ _ hrw
        have d2 := cell_of_row _ n2 2 _ _ _ hrw
        have HSC := Lib.hid hsc2
        have HON := Lib.hid hon2
        clear hrw hsc2 hon2
        generalize ((w5.setCell ⟨n2, 0, none⟩ (.int .u8 4)).setCell ⟨n2, 1, none⟩ (.string (mk8 T))).setCell ⟨n2, 2, none⟩ (.int .i64 i) = W9 at *
        refine bodyPost_ret (v := .tuple #[tokV 4 T i, .bool true]) (by simp [results, Tryd.results26, go_sem, d0, d1, d2, tokV, strV_mk]) rfl ?_
        exact ⟨fun h => absurd h (by rw [HK.out]; exact Nat.succ_ne_zero _), fun _ => ⟨by rw [HK.out, HTN.out], by rw [HK.out]; exact HSC.out⟩, HON.out⟩
    · have hwr : IntKind.i64.wrap ((i : Int) + 2) = (i : Int) + 2 := by rw [IntKind.wrap_i64]; omega
      obtain ⟨K, hK⟩ : ∃ K, K = if i + 2 ≤ s.size then i + 2 else s.size := ⟨_, rfl⟩
      have hKc := sign_cut s i 2 K hi hK
      rw [← HRR.out] at hKc
      have hiK : i ≤ K := by rw [hK]; split <;> omega
      have hKs : K ≤ s.size := by rw [hK]; split <;> omega
      have hmin : (min ((i : Int) + 2) (s.size : Int)).toNat = K := by rw [hK]; split <;> omega
      have HMIN := Lib.hid hmin
      obtain ⟨T, hT⟩ : ∃ T, T = r.take 2 := ⟨_, rfl⟩
      obtain ⟨n, hn⟩ : ∃ n, n = T.length := ⟨_, rfl⟩
      have hrl : r.length = s.size - i := by rw [HRR.out, List.length_drop, str_len]
      have hTn : r.take n = T := by rw [hn, hT, List.length_take, ← List.take_eq_take_min]
      have hin : i + n ≤ s.size := by rw [hn, hT, List.length_take, hrl]; omega
      have hsz : (mk8 T).size = n := by rw [hn]; exact (str_len (mk8 T)).symm
      have HTN : Hid ((s.data.toList.drop i).take n = T) := Lib.hid (by rw [← HRR.out]; exact hTn)
      have HKT : Hid (signRows.contains T = true → kn = (4, n)) := Lib.hid fun h => by
        rw [HTA.out]
        rw [← hT, if_pos h, ← hn]
      have HKF : Hid (signRows.contains T = false → ∀ j, 2 - 1 < j → j ≤ 2 → signRows.contains (r.take j) = false) := Lib.hid fun h j h1 h2 => by
        rcases (by omega : j = 2 ∨ 2 < j) with rfl | h3
        · rw [← hT]; exact h
        · exact hnot.out j h3 h2
      rw [← hT] at hKc
      have HKC := Lib.hid hKc
      have HN := Lib.hid hsz
      clear hK hKc hmin hT hn hrl hTn hsz hnot
      have c0 := cell_of_row wr g 0 _ _ _ hsc.out
      have c1 := cell_of_row wr g 1 _ _ _ hsc.out
      go_upto_region 13 with fail
      go_quiet (fail)
      rw [HMIN.out, HKC.out]
      have HS2 : Hid (ScanAt (wr.drewN nq) g s i) := Lib.hid (scan_drewN hsc.out nq)
      have HO2 : Hid (Only w (wr.drewN nq) (fun k => k = g)) := Lib.hid (hon.out.drewN nq)
      have HR2 : Hid ((wr.drewN nq).heap[n2]? = some (.cells #[.int .u8 0, .string ⟨#[]⟩, .int .i64 0] 32 (0, 0))) := Lib.hid hrow.out
      have HT2 : Hid (Tb B (wr.drewN nq)) := Lib.hid (HTB.out.below (Below.drewN' (Below.refl _ _) nq))
      clear c0 c1 hwr hsc hon hrow HTB hiK hKs
      generalize wr.drewN nq = w2 at *
      clear nq HKC HMIN
      go_wp2_with fail
      refine (sign_in T w2 HT2.out.here.1).mono ?_
      rintro e w3 ⟨rfl, hb3, hcon⟩
      have HCON := Lib.hid (hcon _ rfl)
      have HS3 : Hid (ScanAt w3 g s i) := Lib.hid (scan_keep HS2.out hb3)
      have HO3 : Hid (Only w w3 (fun k => k = g)) := Lib.hid (HO2.out.trans (Only.of_below hb3 _) fun _ _ h => h)
      have HR3 : Hid (w3.heap[n2]? = some (.cells #[.int .u8 0, .string ⟨#[]⟩, .int .i64 0] 32 (0, 0))) := Lib.hid ((hb3.block n2 (Array.getElem?_eq_some_iff.1 HR2.out).1).trans HR2.out)
      clear hb3 hcon HS2 HO2 HR2 HT2
      go_wp2_with fail
      refine HCON.out.mono ?_
      rintro e w4 ⟨rfl, hw⟩
      have hw' := hw.symm
      subst hw'
      clear hw HCON
      cases hc : signRows.contains T with
      | false =>
        have HF := Lib.hid (HKF.out hc)
        clear hc HKF HKT
        go_wp2_with fail
        go_roundw
        case rel => exact ⟨2 - 1, by omega, by rfl, HF, HS3, HR3, HO3⟩
        case measure => simp [intOf]
      | true =>
        have HK := Lib.hid (HKT.out hc)
        clear hc HKF HKT
        have hsz := HN.out
        have c1 := cell_of_row w3 g 1 _ _ _ HS3.out
        have f1 := frozen_of_row w3 g 1 _ _ HS3.out
        go_upto_region 16 with fail
        have HS4 : Hid (ScanAt (w3.setCell ⟨g, 1, none⟩ (.int .i64 ((i + n : Nat) : Int))) g s (i + n)) := Lib.hid (scan_set HS3.out (i + n))
        have HR4 : Hid ((w3.setCell ⟨g, 1, none⟩ (.int .i64 ((i + n : Nat) : Int))).heap[n2]? = some (.cells #[.int .u8 0, .string ⟨#[]⟩, .int .i64 0] 32 (0, 0))) := Lib.hid ((Below.heap_setCell _ _ _ _ HNE2.out).trans HR3.out)
        have HO4 : Hid (Only w (w3.setCell ⟨g, 1, none⟩ (.int .i64 ((i + n : Nat) : Int))) (fun k => k = g)) := Lib.hid (HO3.out.trans (Only.setCell _ _ _) fun _ _ h => h)
        have hcast : ((i : Int) + (n : Int)) = ((i + n : Nat) : Int) := by omega
        rw [hcast]
        clear hcast c1 f1 hsz HS3 HO3 HR3
        generalize w3.setCell ⟨g, 1, none⟩ (.int .i64 ((i + n : Nat) : Int)) = w5 at *
        have c0 := cell_of_row w5 n2 0 _ _ _ HR4.out
        have f0 := frozen_of_row w5 n2 0 _ _ HR4.out
        have c1 := cell_of_row w5 n2 1 _ _ _ HR4.out
        have f1 := frozen_of_row w5 n2 1 _ _ HR4.out
        have c2 := cell_of_row w5 n2 2 _ _ _ HR4.out
        have f2 := frozen_of_row w5 n2 2 _ _ HR4.out
        go_wp2_with fail
        obtain ⟨hrw, hsc2, hon2⟩ := tok_stored (k := 4) (T := T) (i := i) HR4.out HS4.out HO4.out HN2.out HNE2.out
        have d0 := cell_of_row _ n2 0 _ _ _ hrw
        have d1 := cell_of_row _ n2 1 _ _ _ hrw
        have d2 := cell_of_row _ n2 2 _ _ _ hrw
        have HSC := Lib.hid hsc2
        have HON := Lib.hid hon2
        clear hrw hsc2 hon2
        generalize ((w5.setCell ⟨n2, 0, none⟩ (.int .u8 4)).setCell ⟨n2, 1, none⟩ (.string (mk8 T))).setCell ⟨n2, 2, none⟩ (.int .i64 i) = W9 at *
        refine bodyPost_ret (v := .tuple #[tokV 4 T i, .bool true]) (by simp [results, Tryd.results26, go_sem, d0, d1, d2, tokV, strV_mk]) rfl ?_
        exact ⟨fun h => absurd h (by rw [HK.out]; exact Nat.succ_ne_zero _), fun _ => ⟨by rw [HK.out, HTN.out], by rw [HK.out]; exact HSC.out⟩, HON.out⟩
end Go.Proofs.YtffghdehimhpiaaDoor
