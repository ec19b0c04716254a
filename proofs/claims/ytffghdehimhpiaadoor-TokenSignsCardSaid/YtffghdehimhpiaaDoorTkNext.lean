/- Walk: the next token. -/
import Derived.Test.YtffghdehimhpiaaDoorTkSkip
import Derived.Test.YtffghdehimhpiaaDoorTkNum
namespace Go.Proofs.YtffghdehimhpiaaDoor
open Go.RowKit

/-- what the tables hold, and goes on holding while only what is new turns -/
def Tb (B : Nat) (w : World) : Prop := ∀ w', Below B w w' → Sp w' ∧ P10 w' ∧ Errs w'
theorem Tb.below {B : Nat} {w w' : World} (h : Tb B w) (hb : Below B w w') : Tb B w' := fun _ k => h _ (hb.trans k)
theorem Tb.here {B : Nat} {w : World} (h : Tb B w) : Sp w ∧ P10 w ∧ Errs w := h w (Below.refl _ _)
theorem Tb.mk' {w : World} (h1 : Sp w) (h2 : P10 w) (h3 : Errs w) : Tb w.heap.size w := fun _ hb => ⟨h1.below hb, h2.below hb, h3.below hb⟩

theorem mk8_list (l : List UInt8) : (mk8 l).toList = l := by rw [ByteArray.toList_eq]; rfl

theorem words_mem (T : List UInt8) : tokWords.contains T = isWordB (mk8 T) := by
  rw [Bool.eq_iff_iff, isword_iff, List.contains_iff_mem]
  constructor
  · intro h
    obtain ⟨j, hj⟩ := List.getElem?_of_mem h
    have hlt := (List.getElem?_eq_some_iff.1 hj).1
    exact ⟨j, hlt, by rw [List.getD_eq_getElem?_getD, hj]; rfl⟩
  · rintro ⟨j, hj, he⟩
    have e : tokWords.getD j [] = T := by
      have := congrArg (fun s : ByteArray => s.data.toList) he
      exact this
    rw [← e, List.getD_eq_getElem?_getD, List.getElem?_eq_getElem hj]
    exact List.getElem_mem _

theorem signs_mem (T : List UInt8) : Lib.containsS (signRows.map mk8) (mk8 T) = signRows.contains T := by
  rw [Bool.eq_iff_iff, List.contains_iff_mem]
  unfold Lib.containsS
  rw [decide_eq_true_iff, Lib.idxOfS_nonneg_iff]
  constructor
  · intro hm
    obtain ⟨l, hl', he⟩ := List.mem_map.1 hm
    have e : l = T := congrArg (fun s : ByteArray => s.data.toList) he
    rw [← e]
    exact hl'
  · intro h
    exact List.mem_map_of_mem h

set_option maxRecDepth 100000 in
theorem signs_any (w : World) (hsp : Sp w) : Calls Tryd.prog 23 #[] w fun e w' => e = .returned (.slice (some ⟨w.heap.size, 0, none⟩) 22 22) ∧ w' = w.alloc (.cells (signRows.map strV).toArray 9) := by
  go_enter Tryd.func23, Tryd.ntmps23
  go_wp2_with fail
  refine (fields_is _ signRows 22 w hsp (by kernel_rfl) rfl (of_decide_eq_true (by kernel_rfl)) (by kernel_rfl)).mono ?_
  rintro e w1 ⟨rfl, rfl⟩
  go_wp2_with fail
  go_ret
  exact ⟨rfl, rfl⟩

def tokV (k : Nat) (T : List UInt8) (i : Nat) : Value := .agg #[.int .u8 k, strV T, .int .i64 i]

/-- what next tells -/
structure NextSays (w : World) (g : Nat) (s : ByteArray) (i : Nat) (kn : Nat × Nat) (e : Ending) (w' : World) : Prop where
  no : kn.1 = 0 → ∃ k T p, e = .returned (.tuple #[tokV k T p, .bool false])
  yes : kn.1 ≠ 0 → e = .returned (.tuple #[tokV kn.1 ((s.data.toList.drop i).take kn.2) i, .bool true]) ∧ ScanAt w' g s (i + kn.2)
  only : Only w w' (fun k => k = g)

theorem run_parts (l : List UInt8) : ∀ b ∈ l.take (runOf l), partN b.toNat = true := by
  induction l with
  | nil => intro b hb; simp at hb
  | cons c r ih =>
    intro b hb
    unfold runOf at hb
    rw [List.takeWhile_cons] at hb
    split at hb
    · next hc =>
      rw [List.length_cons, List.take_succ_cons] at hb
      rcases List.mem_cons.1 hb with rfl | hb
      · exact hc
      · exact ih b hb
    · simp at hb

theorem run_le (l : List UInt8) : runOf l ≤ l.length := (List.takeWhile_sublist _).length_le

theorem tok_stored {w w3 : World} {g n2 j k i : Nat} {s : ByteArray} {T : List UInt8} {a b c : Value} (hr : w3.heap[n2]? = some (.cells #[a, b, c] 32 (0, 0))) (hs : ScanAt w3 g s j) (ho : Only w w3 (fun k => k = g)) (hn : w.heap.size ≤ n2) (hne : n2 ≠ g) :
    ((((w3.setCell ⟨n2, 0, none⟩ (.int .u8 k)).setCell ⟨n2, 1, none⟩ (.string (mk8 T))).setCell ⟨n2, 2, none⟩ (.int .i64 i)).heap[n2]? = some (.cells #[.int .u8 k, .string (mk8 T), .int .i64 i] 32 (0, 0))) ∧
    ScanAt (((w3.setCell ⟨n2, 0, none⟩ (.int .u8 k)).setCell ⟨n2, 1, none⟩ (.string (mk8 T))).setCell ⟨n2, 2, none⟩ (.int .i64 i)) g s j ∧
    Only w (((w3.setCell ⟨n2, 0, none⟩ (.int .u8 k)).setCell ⟨n2, 1, none⟩ (.string (mk8 T))).setCell ⟨n2, 2, none⟩ (.int .i64 i)) (fun k => k = g) := by
  have h1 : (w3.setCell ⟨n2, 0, none⟩ (.int .u8 k)).heap[n2]? = some (.cells #[.int .u8 k, b, c] 32 (0, 0)) := heap_setCell_same w3 n2 0 _ _ (.int .u8 k) hr
  generalize hw1 : w3.setCell ⟨n2, 0, none⟩ (.int .u8 k) = w1 at *
  have h2 : (w1.setCell ⟨n2, 1, none⟩ (.string (mk8 T))).heap[n2]? = some (.cells #[.int .u8 k, .string (mk8 T), c] 32 (0, 0)) := heap_setCell_same w1 n2 1 _ _ (.string (mk8 T)) h1
  generalize hw2 : w1.setCell ⟨n2, 1, none⟩ (.string (mk8 T)) = w2 at *
  have h3 : (w2.setCell ⟨n2, 2, none⟩ (.int .i64 i)).heap[n2]? = some (.cells #[.int .u8 k, .string (mk8 T), .int .i64 i] 32 (0, 0)) := heap_setCell_same w2 n2 2 _ _ (.int .i64 i) h2
  have o1 : Only w3 w1 (fun k => k = n2) := by rw [← hw1]; exact Only.setCell w3 ⟨n2, 0, none⟩ _
  have o2 : Only w1 w2 (fun k => k = n2) := by rw [← hw2]; exact Only.setCell w1 ⟨n2, 1, none⟩ _
  have ho3 : Only w3 (w2.setCell ⟨n2, 2, none⟩ (.int .i64 i)) (fun k => k = n2) := (o1.trans o2 fun _ _ h => h).trans (Only.setCell w2 ⟨n2, 2, none⟩ _) fun _ _ h => h
  refine ⟨h3, (ho3.block g (Array.getElem?_eq_some_iff.1 hs).1 (fun h => hne h.symm)).trans hs, ho.trans ho3 fun q hq h => ?_⟩
  omega

set_option maxRecDepth 100000 in
set_option maxHeartbeats 3200000 in
theorem next_part (B g i : Nat) (s : ByteArray) (w : World) (hr : ScanAt w g s i) (hi : i < s.size) (hs : s.size ≤ 281474976710656) (ht : Tb B w) (hB : B ≤ w.heap.size) (hg : B ≤ g)
    (hp : partN (s[i]'hi).toNat = true) : Calls Tryd.prog 26 #[.pointer (some ⟨g, 0, none⟩)] w (NextSays w g s i (tokAt (s.data.toList.drop i))) := by
  have hll : i < s.data.toList.length := by rw [str_len]; exact hi
  have hd := drop_cons s.data.toList i hll
  rw [str_get s i hi] at hd
  obtain ⟨T, hT⟩ : ∃ T, T = (s.data.toList.drop i).take (runOf (s.data.toList.drop i)) := ⟨_, rfl⟩
  obtain ⟨n, hn⟩ : ∃ n, n = runOf (s.data.toList.drop i) := ⟨_, rfl⟩
  have hta : tokAt (s.data.toList.drop i) = (kindOf T, n) := by
    unfold tokAt
    rw [if_pos (by rw [hd]; exact hp), ← hT, ← hn]
  have hpt : ∀ b ∈ T, partN b.toNat = true := by rw [hT]; exact run_parts _
  have hne : T ≠ [] := by
    rw [hT]
    intro h
    have h1 := congrArg List.length h
    rw [List.length_take, Nat.min_eq_left (run_le _)] at h1
    have h2 : 0 < runOf (s.data.toList.drop i) := by rw [hd]; exact run_pos hp
    simp at h1
    omega
  have hTl : T.length ≤ s.size := by
    rw [hT, List.length_take, List.length_drop, str_len]; omega
  have hTn : (s.data.toList.drop i).take n = T := by rw [hT, hn]
  rw [hta]
  have HRUN : Hid (∀ w', ScanAt w' g s i → Calls Tryd.prog 35 #[.pointer (some ⟨g, 0, none⟩), .func (.func 37) #[] #[]] w' fun e w'' => e = .returned (strV T) ∧ ScanAt w'' g s (i + n) ∧ Only w' w'' (fun k => k = g)) := Lib.hid fun w' h => by
    have := run_part g i s w' h (Nat.le_of_lt hi) hs
    rw [← hT, ← hn] at this
    exact this
  have HPT := Lib.hid hpt
  have HNE := Lib.hid hne
  have HTL := Lib.hid hTl
  have HTN := Lib.hid hTn
  have HSC := Lib.hid hr
  have HT := Lib.hid ht
  have HGL : Hid (g < w.heap.size) := Lib.hid (Array.getElem?_eq_some_iff.1 hr).1
  clear hd hT hn hta hpt hne hTl hTn hr ht hll
  go_enter Tryd.func26, Tryd.ntmps26
  go_upto_region 1 with fail
  have hb0 := bal (bre w) (.cells #[.int .u8 0, .string ⟨#[]⟩, .int .i64 0] 32)
  have hr0 := heap_alloc_new w (.cells #[.int .u8 0, .string ⟨#[]⟩, .int .i64 0] 32)
  generalize w.alloc (.cells #[.int .u8 0, .string ⟨#[]⟩, .int .i64 0] 32) = W0 at *
  obtain ⟨n2, hn2⟩ : ∃ n, n = w.heap.size := ⟨_, rfl⟩
  rw [← hn2] at hr0 ⊢
  have hne2 : n2 ≠ g := by have := HGL.out; omega
  have HNE2 := Lib.hid hne2
  have HS0 : Hid (ScanAt W0 g s i) := Lib.hid (scan_keep HSC.out hb0)
  have HB0 := Lib.hid hb0
  have HN2 : Hid (w.heap.size ≤ n2) := Lib.hid (by omega)
  have HR0 := Lib.hid hr0
  have c0 := cell_of_row W0 g 0 _ _ _ HS0.out
  have c1 := cell_of_row W0 g 1 _ _ _ HS0.out
  have HPA : Hid (∀ w', Calls Tryd.prog 37 #[.int .u8 (s[i]'hi).toNat] w' fun e w'' => e = .returned (.bool true) ∧ w'' = w') := Lib.hid fun w' => by rw [← hp]; exact part_any _ w'
  clear hb0 hr0 hn2 hne2 HSC hp
  go_wp2_with fail
  refine (HPA.out _).mono ?_
  rintro e w1 ⟨rfl, hw⟩
  have hw' := hw.symm
  subst hw'
  clear hw HPA
  go_wp2_with fail
  refine (HRUN.out _ HS0.out).mono ?_
  rintro e w2 ⟨rfl, hs2, ho2⟩
  have HS2 := Lib.hid hs2
  have HO2 : Hid (Only w w2 (fun k => k = g)) := Lib.hid ((Only.of_below HB0.out _).trans ho2 fun _ _ h => h)
  have HR2 : Hid (w2.heap[n2]? = some (.cells #[.int .u8 0, .string ⟨#[]⟩, .int .i64 0] 32 (0, 0))) := Lib.hid ((ho2.block n2 (Array.getElem?_eq_some_iff.1 HR0.out).1 HNE2.out).trans HR0.out)
  clear hs2 ho2 c0 c1 HRUN HS0 HR0
  rw [strV_mk]
  have HT2 : Hid (Tb B w2) := Lib.hid (HT.out.below (HO2.out.below B hB fun k hk h => by omega))
  go_wp2_with fail
  refine (isword_any (mk8 T) w2 HT2.out.here.1).mono ?_
  rintro e w3 ⟨rfl, hb3⟩
  have HO3 : Hid (Only w w3 (fun k => k = g)) := Lib.hid (HO2.out.trans (Only.of_below hb3 _) fun _ _ h => h)
  have HS3 : Hid (ScanAt w3 g s (i + n)) := Lib.hid (scan_keep HS2.out hb3)
  have HR3 : Hid (w3.heap[n2]? = some (.cells #[.int .u8 0, .string ⟨#[]⟩, .int .i64 0] 32 (0, 0))) := Lib.hid ((hb3.block n2 (Array.getElem?_eq_some_iff.1 HR2.out).1).trans HR2.out)
  clear hb3 HO2 HR2 HS2 HT2
  cases hw : isWordB (mk8 T) with
  | true =>
    have hk : kindOf T = 3 := by unfold kindOf; rw [if_pos (by rw [words_mem]; exact hw)]
    have HK := Lib.hid hk
    clear hw hk
    have c0 := cell_of_row w3 n2 0 _ _ _ HR3.out
    have c1 := cell_of_row w3 n2 1 _ _ _ HR3.out
    have c2 := cell_of_row w3 n2 2 _ _ _ HR3.out
    have f0 := frozen_of_row w3 n2 0 _ _ HR3.out
    have f1 := frozen_of_row w3 n2 1 _ _ HR3.out
    have f2 := frozen_of_row w3 n2 2 _ _ HR3.out
    go_wp2_with fail
    obtain ⟨hrow, hsc, hon⟩ := tok_stored (k := 3) (T := T) (i := i) HR3.out HS3.out HO3.out HN2.out HNE2.out
    have d0 := cell_of_row _ n2 0 _ _ _ hrow
    have d1 := cell_of_row _ n2 1 _ _ _ hrow
    have d2 := cell_of_row _ n2 2 _ _ _ hrow
    have HSC := Lib.hid hsc
    have HON := Lib.hid hon
    clear hrow hsc hon
    generalize ((w3.setCell ⟨n2, 0, none⟩ (.int .u8 3)).setCell ⟨n2, 1, none⟩ (.string (mk8 T))).setCell ⟨n2, 2, none⟩ (.int .i64 i) = W9 at *
    refine bodyPost_ret (v := .tuple #[tokV 3 T i, .bool true]) (by simp [results, Tryd.results26, go_sem, d0, d1, d2, tokV, strV_mk]) rfl ?_
    exact ⟨fun h => absurd h (by rw [HK.out]; exact Nat.succ_ne_zero _), fun _ => ⟨by rw [HK.out, HTN.out], HSC.out⟩, HON.out⟩
  | false =>
    have HW : Hid (tokWords.contains T = false) := Lib.hid (by rw [words_mem]; exact hw)
    clear hw
    go_wp2_with fail
    refine (shaped_any (mk8 T) w3 (by rw [← str_len]; show T.length ≤ _; have := HTL.out; omega)).mono ?_
    rintro e w4 ⟨rfl, hw⟩
    have hw' := hw.symm
    subst hw'
    clear hw
    have hmk : shapedB (mk8 T).data.toList = shapedB T := rfl
    rw [hmk]
    clear hmk
    cases hsh : shapedB T with
    | true =>
      have HK : Hid (kindOf T = 1) := Lib.hid (by unfold kindOf; rw [HW.out, if_neg (by decide), if_pos hsh])
      clear hsh
      have c0 := cell_of_row w3 n2 0 _ _ _ HR3.out
      have f0 := frozen_of_row w3 n2 0 _ _ HR3.out
      have c1 := cell_of_row w3 n2 1 _ _ _ HR3.out
      have f1 := frozen_of_row w3 n2 1 _ _ HR3.out
      have c2 := cell_of_row w3 n2 2 _ _ _ HR3.out
      have f2 := frozen_of_row w3 n2 2 _ _ HR3.out
      go_wp2_with fail
      obtain ⟨hrow, hsc, hon⟩ := tok_stored (k := 1) (T := T) (i := i) HR3.out HS3.out HO3.out HN2.out HNE2.out
      have d0 := cell_of_row _ n2 0 _ _ _ hrow
      have d1 := cell_of_row _ n2 1 _ _ _ hrow
      have d2 := cell_of_row _ n2 2 _ _ _ hrow
      have HSC := Lib.hid hsc
      have HON := Lib.hid hon
      clear hrow hsc hon
      generalize ((w3.setCell ⟨n2, 0, none⟩ (.int .u8 1)).setCell ⟨n2, 1, none⟩ (.string (mk8 T))).setCell ⟨n2, 2, none⟩ (.int .i64 i) = W9 at *
      refine bodyPost_ret (v := .tuple #[tokV 1 T i, .bool true]) (by simp [results, Tryd.results26, go_sem, d0, d1, d2, tokV, strV_mk]) rfl ?_
      exact ⟨fun h => absurd h (by rw [HK.out]; exact Nat.succ_ne_zero _), fun _ => ⟨by rw [HK.out, HTN.out], HSC.out⟩, HON.out⟩
    | false =>
      have HKN : Hid (kindOf T = if numB T then 2 else 0) := Lib.hid (by unfold kindOf; rw [HW.out, if_neg (by decide), hsh, if_neg (by decide)])
      have HNP := Lib.hid (num_prog T HNE.out HPT.out)
      have HSZ : Hid ((mk8 T).size ≤ 281474976710656) := Lib.hid (by rw [← str_len]; show T.length ≤ _; have := HTL.out; omega)
      have HT4 : Hid (Tb B w3) := Lib.hid (HT.out.below (HO3.out.below B hB fun k hk h => by omega))
      clear hsh
      by_cases hq : ∃ v, Lib.parseIntB 64 T = .ok v
      · obtain ⟨v, hv⟩ := hq
        obtain ⟨-, v2, v3⟩ := (parse_int T HNE.out HPT.out v).1 hv
        go_wp2_with fail
        refine (pint_ok (mk8 T) HSZ.out v hv w3).mono ?_
        rintro e w5 ⟨rfl, hb5⟩
        have HO5 : Hid (Only w w5 (fun k => k = g)) := Lib.hid (HO3.out.trans (Only.of_below hb5 _) fun _ _ h => h)
        have HS5 : Hid (ScanAt w5 g s (i + n)) := Lib.hid (scan_keep HS3.out hb5)
        have HR5 : Hid (w5.heap[n2]? = some (.cells #[.int .u8 0, .string ⟨#[]⟩, .int .i64 0] 32 (0, 0))) := Lib.hid ((hb5.block n2 (Array.getElem?_eq_some_iff.1 HR3.out).1).trans HR3.out)
        have HT5 : Hid (Tb B w5) := Lib.hid (HT.out.below (HO5.out.below B hB fun k hk h => by omega))
        have HV := Lib.hid hv
        have HV2 : Hid (-9223372036854775808 ≤ v ∧ v ≤ 9223372036854775807) := Lib.hid (by omega)
        clear hb5 hv v2 v3 HO3 HS3 HR3 HT4
        go_wp2_with fail
        refine (fint_any v HV2.out.1 HV2.out.2 w5 HT5.out.here.2.1).mono ?_
        rintro e w6 ⟨rfl, hb6⟩
        have HO6 : Hid (Only w w6 (fun k => k = g)) := Lib.hid (HO5.out.trans (Only.of_below hb6 _) fun _ _ h => h)
        have HS6 : Hid (ScanAt w6 g s (i + n)) := Lib.hid (scan_keep HS5.out hb6)
        have HR6 : Hid (w6.heap[n2]? = some (.cells #[.int .u8 0, .string ⟨#[]⟩, .int .i64 0] 32 (0, 0))) := Lib.hid ((hb6.block n2 (Array.getElem?_eq_some_iff.1 HR5.out).1).trans HR5.out)
        clear hb6 HO5 HS5 HR5 HT5
        rw [strV_mk]
        have c0 := cell_of_row w6 n2 0 _ _ _ HR6.out
        have f0 := frozen_of_row w6 n2 0 _ _ HR6.out
        have c1 := cell_of_row w6 n2 1 _ _ _ HR6.out
        have f1 := frozen_of_row w6 n2 1 _ _ HR6.out
        have c2 := cell_of_row w6 n2 2 _ _ _ HR6.out
        have f2 := frozen_of_row w6 n2 2 _ _ HR6.out
        by_cases he : Lib.itoa v = T
        · have HK : Hid (kindOf T = 2) := Lib.hid (by rw [HKN.out, if_pos (HNP.out.2 ⟨v, HV.out, he⟩)])
          have hq : ((mk8 (Lib.itoa v)).toList == (mk8 T).toList) = true := by rw [mk8_list, mk8_list, he]; simp
          have HQ := Lib.hid he
          clear he
          go_wp2_with fail
          obtain ⟨hrow, hsc, hon⟩ := tok_stored (k := 2) (T := T) (i := i) HR6.out HS6.out HO6.out HN2.out HNE2.out
          have d0 := cell_of_row _ n2 0 _ _ _ hrow
          have d1 := cell_of_row _ n2 1 _ _ _ hrow
          have d2 := cell_of_row _ n2 2 _ _ _ hrow
          have HSC := Lib.hid hsc
          have HON := Lib.hid hon
          clear hrow hsc hon
          generalize ((w6.setCell ⟨n2, 0, none⟩ (.int .u8 2)).setCell ⟨n2, 1, none⟩ (.string (mk8 T))).setCell ⟨n2, 2, none⟩ (.int .i64 i) = W9 at *
          refine bodyPost_ret (v := .tuple #[tokV 2 T i, .bool true]) (by simp [results, Tryd.results26, go_sem, d0, d1, d2, tokV, strV_mk]) rfl ?_
          exact ⟨fun h => absurd h (by rw [HK.out]; exact Nat.succ_ne_zero _), fun _ => ⟨by rw [HK.out, HTN.out], HSC.out⟩, HON.out⟩
        · have HK : Hid (kindOf T = 0) := Lib.hid (by
            rw [HKN.out, if_neg]
            intro h
            obtain ⟨v', h1, h2⟩ := HNP.out.1 h
            rw [HV.out] at h1
            cases h1
            exact he h2)
          have hq : ((mk8 (Lib.itoa v)).toList == (mk8 T).toList) = false := by rw [mk8_list, mk8_list]; exact beq_false_of_ne he
          clear he
          go_wp2_with fail
          obtain ⟨hrow, hsc, hon⟩ := tok_stored (k := 2) (T := T) (i := i) HR6.out HS6.out HO6.out HN2.out HNE2.out
          have d0 := cell_of_row _ n2 0 _ _ _ hrow
          have d1 := cell_of_row _ n2 1 _ _ _ hrow
          have d2 := cell_of_row _ n2 2 _ _ _ hrow
          have HSC := Lib.hid hsc
          have HON := Lib.hid hon
          clear hrow hsc hon
          generalize ((w6.setCell ⟨n2, 0, none⟩ (.int .u8 2)).setCell ⟨n2, 1, none⟩ (.string (mk8 T))).setCell ⟨n2, 2, none⟩ (.int .i64 i) = W9 at *
          refine bodyPost_ret (v := .tuple #[tokV 2 T i, .bool false]) (by simp [results, Tryd.results26, go_sem, d0, d1, d2, tokV, strV_mk]) rfl ?_
          exact ⟨fun _ => ⟨_, _, _, rfl⟩, fun h => absurd HK.out h, HON.out⟩
      · have HK : Hid (kindOf T = 0) := Lib.hid (by
          rw [HKN.out, if_neg]
          intro h
          obtain ⟨v', h1, h2⟩ := HNP.out.1 h
          exact hq ⟨v', h1⟩)
        have HNQ : Hid (∀ v, Lib.parseIntB 64 (mk8 T).data.toList ≠ .ok v) := Lib.hid fun v h => hq ⟨v, h⟩
        clear hq
        go_wp2_with fail
        refine (pint_bad (mk8 T) HSZ.out HNQ.out w3 HT4.out.here.2.2).mono ?_
        rintro e w5 ⟨x, t, p, rfl, hb5⟩
        have HO5 : Hid (Only w w5 (fun k => k = g)) := Lib.hid (HO3.out.trans (Only.of_below hb5 _) fun _ _ h => h)
        have HS5 : Hid (ScanAt w5 g s (i + n)) := Lib.hid (scan_keep HS3.out hb5)
        have HR5 : Hid (w5.heap[n2]? = some (.cells #[.int .u8 0, .string ⟨#[]⟩, .int .i64 0] 32 (0, 0))) := Lib.hid ((hb5.block n2 (Array.getElem?_eq_some_iff.1 HR3.out).1).trans HR3.out)
        clear hb5 HO3 HS3 HR3 HT4
        have c0 := cell_of_row w5 n2 0 _ _ _ HR5.out
        have f0 := frozen_of_row w5 n2 0 _ _ HR5.out
        have c1 := cell_of_row w5 n2 1 _ _ _ HR5.out
        have f1 := frozen_of_row w5 n2 1 _ _ HR5.out
        have c2 := cell_of_row w5 n2 2 _ _ _ HR5.out
        have f2 := frozen_of_row w5 n2 2 _ _ HR5.out
        go_wp2_with fail
        obtain ⟨hrow, hsc, hon⟩ := tok_stored (k := 2) (T := T) (i := i) HR5.out HS5.out HO5.out HN2.out HNE2.out
        have d0 := cell_of_row _ n2 0 _ _ _ hrow
        have d1 := cell_of_row _ n2 1 _ _ _ hrow
        have d2 := cell_of_row _ n2 2 _ _ _ hrow
        have HSC := Lib.hid hsc
        have HON := Lib.hid hon
        clear hrow hsc hon
        generalize ((w5.setCell ⟨n2, 0, none⟩ (.int .u8 2)).setCell ⟨n2, 1, none⟩ (.string (mk8 T))).setCell ⟨n2, 2, none⟩ (.int .i64 i) = W9 at *
        refine bodyPost_ret (v := .tuple #[tokV 2 T i, .bool false]) (by simp [results, Tryd.results26, go_sem, d0, d1, d2, tokV, strV_mk]) rfl ?_
        exact ⟨fun _ => ⟨_, _, _, rfl⟩, fun h => absurd HK.out h, HON.out⟩
end Go.Proofs.YtffghdehimhpiaaDoor
