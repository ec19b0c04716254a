/- Walk: bytes are read as an operation. -/
import Derived.Test.YtminfdlhbecnhaaGreatDoorOpRTxt
import Derived.Test.YtminfdlhbecnhaaGreatDoorEqual
import Derived.Test.YtminfdlhbecnhaaGreatDoorSizesP
namespace Go.Proofs.YtminfdlhbecnhaaGreatDoor
open Go.RowKit

/-- are these the bytes of an operation that may be? -/
def BytesFor (p : List UInt8) (k a b : Nat) (nm : ByteArray) : Prop := rightB k a b nm = true ∧ a < 18446744073709551616 ∧ b < 18446744073709551616 ∧ bytesOf k a b nm = p

def byR1 (p : List UInt8) : UInt8 × Option (List UInt8) := Rd.take (some p)
def byR2 (p : List UInt8) : Nat × Option (List UInt8) := Rd.num 18446744073709551615 (byR1 p).2
def byR3 (p : List UInt8) : Nat × Option (List UInt8) := Rd.num 18446744073709551615 (byR2 p).2
def byR4 (p : List UInt8) : List UInt8 × Option (List UInt8) := Rd.text 64 (byR3 p).2

theorem text_short (most : Nat) (o : Option (List UInt8)) : (Rd.text most o).1.length ≤ most := by
  unfold Rd.text
  have h := Rd.num_lt most o
  split
  · next n l hn =>
    rw [hn] at h
    split
    · show (List.take n l).length ≤ most
      rw [List.length_take]
      exact Nat.le_trans (Nat.min_le_left _ _) h
    · exact Nat.zero_le _
  · exact Nat.zero_le _

theorem parse_back {p : List UInt8} {k a b : Nat} {nm : ByteArray} (h : BytesFor p k a b nm) : (byR1 p).1.toNat = k ∧ (byR2 p).1 = a ∧ (byR3 p).1 = b ∧ (byR4 p).1 = nm.data.toList ∧ (byR4 p).2 = some [] := by
  obtain ⟨h1, h2, h3, rfl⟩ := h
  obtain ⟨p1, p2, -⟩ := right_parts h1
  have h64 := right_name h1
  have e0 : bytesOf k a b nm = UInt8.ofNat k :: (Vi.varint a ++ (Vi.varint b ++ (Vi.varint nm.size ++ nm.data.toList))) := by
    unfold bytesOf
    rw [if_pos h1]
    simp
  have e1 : byR1 (bytesOf k a b nm) = (UInt8.ofNat k, some (Vi.varint a ++ (Vi.varint b ++ (Vi.varint nm.size ++ nm.data.toList)))) := by rw [e0]; rfl
  have e2 : byR2 (bytesOf k a b nm) = (a, some (Vi.varint b ++ (Vi.varint nm.size ++ nm.data.toList))) := by
    unfold byR2
    rw [e1, num_varint _ _ _ h2, if_pos (by omega)]
  have e3 : byR3 (bytesOf k a b nm) = (b, some (Vi.varint nm.size ++ nm.data.toList)) := by
    unfold byR3
    rw [e2, num_varint _ _ _ h3, if_pos (by omega)]
  have e4 : byR4 (bytesOf k a b nm) = (nm.data.toList, some []) := by
    unfold byR4
    rw [e3]
    unfold Rd.text
    rw [num_varint _ _ _ (by omega), if_pos h64]
    simp only
    rw [if_pos (by rw [str_len]; exact Nat.le_refl _), List.take_of_length_le (by rw [str_len]; exact Nat.le_refl _), List.drop_eq_nil_of_le (by rw [str_len]; exact Nat.le_refl _)]
  rw [e1, e2, e3, e4]
  exact ⟨UInt8.toNat_ofNat_of_lt' (by simp [UInt8.size]; omega), rfl, rfl, rfl, rfl⟩

theorem rd_keep {B : Nat} {w w' : World} {v : Value} {o : Option (List UInt8)} (h : RdAt B w v o) (hb : Below w.heap.size w w') : RdAt B w' v o := by
  rcases h with h | ⟨g, u, rfl, hg, h⟩
  · exact .inl h
  · rcases h with ⟨rfl, h⟩ | ⟨l, rfl, h, hy, hB⟩
    · exact .inr ⟨g, undef, rfl, hg, .inl ⟨rfl, (hb.block g (Array.getElem?_eq_some_iff.1 h).1).trans h⟩⟩
    · exact .inr ⟨g, u, rfl, hg, .inr ⟨l, rfl, (hb.block g (Array.getElem?_eq_some_iff.1 h).1).trans h, hy.below hb, hB⟩⟩

/-- what Parse tells -/
def ParseSays (w : World) (p : List UInt8) (e : Ending) (w' : World) : Prop :=
  ((∃ k a b nm, BytesFor p k a b nm ∧ e = .returned (.tuple #[.agg #[.int .u8 k, .int .u64 a, .int .u64 b, .string nm], .int .i64 0])) ∨
    ((∀ k a b nm, ¬ BytesFor p k a b nm) ∧ e = .returned (.tuple #[.agg #[.int .u8 0, .int .u64 0, .int .u64 0, .string ByteArray.empty], .int .i64 2]))) ∧ Below w.heap.size w w'

set_option linter.unusedSimpArgs false in
set_option maxRecDepth 100000 in
set_option maxHeartbeats 3200000 in
theorem oparse_any (v : Value) (p : List UInt8) (w : World) (hv : Bytes w v p) (hp : p.length ≤ 1000000) (ht : Tabs w) : Calls Tryz.prog 12 #[v] w (ParseSays w p) := by
  have HT := Lib.hid ht
  have HV := Lib.hid hv
  clear ht hv
  obtain ⟨kd, hkd⟩ : ∃ x, x = (byR1 p).1.toNat := ⟨_, rfl⟩
  obtain ⟨na, hna⟩ : ∃ x, x = (byR2 p).1 := ⟨_, rfl⟩
  obtain ⟨nb, hnb⟩ : ∃ x, x = (byR3 p).1 := ⟨_, rfl⟩
  obtain ⟨sN, hsN⟩ : ∃ x, x = strOf (byR4 p).1 := ⟨_, rfl⟩
  obtain ⟨o4, ho4⟩ : ∃ x, x = (byR4 p).2 := ⟨_, rfl⟩
  have hk256 : kd < 256 := by rw [hkd]; exact (byR1 p).1.toNat_lt
  have hna64 : na < 18446744073709551616 := by rw [hna]; exact Nat.lt_succ_of_le (Rd.num_lt _ _)
  have hnb64 : nb < 18446744073709551616 := by rw [hnb]; exact Nat.lt_succ_of_le (Rd.num_lt _ _)
  have hsN64 : sN.size ≤ 64 := by rw [← str_len, hsN]; exact text_short 64 _
  have HKD := Lib.hid hkd
  have HNA := Lib.hid hna
  have HNB := Lib.hid hnb
  have HSN := Lib.hid hsN
  have HO4 := Lib.hid ho4
  clear hkd hna hnb hsN ho4
  go_enter Tryz.func12, Tryz.ntmps12
  go_upto_region 1 with fail
  have hb1 := bal (bre w) (.cells #[.int .u8 0, .int .u64 0, .int .u64 0, .string ⟨#[]⟩] 25)
  have hr1 := heap_alloc_new w (.cells #[.int .u8 0, .int .u64 0, .int .u64 0, .string ⟨#[]⟩] 25)
  generalize w.alloc (.cells #[.int .u8 0, .int .u64 0, .int .u64 0, .string ⟨#[]⟩] 25) = w1 at *
  obtain ⟨b2, hb2⟩ : ∃ n, n = w.heap.size := ⟨_, rfl⟩
  rw [← hb2] at hr1 ⊢
  have HB1 := Lib.hid hb1
  have HR1 := Lib.hid hr1
  have HF2 : Hid (w.heap.size ≤ b2) := Lib.hid (by omega)
  have HV1 := Lib.hid (HV.out.below hb1)
  clear hb1 hr1 hb2
  go_wp2_with fail
  refine (read_any v p w1 HV1.out (by omega)).mono ?_
  rintro e w2 ⟨rv, rfl, hrd, hb2, hrn⟩
  obtain ⟨B, hB⟩ : ∃ B, B = w2.heap.size := ⟨_, rfl⟩
  rw [← hB] at hrd
  have HB2 := Lib.hid hb2
  have HRN : Hid (∀ k, rv = .pointer (some ⟨k, 0, none⟩) → b2 < k) := Lib.hid fun k e => Nat.lt_of_lt_of_le (Array.getElem?_eq_some_iff.1 HR1.out).1 (hrn k e)
  have HRD := Lib.hid hrd
  have HR2 := Lib.hid ((hb2.block b2 (Array.getElem?_eq_some_iff.1 HR1.out).1).trans HR1.out)
  have HV2 := Lib.hid (HV1.out.below hb2)
  have HBB := Lib.hid (btr HB1.out hb2)
  clear hrd hb2 hrn hB HR1 HV1 HB1 HB2
  go_wp2_with fail
  refine (rbyte_any B rv (some p) w2 HRD.out).mono ?_
  rintro e w3 ⟨he, hrd, ht3⟩
  have he2 : e = .returned (.int .u8 kd) := by rw [HKD.out]; exact he
  subst he2
  clear he
  have HRD3 : Hid (RdAt B w3 rv (byR1 p).2) := Lib.hid hrd
  have HT3 := Lib.hid ht3
  clear hrd ht3 HRD
  go_wp2_with fail
  refine (rnum_any B rv (byR1 p).2 18446744073709551615 w3 HRD3.out).mono ?_
  rintro e w4 ⟨he, hrd, ht4⟩
  have he2 : e = .returned (.int .u64 na) := by rw [HNA.out]; exact he
  subst he2
  clear he
  have HRD4 : Hid (RdAt B w4 rv (byR2 p).2) := Lib.hid hrd
  have HT4 := Lib.hid (HT3.out.trans ht4)
  clear hrd ht4 HRD3 HT3
  go_wp2_with fail
  refine (rnum_any B rv (byR2 p).2 18446744073709551615 w4 HRD4.out).mono ?_
  rintro e w5 ⟨he, hrd, ht5⟩
  have he2 : e = .returned (.int .u64 nb) := by rw [HNB.out]; exact he
  subst he2
  clear he
  have HRD5 : Hid (RdAt B w5 rv (byR3 p).2) := Lib.hid hrd
  have HT5 := Lib.hid (HT4.out.trans ht5)
  clear hrd ht5 HRD4 HT4
  go_wp2_with fail
  refine (rtext_any B rv (byR3 p).2 64 w5 (by omega) HRD5.out).mono ?_
  rintro e w6 ⟨he, hrd, ht6⟩
  have he2 : e = .returned (.string sN) := by rw [HSN.out]; exact he
  subst he2
  clear he
  have HRD6 : Hid (RdAt B w6 rv o4) := Lib.hid (by rw [HO4.out]; exact hrd)
  have HT6 := Lib.hid (HT5.out.trans ht6)
  clear hrd ht6 HRD5 HT5
  have hR2 := (HT6.out.block b2 (Array.getElem?_eq_some_iff.1 HR2.out).1 (fun e => by have := HRN.out _ e; omega)).trans HR2.out
  have hb6 : Below w.heap.size w w6 := HBB.out.trans (HT6.out.below w.heap.size HBB.out.size fun k hk e => by have := HRN.out k e; have := HF2.out; omega)
  have HV6 := Lib.hid (HV.out.below hb6)
  have HB6 := Lib.hid hb6
  have HR6 := Lib.hid hR2
  clear hR2 hb6 HBB HT6 HR2 HV HV2
  go_upto_region 3 with fail
  have hb7 := bal (bre w6) (.cells #[.int .u8 kd, .int .u64 na, .int .u64 nb, .string sN] 25)
  have hr7 := heap_alloc_new w6 (.cells #[.int .u8 kd, .int .u64 na, .int .u64 nb, .string sN] 25)
  generalize w6.alloc (.cells #[.int .u8 kd, .int .u64 na, .int .u64 nb, .string sN] 25) = w7 at *
  obtain ⟨b5, hb5⟩ : ∃ n, n = w6.heap.size := ⟨_, rfl⟩
  rw [← hb5] at hr7 ⊢
  have HR5 := Lib.hid hr7
  have HR7 := Lib.hid ((hb7.block b2 (Array.getElem?_eq_some_iff.1 HR6.out).1).trans HR6.out)
  have HB7 := Lib.hid (btr HB6.out hb7)
  have HV7 := Lib.hid (HV6.out.below hb7)
  have HRD7 := Lib.hid (rd_keep HRD6.out hb7)
  have HT7 := Lib.hid (HT.out.below HB7.out)
  clear hb7 hr7 hb5 HR6 HB6 HV6 HRD6 HRN
  go_wp2_with fail
  refine (done_any B rv o4 w7 HRD7.out).mono ?_
  rintro e w8 ⟨rfl, hw⟩
  have hw' := hw.symm
  subst hw'
  clear hw HRD7
  have d0 := cell_of_row w7 b5 0 _ _ _ HR5.out
  have d1 := cell_of_row w7 b5 1 _ _ _ HR5.out
  have d2 := cell_of_row w7 b5 2 _ _ _ HR5.out
  have d3 := cell_of_row w7 b5 3 _ _ _ HR5.out
  have e0 := cell_of_row w7 b2 0 _ _ _ HR7.out
  have e1 := cell_of_row w7 b2 1 _ _ _ HR7.out
  have e2 := cell_of_row w7 b2 2 _ _ _ HR7.out
  have e3 := cell_of_row w7 b2 3 _ _ _ HR7.out
  have f0 := frozen_of_row w7 b2 0 _ _ HR7.out
  have f1 := frozen_of_row w7 b2 1 _ _ HR7.out
  have f2 := frozen_of_row w7 b2 2 _ _ HR7.out
  have f3 := frozen_of_row w7 b2 3 _ _ HR7.out
  by_cases ho : o4 = some []
  · rw [if_pos ho]
    have HOK := Lib.hid ho
    clear ho
    have HOB := Lib.hid (obytes_any kd na nb sN hk256 hna64 hnb64 (by omega) w7 HT7.out.sp)
    go_wp2_with fail
    refine HOB.out.mono ?_
    rintro e w9 ⟨ov, rfl, hown, hb9⟩
    have HB9 := Lib.hid (btr HB7.out hb9)
    have HEQ := Lib.hid (equal_any ov v _ p w9 hown.bytes (HV7.out.below hb9))
    have hr5 := (hb9.block b5 (Array.getElem?_eq_some_iff.1 HR5.out).1).trans HR5.out
    have hr2 := (hb9.block b2 (Array.getElem?_eq_some_iff.1 HR7.out).1).trans HR7.out
    have HR2 := Lib.hid hr2
    clear d0 d1 d2 d3 e0 e1 e2 e3 f0 f1 f2 f3 hb9 hown HOB HB7 HV7 HR5 HR7
    have d0 := cell_of_row w9 b5 0 _ _ _ hr5
    have d1 := cell_of_row w9 b5 1 _ _ _ hr5
    have d2 := cell_of_row w9 b5 2 _ _ _ hr5
    have d3 := cell_of_row w9 b5 3 _ _ _ hr5
    have e0 := cell_of_row w9 b2 0 _ _ _ hr2
    have e1 := cell_of_row w9 b2 1 _ _ _ hr2
    have e2 := cell_of_row w9 b2 2 _ _ _ hr2
    have e3 := cell_of_row w9 b2 3 _ _ _ hr2
    have f0 := frozen_of_row w9 b2 0 _ _ hr2
    have f1 := frozen_of_row w9 b2 1 _ _ hr2
    have f2 := frozen_of_row w9 b2 2 _ _ hr2
    have f3 := frozen_of_row w9 b2 3 _ _ hr2
    clear hr5 hr2
    by_cases hbp : bytesOf kd na nb sN = p
    · rw [decide_eq_true hbp] at HEQ
      have HBP := Lib.hid hbp
      clear hbp
      go_wp2_with fail
      refine HEQ.out.mono ?_
      rintro e w10 ⟨rfl, hw⟩
      have hw' := hw.symm
      subst hw'
      clear hw
      go_wp2_with fail
      clear d0 d1 d2 d3 e0 e1 e2 e3 f0 f1 f2 f3
      obtain ⟨hrow, hbw⟩ := op_stored (.int .u8 kd) (.int .u64 na) (.int .u64 nb) (.string sN) HR2.out HB9.out HF2.out
      have d0 := cell_of_row _ b2 0 _ _ _ hrow
      have d1 := cell_of_row _ b2 1 _ _ _ hrow
      have d2 := cell_of_row _ b2 2 _ _ _ hrow
      have d3 := cell_of_row _ b2 3 _ _ _ hrow
      generalize ((((w9.setCell ⟨b2, 0, none⟩ (.int .u8 kd)).setCell ⟨b2, 1, none⟩ (.int .u64 na)).setCell ⟨b2, 2, none⟩ (.int .u64 nb)).setCell ⟨b2, 3, none⟩ (.string sN)) = W9 at *
      refine bodyPost_ret (v := .tuple #[.agg #[(.int .u8 kd), (.int .u64 na), (.int .u64 nb), (.string sN)], .int .i64 0]) (by simp [results, Tryz.results12, go_sem, d0, d1, d2, d3]) rfl ?_
      have hright : rightB kd na nb sN = true := by
        cases hr : rightB kd na nb sN with
        | true => rfl
        | false =>
          exfalso
          have h1 := HBP.out
          unfold bytesOf at h1
          rw [hr] at h1
          have h2 : p = [] := h1.symm
          have h3 := HO4.out
          rw [HOK.out, h2] at h3
          revert h3
          decide
      exact ⟨.inl ⟨kd, na, nb, sN, ⟨hright, hna64, hnb64, HBP.out⟩, rfl⟩, hbw⟩
    · rw [decide_eq_false hbp] at HEQ
      have HBP := Lib.hid hbp
      clear hbp
      go_wp2_with fail
      refine HEQ.out.mono ?_
      rintro e w10 ⟨rfl, hw⟩
      have hw' := hw.symm
      subst hw'
      clear hw
      go_wp2_with fail
      clear d0 d1 d2 d3 e0 e1 e2 e3 f0 f1 f2 f3
      obtain ⟨hrow, hbw⟩ := op_stored (.int .u8 0) (.int .u64 0) (.int .u64 0) (.string ⟨#[]⟩) HR2.out HB9.out HF2.out
      have d0 := cell_of_row _ b2 0 _ _ _ hrow
      have d1 := cell_of_row _ b2 1 _ _ _ hrow
      have d2 := cell_of_row _ b2 2 _ _ _ hrow
      have d3 := cell_of_row _ b2 3 _ _ _ hrow
      generalize ((((w9.setCell ⟨b2, 0, none⟩ (.int .u8 0)).setCell ⟨b2, 1, none⟩ (.int .u64 0)).setCell ⟨b2, 2, none⟩ (.int .u64 0)).setCell ⟨b2, 3, none⟩ (.string ⟨#[]⟩)) = W9 at *
      refine bodyPost_ret (v := .tuple #[.agg #[(.int .u8 0), (.int .u64 0), (.int .u64 0), (.string ⟨#[]⟩)], .int .i64 2]) (by simp [results, Tryz.results12, go_sem, d0, d1, d2, d3]) rfl ?_
      refine ⟨.inr ⟨fun k a b nm h => HBP.out ?_, rfl⟩, hbw⟩
      obtain ⟨g1, g2, g3, g4, g5⟩ := parse_back h
      rw [HKD.out, HNA.out, HNB.out, HSN.out, g1, g2, g3, g4]
      exact h.2.2.2
  · rw [if_neg ho]
    have HOK := Lib.hid ho
    clear ho
    go_wp2_with fail
    clear d0 d1 d2 d3 e0 e1 e2 e3 f0 f1 f2 f3
    obtain ⟨hrow, hbw⟩ := op_stored (.int .u8 0) (.int .u64 0) (.int .u64 0) (.string ⟨#[]⟩) HR7.out HB7.out HF2.out
    have d0 := cell_of_row _ b2 0 _ _ _ hrow
    have d1 := cell_of_row _ b2 1 _ _ _ hrow
    have d2 := cell_of_row _ b2 2 _ _ _ hrow
    have d3 := cell_of_row _ b2 3 _ _ _ hrow
    generalize ((((w7.setCell ⟨b2, 0, none⟩ (.int .u8 0)).setCell ⟨b2, 1, none⟩ (.int .u64 0)).setCell ⟨b2, 2, none⟩ (.int .u64 0)).setCell ⟨b2, 3, none⟩ (.string ⟨#[]⟩)) = W9 at *
    refine bodyPost_ret (v := .tuple #[.agg #[(.int .u8 0), (.int .u64 0), (.int .u64 0), (.string ⟨#[]⟩)], .int .i64 2]) (by simp [results, Tryz.results12, go_sem, d0, d1, d2, d3]) rfl ?_
    refine ⟨.inr ⟨fun k a b nm h => HOK.out ?_, rfl⟩, hbw⟩
    rw [HO4.out]
    exact (parse_back h).2.2.2.2
end Go.Proofs.YtminfdlhbecnhaaGreatDoor
