/- Walk: the law of the forms of operations. -/
import Derived.Test.YtminfdlhbecnhaaGreatDoorOpRBytes
import Derived.Test.YtminfdlhbecnhaaGreatDoorOpFirst
import Derived.Test.YtminfdlhbecnhaaGreatDoorSame
import Derived.Test.YtminfdlhbecnhaaGreatDoorFlip
namespace Go.Proofs.YtminfdlhbecnhaaGreatDoor
open Go.RowKit

theorem op_neq_self (k a b : Nat) (nm : ByteArray) (w : World) : (binOp .neq 25 (.agg #[.int .u8 k, .int .u64 a, .int .u64 b, .string nm]) (.agg #[.int .u8 k, .int .u64 a, .int .u64 b, .string nm])).run Tryz.prog w = .ok (.bool false) w := by
  simp [go_sem]

theorem op_neq_zero (w : World) : (binOp .neq 25 (.agg #[.int .u8 0, .int .u64 0, .int .u64 0, .string ⟨#[]⟩]) (.agg #[.int .u8 0, .int .u64 0, .int .u64 0, .string ⟨#[]⟩])).run Tryz.prog w = .ok (.bool false) w := by
  simp [go_sem]
theorem op_eql_zero (w : World) : (binOp .eql 25 (.agg #[.int .u8 0, .int .u64 0, .int .u64 0, .string ⟨#[]⟩]) (.agg #[.int .u8 0, .int .u64 0, .int .u64 0, .string ⟨#[]⟩])).run Tryz.prog w = .ok (.bool true) w := by
  simp [go_sem]

set_option linter.unusedSimpArgs false in
set_option maxRecDepth 100000 in
set_option maxHeartbeats 6400000 in
theorem forms_calls (k a b : Nat) (nm : ByteArray) (v : Value) (raw : List UInt8) (line : ByteArray) (at' turn : Nat) (hk : k < 256) (ha : a < 18446744073709551616) (hb : b < 18446744073709551616) (hs : nm.size ≤ 9223372036854775807) (hl : line.size ≤ 9223372036854775807)
    (hat : at' < 256) (htu : turn < 256) (w : World) (hv : Bytes w v raw) (ht : Tabs w) (hrv : RdVars w) :
    Calls Tryz.prog 3 #[.agg #[.int .u8 k, .int .u64 a, .int .u64 b, .string nm], v, .string line, .int .u8 at', .int .u8 turn] w fun e w' => e = .returned (.bool true) ∧ Below w.heap.size w w' := by
  have HT := Lib.hid ht
  have HRV := Lib.hid hrv
  have HV := Lib.hid hv
  have HTX := Lib.hid (fun w' => first_any line 120 w' hl (by omega))
  have hl12 := first_size line 120
  obtain ⟨av, cv, rfl, -, -, -, -⟩ := id hv
  clear ht hrv hv hl
  go_enter Tryz.func3, Tryz.ntmps3
  go_upto_region 1 with fail
  have hb1 := bal (bre w) (.cells #[.int .u8 k, .int .u64 a, .int .u64 b, .string nm] 25)
  have hr1 := heap_alloc_new w (.cells #[.int .u8 k, .int .u64 a, .int .u64 b, .string nm] 25)
  generalize w.alloc (.cells #[.int .u8 k, .int .u64 a, .int .u64 b, .string nm] 25) = w1 at *
  obtain ⟨n5, hn5⟩ : ∃ n, n = w.heap.size := ⟨_, rfl⟩
  rw [← hn5] at hr1 ⊢
  have HB1 := Lib.hid hb1
  have HR1 := Lib.hid hr1
  clear hb1 hr1 hn5
  go_wp2_with fail
  refine (awake_any w1 (HT.out.below HB1.out)).mono ?_
  rintro e w2 ⟨rfl, hb2⟩
  have HB2 := Lib.hid (btr HB1.out hb2)
  have HR2 := Lib.hid ((hb2.block n5 (Array.getElem?_eq_some_iff.1 HR1.out).1).trans HR1.out)
  clear hb2 HB1 HR1
  go_wp2_with fail
  refine (cut_any _ raw 30 (by omega) (by omega) w2 (HV.out.below HB2.out)).mono ?_
  rintro e w3 ⟨v3, rfl, ho3, hb3⟩
  have HB3 := Lib.hid (btr HB2.out hb3)
  have HR3 := Lib.hid ((hb3.block n5 (Array.getElem?_eq_some_iff.1 HR2.out).1).trans HR2.out)
  have HO3 := Lib.hid ho3.bytes
  obtain ⟨rw3, hrw3⟩ : ∃ r, r = raw.take (30 : Int).toNat := ⟨_, rfl⟩
  have hlr3 : rw3.length ≤ 30 := by rw [hrw3, List.length_take]; exact Nat.min_le_left _ _
  rw [← hrw3] at HO3
  clear hb3 ho3 hrw3 HB2 HR2
  go_wp2_with fail
  refine (HTX.out w3).mono ?_
  rintro e w4 ⟨rfl, hw⟩
  have hw' := hw.symm
  subst hw'
  clear hw HTX
  generalize firstOf line 120 = ln at *
  go_upto_region 4 with fail
  have c0 := cell_of_row w3 n5 0 _ _ _ HR3.out
  have c1 := cell_of_row w3 n5 1 _ _ _ HR3.out
  have c2 := cell_of_row w3 n5 2 _ _ _ HR3.out
  have c3 := cell_of_row w3 n5 3 _ _ _ HR3.out
  obtain ⟨rb, hrb⟩ : ∃ r, r = rightB k a b nm := ⟨_, rfl⟩
  have HRB := Lib.hid hrb
  clear hrb
  go_cut [11] from 28 to 36 (fun t w' => t = .bool rb ∧ Hid (Below w3.heap.size w3 w'))
  case first =>
    by_cases h100 : nm.size < 100
    · have d1 : decide ((nm.size : Int) < 100) = true := decide_eq_true (by omega)
      have d1n : decide (nm.size < 100) = true := decide_eq_true h100
      go_wp2_with fail
      refine (own_any k a b nm w3).mono ?_
      rintro e x1 ⟨rfl, hx1⟩
      have HX1 := Lib.hid hx1
      clear hx1
      go_wp2_with fail
      refine (rright_any k a b nm hk hs x1).mono ?_
      rintro e x2 ⟨rfl, hx2⟩
      have HX2 := Lib.hid (btr HX1.out hx2)
      rw [← HRB.out]
      clear hx2
      go_wp2_with fail
      go_meet
      case rel => exact ⟨rfl, HX2⟩
    · have d1 : decide ((nm.size : Int) < 100) = false := decide_eq_false (by omega)
      have d1n : decide (nm.size < 100) = false := decide_eq_false h100
      have hf : rb = false := by
        rw [HRB.out]
        refine Bool.eq_false_iff.2 fun h => ?_
        have := right_name h
        omega
      have HF := Lib.hid hf
      clear hf
      go_wp2_with fail
      go_meet
      case rel => exact ⟨by rw [HF.out], Lib.hid (bre w3)⟩
  case rest =>
    obtain ⟨rfl, HC⟩ := hcut
    have HB4 := Lib.hid (btr HB3.out HC.out)
    have HR4 := Lib.hid ((HC.out.block n5 (Array.getElem?_eq_some_iff.1 HR3.out).1).trans HR3.out)
    have HO4 := Lib.hid (HO3.out.below HC.out)
    clear HC HO3 HR3 HB3 c0 c1 c2 c3
    have c0 := cell_of_row wc n5 0 _ _ _ HR4.out
    have c1 := cell_of_row wc n5 1 _ _ _ HR4.out
    have c2 := cell_of_row wc n5 2 _ _ _ HR4.out
    have c3 := cell_of_row wc n5 3 _ _ _ HR4.out
    go_wp2_with fail
    refine (right_any k a b nm hk hs wc (HT.out.below HB4.out).sp).mono ?_
    rintro e w5 ⟨rfl, hb5⟩
    rw [← HRB.out]
    have HB5 := Lib.hid (btr HB4.out hb5)
    have HR5 := Lib.hid ((hb5.block n5 (Array.getElem?_eq_some_iff.1 HR4.out).1).trans HR4.out)
    have HO5 := Lib.hid (HO4.out.below hb5)
    clear hb5 HB4 HR4 HO4 c0 c1 c2 c3
    have hself : (rb != rb) = false := by simp
    go_upto_region 7 with fail
    obtain ⟨L6, hL6⟩ : ∃ L, L = (bytesOf k a b nm).length := ⟨_, rfl⟩
    have HL6 := Lib.hid hL6
    have HOB : Hid (∀ w', Below w5.heap.size w5 w' → Calls Tryz.prog 10 #[.agg #[.int .u8 k, .int .u64 a, .int .u64 b, .string nm]] w' fun e w'' => ∃ v', e = .returned v' ∧ Own8 5 w'.heap.size w'' v' (bytesOf k a b nm) ∧ Below w'.heap.size w' w'') := Lib.hid fun w' hw => obytes_any k a b nm hk ha hb hs w' (HT.out.below (btr HB5.out hw)).sp
    have HTXT : Hid (∀ w', Below w5.heap.size w5 w' → Calls Tryz.prog 11 #[.agg #[.int .u8 k, .int .u64 a, .int .u64 b, .string nm]] w' fun e w'' => e = .returned (strV (txtOf k a b nm)) ∧ Below w'.heap.size w' w'') := Lib.hid fun w' hw => txt_any k a b nm hk ha hb hs w' (HT.out.below (btr HB5.out hw))
    have HS : Hid (∀ w', Below w5.heap.size w5 w' → (w'.cell? ⟨n5, 0, none⟩ = some (.int .u8 k) ∧ w'.cell? ⟨n5, 1, none⟩ = some (.int .u64 a) ∧ w'.cell? ⟨n5, 2, none⟩ = some (.int .u64 b) ∧ w'.cell? ⟨n5, 3, none⟩ = some (.string nm))) := Lib.hid fun w' hw => by
      have hr := (hw.block n5 (Array.getElem?_eq_some_iff.1 HR5.out).1).trans HR5.out
      exact ⟨cell_of_row w' n5 0 _ _ _ hr, cell_of_row w' n5 1 _ _ _ hr, cell_of_row w' n5 2 _ _ _ hr, cell_of_row w' n5 3 _ _ _ hr⟩
    clear hL6
    refine region_anyZ (z := 4) (S := fun w' => (w'.cell? ⟨n5, 0, none⟩ = some (.int .u8 k) ∧ w'.cell? ⟨n5, 1, none⟩ = some (.int .u64 a) ∧ w'.cell? ⟨n5, 2, none⟩ = some (.int .u64 b) ∧ w'.cell? ⟨n5, 3, none⟩ = some (.string nm))) (by kernel_rfl) ?_
    refine anyZ_begin (fun hcl0 => ?_)
    refine anyZ_held (by exact HS.out _ (bdr (bre w5))) (fun hHeld => ?_)
    -- 0: Op.load 25 (Operand.tmp 5)
    refine' anyZ_take (i := 0) (v := _) rfl (by rfl) (by kernel_rfl) (by kernel_rfl) (by kernel_rfl) hcl0 5 (by kernel_rfl) (by kernel_rfl) (fun _ _ _ h => h) (Or.inl ⟨by rfl, fun w hSw => ?hra1⟩) hHeld (fun hcl1 => ?rra1)
    case hra1 => (simp only [List.getElem_toArray, List.getElem_cons_zero]; obtain ⟨hS1, hS2, hS3, hS4⟩ := hSw; first | (go_simp; with_reducible rfl) | (go_simp; done) | rfl)
    simp only [List.getElem_toArray, List.getElem_cons_zero, Act.put, List.setIfInBounds_toArray, List.set_cons_zero, List.set_cons_succ]
    -- 2: Op.load 25 (Operand.tmp 5)
    refine' anyZ_take (i := 2) (v := _) rfl (by rfl) (by kernel_rfl) (by kernel_rfl) (by kernel_rfl) hcl1 5 (by kernel_rfl) (by kernel_rfl) (fun _ _ _ h => h) (Or.inl ⟨by rfl, fun w hSw => ?hra2⟩) hHeld (fun hcl2 => ?rra2)
    case hra2 => (simp only [List.getElem_toArray, List.getElem_cons_succ, List.getElem_cons_zero]; obtain ⟨hS1, hS2, hS3, hS4⟩ := hSw; first | (go_simp; with_reducible rfl) | (go_simp; done) | rfl)
    simp only [List.getElem_toArray, List.getElem_cons_succ, List.getElem_cons_zero, Act.put, List.setIfInBounds_toArray, List.set_cons_zero, List.set_cons_succ]
    -- 1: Op.call { callee := Callee.value (Operand.func 10), args := 
    refine anyZ_oneG (i := 1) hcl2 (by kernel_rfl) (by simp only [List.getElem?_toArray, List.getElem?_cons_succ, List.getElem?_cons_zero]; rfl) (by rfl) (fun hcl3 K hK => ?_)
    go_simp
    refine (HOB.out _ (bdr (bre w5))).mono ?_
    rintro e wa ⟨va, rfl, hoa, hba⟩
    obtain ⟨a6, c6, rfl, -, -, -, -⟩ := id hoa.bytes
    rw [← HL6.out]
    have HA := Lib.hid (btr (bdr (bre w5)) hba)
    have HOA := Lib.hid hoa
    clear hba hoa
    refine hK _ _ (fun _ => ?_) ?_
    · exact HS.out _ HA.out
    clear hK K hHeld
    have hHeld := (HS.out _ HA.out)
    try simp only [Act.put, List.setIfInBounds_toArray, List.set_cons_zero, List.set_cons_succ]
    -- 3: Op.call { callee := Callee.value (Operand.func 11), args := 
    refine anyZ_oneG (i := 3) hcl3 (by kernel_rfl) (by simp only [List.getElem?_toArray, List.getElem?_cons_succ, List.getElem?_cons_zero]; rfl) (by rfl) (fun hcl4 K hK => ?_)
    go_simp
    refine (HTXT.out _ HA.out).mono ?_
    rintro e wb ⟨rfl, hbb⟩
    rw [strV_mk]
    have HBB := Lib.hid (btr HA.out hbb)
    have HOB6 := Lib.hid (Own8.kept HOA.out (Nat.le_refl _) hbb)
    clear hbb
    refine hK _ _ (fun _ => ?_) ?_
    · exact HS.out _ HBB.out
    clear hK K hHeld
    have hHeld := (HS.out _ HBB.out)
    try simp only [Act.put, List.setIfInBounds_toArray, List.set_cons_zero, List.set_cons_succ]
    clear hHeld
    refine anyZ_chain_at (by kernel_rfl) ?_
    simp only [List.drop_succ_cons, List.drop_zero]
    have HB6 := Lib.hid (btr HB5.out HBB.out)
    have HR6 := Lib.hid ((HBB.out.block n5 (Array.getElem?_eq_some_iff.1 HR5.out).1).trans HR5.out)
    have HO6 := Lib.hid (HO5.out.below HBB.out)
    have HP6 := Lib.hid (HOB6.out.bytes)
    clear HB5 HR5 HO5 HS HTXT HOB HOA HA HBB HOB6 hself
    rw [← HL6.out] at HP6
    generalize hsx : mk8 (txtOf k a b nm) = sx at *
    have HSX := Lib.hid hsx
    clear hsx
    obtain ⟨a3, l3, c3', rfl⟩ : ∃ a3 l3 c3, v3 = .slice a3 l3 c3 := by
      obtain ⟨a3, c3, rfl, -⟩ := HO6.out
      exact ⟨a3, _, c3, rfl⟩
    go_upto_if 46 with fail
    go_cut [1, 14, 15, 16, 17] from 47 to 108 (fun r x e y f w' => ∃ a7 l7 c7 l, r = .slice a7 l7 c7 ∧ Hid (Bytes w' (.slice a7 l7 c7) l) ∧ l.length ≤ 1000 ∧ Hid (Below wb.heap.size wb w'))
    case first =>
      cases hrr : rb with
      | false =>
        have hnr : rightB k a b nm = false := by rw [← HRB.out]; exact hrr
        have hL0 : L6 = 0 := by rw [HL6.out]; unfold bytesOf; rw [hnr]; rfl
        have hs0 : sx = ⟨#[]⟩ := by rw [← HSX.out]; unfold txtOf textOf; rw [hnr]; rfl
        clear HSX HL6 HP6 HRB
        subst hL0
        subst hs0
        subst hrr
        clear hnr
        go_wp2_with fail
        go_meet
        case rel => exact ⟨_, _, _, rw3, rfl, HO6, by omega, Lib.hid (bre wb)⟩
      | true =>
        have hr : rightB k a b nm = true := by rw [← HRB.out]; exact hrr
        have HR := Lib.hid hr
        have hbl : (bytesOf k a b nm).length ≤ 200 := by
          have h64 := right_name hr
          have h1 := (Vi.varint_length a).2
          have h2 := (Vi.varint_length b).2
          have h3 := (Vi.varint_length nm.size).2
          have h4 := str_len nm
          unfold bytesOf
          rw [if_pos hr]
          simp
          omega
        have hbpos : 0 < (bytesOf k a b nm).length := by
          unfold bytesOf
          rw [if_pos hr]
          simp
        have hsz : sx.size ≤ 200 := by
          rw [← HSX.out, ← str_len]
          have := txt_len ha hb hr
          show (txtOf k a b nm).length ≤ 200
          unfold txtOf textOf
          rw [if_pos hr]
          exact this
        have HBL := Lib.hid hbl
        have HBP := Lib.hid hbpos
        clear hr hbl hbpos HRB
        subst hrr
        go_wp2_with fail
        refine (oparse_any _ (bytesOf k a b nm) wb HP6.out (by have := HBL.out; omega) (HT.out.below HB6.out)).mono ?_
        rintro e w7 ⟨hsay, hb7⟩
        have he : e = .returned (.tuple #[.agg #[.int .u8 k, .int .u64 a, .int .u64 b, .string nm], .int .i64 0]) := by
          rcases hsay with ⟨k1, a1, b1, nm1, hf, rfl⟩ | ⟨hno, -⟩
          · obtain ⟨rfl, rfl, rfl, rfl⟩ := bytes_inj hf.1 HR.out hf.2.1 hf.2.2.1 ha hb hf.2.2.2
            rfl
          · exact absurd ⟨HR.out, ha, hb, rfl⟩ (hno k a b nm)
        subst he
        have HB7 := Lib.hid hb7
        clear hsay hb7
        go_upto_region 12 with fail
        have hb8 := bal (bre w7) (.cells #[.int .u8 k, .int .u64 a, .int .u64 b, .string nm] 25)
        have hr8 := heap_alloc_new w7 (.cells #[.int .u8 k, .int .u64 a, .int .u64 b, .string nm] 25)
        generalize w7.alloc (.cells #[.int .u8 k, .int .u64 a, .int .u64 b, .string nm] 25) = w8 at *
        obtain ⟨n14, hn14⟩ : ∃ n, n = w7.heap.size := ⟨_, rfl⟩
        rw [← hn14] at hr8 ⊢
        have HB8 := Lib.hid (btr HB7.out hb8)
        have HR14 := Lib.hid hr8
        clear hb8 hr8 hn14 HB7
        go_wp2_with fail
        refine (oread_any sx (by omega) w8 (HT.out.below (btr HB6.out HB8.out)) (HRV.out.below (btr HB6.out HB8.out))).mono ?_
        rintro e w9 ⟨hsay, hb9⟩
        have hsx2 : sx.data.toList = txtOf k a b nm := by rw [← HSX.out]; rfl
        rw [hsx2] at hsay
        have he : e = .returned (.tuple #[.agg #[.int .u8 k, .int .u64 a, .int .u64 b, .string nm], .int .i64 0]) := by
          rcases hsay with ⟨k1, a1, b1, nm1, hf, rfl⟩ | ⟨hno, -⟩
          · obtain ⟨rfl, rfl, rfl, rfl⟩ := txt_inj hf.1 HR.out hf.2.2.2
            rfl
          · exact absurd ⟨HR.out, ha, hb, rfl⟩ (hno k a b nm)
        subst he
        have HB9 := Lib.hid (btr HB8.out hb9)
        have HR149 := Lib.hid ((hb9.block n14 (Array.getElem?_eq_some_iff.1 HR14.out).1).trans HR14.out)
        clear hsay hb9 hsx2 HB8 HR14
        go_upto_region 13 with fail
        have hb10 := bal (bre w9) (.cells #[.int .u8 k, .int .u64 a, .int .u64 b, .string nm] 25)
        have hr10 := heap_alloc_new w9 (.cells #[.int .u8 k, .int .u64 a, .int .u64 b, .string nm] 25)
        generalize w9.alloc (.cells #[.int .u8 k, .int .u64 a, .int .u64 b, .string nm] 25) = w10 at *
        obtain ⟨n16, hn16⟩ : ∃ n, n = w9.heap.size := ⟨_, rfl⟩
        rw [← hn16] at hr10 ⊢
        have HB10 := Lib.hid (btr HB9.out hb10)
        have HCS : Hid (∀ w', Below w10.heap.size w10 w' → (w'.cell? ⟨n5, 0, none⟩ = some (.int .u8 k) ∧ w'.cell? ⟨n5, 1, none⟩ = some (.int .u64 a) ∧ w'.cell? ⟨n5, 2, none⟩ = some (.int .u64 b) ∧ w'.cell? ⟨n5, 3, none⟩ = some (.string nm)) ∧ (w'.cell? ⟨n14, 0, none⟩ = some (.int .u8 k) ∧ w'.cell? ⟨n14, 1, none⟩ = some (.int .u64 a) ∧ w'.cell? ⟨n14, 2, none⟩ = some (.int .u64 b) ∧ w'.cell? ⟨n14, 3, none⟩ = some (.string nm)) ∧ (w'.cell? ⟨n16, 0, none⟩ = some (.int .u8 k) ∧ w'.cell? ⟨n16, 1, none⟩ = some (.int .u64 a) ∧ w'.cell? ⟨n16, 2, none⟩ = some (.int .u64 b) ∧ w'.cell? ⟨n16, 3, none⟩ = some (.string nm))) := Lib.hid fun w' hw => by
          have h5 := ((btr HB10.out hw).block n5 (Array.getElem?_eq_some_iff.1 HR6.out).1).trans HR6.out
          have h14 := ((btr hb10 hw).block n14 (Array.getElem?_eq_some_iff.1 HR149.out).1).trans HR149.out
          have h16 := (hw.block n16 (Array.getElem?_eq_some_iff.1 hr10).1).trans hr10
          exact ⟨⟨cell_of_row w' n5 0 _ _ _ h5, cell_of_row w' n5 1 _ _ _ h5, cell_of_row w' n5 2 _ _ _ h5, cell_of_row w' n5 3 _ _ _ h5⟩, ⟨cell_of_row w' n14 0 _ _ _ h14, cell_of_row w' n14 1 _ _ _ h14, cell_of_row w' n14 2 _ _ _ h14, cell_of_row w' n14 3 _ _ _ h14⟩, cell_of_row w' n16 0 _ _ _ h16, cell_of_row w' n16 1 _ _ _ h16, cell_of_row w' n16 2 _ _ _ h16, cell_of_row w' n16 3 _ _ _ h16⟩
        have HP10 := Lib.hid (HP6.out.below HB10.out)
        clear hb10 hr10 hn16 HB9 HR149
        obtain ⟨⟨qn50, qn51, qn52, qn53⟩, ⟨qn140, qn141, qn142, qn143⟩, ⟨qn160, qn161, qn162, qn163⟩⟩ := HCS.out w10 (bre w10)
        go_wp2_with fail
        refine (own_any k a b nm w10).mono ?_
        rintro e x1 ⟨rfl, hx1⟩
        have HX1 := Lib.hid hx1
        clear hx1
        clear qn50 qn51 qn52 qn53 qn140 qn141 qn142 qn143 qn160 qn161 qn162 qn163
        go_wp2_with fail
        refine (rbytesop_any k a b nm HR.out ha hb x1).mono ?_
        rintro e x2 ⟨v2, rfl, ho2, hx2⟩
        have HX2 := Lib.hid (btr HX1.out hx2)
        obtain ⟨aa2, cc2, rfl, -, -, -, -⟩ := id ho2.bytes
        have hsm := same_any _ _ (bytesOf k a b nm) (bytesOf k a b nm) x2 (HP10.out.below HX2.out) ho2.bytes
        rw [decide_eq_true rfl] at hsm
        rw [← HL6.out] at hsm ⊢
        have HSM := Lib.hid hsm
        clear hx2 ho2 hsm HX1
        go_wp2_with fail
        refine HSM.out.mono ?_
        rintro e x3 ⟨rfl, q, rfl⟩
        have HX3 := Lib.hid (bdn HX2.out q)
        generalize x2.drewN q = x3 at *
        clear HX2 HSM
        obtain ⟨⟨qn50, qn51, qn52, qn53⟩, ⟨qn140, qn141, qn142, qn143⟩, ⟨qn160, qn161, qn162, qn163⟩⟩ := HCS.out x3 HX3.out
        go_wp2_with fail
        refine (own_any k a b nm x3).mono ?_
        rintro e x4 ⟨rfl, hx4⟩
        have HX4 := Lib.hid (btr HX3.out hx4)
        clear hx4 HX3
        clear qn50 qn51 qn52 qn53 qn140 qn141 qn142 qn143 qn160 qn161 qn162 qn163
        go_wp2_with fail
        refine (rtextop_any k a b nm HR.out ha hb x4).mono ?_
        rintro e x5 ⟨rfl, hx5⟩
        have HX5 := Lib.hid (btr HX4.out hx5)
        rw [HSX.out]
        clear hx5 HX4
        obtain ⟨⟨qn50, qn51, qn52, qn53⟩, ⟨qn140, qn141, qn142, qn143⟩, ⟨qn160, qn161, qn162, qn163⟩⟩ := HCS.out x5 HX5.out
        have hqn := fun w' => op_neq_self k a b nm w'
        have hP5 := HP10.out.below HX5.out
        have HP5 := Lib.hid hP5
        clear hP5
        go_upto_region 15 with fail
        clear qn50 qn51 qn52 qn53 qn140 qn141 qn142 qn143 qn160 qn161 qn162 qn163
        clear hqn
        go_wp2_with fail
        have hrl := rows_lit1 x5 (.slice a6 L6 c6) (bytesOf k a b nm) 26 x5.heap.size rfl HP5.out
        have hb12 := bal (bre x5) (.cells #[.slice a6 L6 c6] 26)
        generalize x5.alloc (.cells #[.slice a6 L6 c6] 26) = w12 at *
        have hfl : [bytesOf k a b nm].flatten = bytesOf k a b nm := by simp
        refine (rjoin_any _ [bytesOf k a b nm] w12 hrl (by rw [hfl]; have := HBL.out; omega)).mono ?_
        rintro e w13 ⟨v13, rfl, ho13, hb13⟩
        rw [hfl] at ho13
        obtain ⟨g, c, rfl, -, -, hcc⟩ := ho13.shape (by intro h; have := HBP.out; rw [h] at this; simp at this)
        have HB12S := Lib.hid hb12.size
        have HCC := Lib.hid hcc
        have hBP := HBP.out
        rw [← HL6.out] at hBP
        obtain ⟨m, hm⟩ : ∃ m, m = at' % L6 := ⟨_, rfl⟩
        have hmL : m < L6 := by rw [hm]; exact Nat.mod_lt _ hBP
        have hmod : (at' : Int) % (L6 : Int) = (m : Int) := by rw [hm]; omega
        have hmod2 : (at' : Int).tmod (L6 : Int) = (m : Int) := by rw [hm, Int.tmod_eq_emod_of_nonneg (by omega)]; omega
        have hnn : m < (bytesOf k a b nm).length := by rw [← HL6.out]; exact hmL
        obtain ⟨hc, hf⟩ := ho13.cell m hnn
        unfold B8 at hc
        have hst := ho13.store m ((bytesOf k a b nm)[m] ^^^ UInt8.ofNat turn)
        rw [xor_B8 _ _ htu] at hst
        obtain ⟨lbt, hlbt⟩ : ∃ l, l = (bytesOf k a b nm).set m ((bytesOf k a b nm)[m] ^^^ UInt8.ofNat turn) := ⟨_, rfl⟩
        have hlt : lbt.length ≤ 200 := by rw [hlbt, List.length_set]; exact HBL.out
        rw [← hlbt] at hst
        have hx := ((bytesOf k a b nm)[m]).toNat_lt
        generalize ((bytesOf k a b nm)[m]).toNat = x at *
        have hxor := xor_u8 x turn hx htu
        rw [← HL6.out] at hst ⊢
        have HST := Lib.hid hst
        have HB13 := Lib.hid ((HB10.out.trans (HX5.out.mono HB10.out.size)).trans ((btr hb12 hb13).mono (Nat.le_trans HB10.out.size HX5.out.size)))
        have HLT := Lib.hid hlt
        have HXOR := Lib.hid hxor
        have HL12 : Hid (wb.heap.size ≤ w12.heap.size) := Lib.hid (Nat.le_trans HB10.out.size (Nat.le_trans HX5.out.size hb12.size))
        have hL6b : L6 ≤ 200 := by rw [HL6.out]; exact HBL.out
        clear hst hb12 hb13 ho13 hrl hfl hlt hxor hlbt hx hnn hcc hm HB12S
        go_wp2_with fail
        rw [HXOR.out]
        go_meet
        case rel => exact ⟨_, _, _, lbt, rfl, Lib.hid HST.out.1.bytes, by have := HLT.out; omega, Lib.hid (HB13.out.trans (HST.out.2.mono HL12.out))⟩
    case rest =>
      obtain ⟨a7, l7, c7, l, rfl, HY, hl1000, HBC⟩ := hcut
      have HB7 := Lib.hid (btr HB6.out HBC.out)
      clear HBC HB6 HR6 HO6 HP6 HSX HL6 HRB
      go_wp2_with fail
      refine (oparse_any _ l wc HY.out (by omega) (HT.out.below HB7.out)).mono ?_
      rintro e w8 ⟨hsay, hb8⟩
      have HB8 := Lib.hid (btr HB7.out hb8)
      have HY8 := Lib.hid (HY.out.below hb8)
      clear hb8 HB7 HY
      rcases hsay with ⟨k1, a1, b1, nm1, hf1, rfl⟩ | ⟨-, he⟩
      · have HF1 := Lib.hid hf1
        go_upto_region 18 with fail
        have hbx := bal (bre w8) (.cells #[.int .u8 k1, .int .u64 a1, .int .u64 b1, .string nm1] 25)
        have hrx := heap_alloc_new w8 (.cells #[.int .u8 k1, .int .u64 a1, .int .u64 b1, .string nm1] 25)
        generalize w8.alloc (.cells #[.int .u8 k1, .int .u64 a1, .int .u64 b1, .string nm1] 25) = w9 at *
        obtain ⟨n18, hnn18⟩ : ∃ n, n = w8.heap.size := ⟨_, rfl⟩
        rw [← hnn18] at hrx ⊢
        have HB9 := Lib.hid (btr HB8.out hbx)
        have HRn18 := Lib.hid hrx
        have HY9 := Lib.hid (HY8.out.below hbx)
        clear hbx hrx hnn18 HB8 HY8 hf1
        go_wp2_with fail
        refine (oread_any ln (by omega) w9 (HT.out.below HB9.out) (HRV.out.below HB9.out)).mono ?_
        rintro e w10 ⟨hsay, hb10⟩
        have HB10 := Lib.hid (btr HB9.out hb10)
        have HR18 := Lib.hid ((hb10.block n18 (Array.getElem?_eq_some_iff.1 HRn18.out).1).trans HRn18.out)
        have HY10 := Lib.hid (HY9.out.below hb10)
        clear hb10 HB9 HY9 HRn18
        rcases hsay with ⟨k2, a2, b2, nm2, hf2, rfl⟩ | ⟨-, he⟩
        · have HF2 := Lib.hid hf2
          go_upto_region 19 with fail
          have hbx := bal (bre w10) (.cells #[.int .u8 k2, .int .u64 a2, .int .u64 b2, .string nm2] 25)
          have hrx := heap_alloc_new w10 (.cells #[.int .u8 k2, .int .u64 a2, .int .u64 b2, .string nm2] 25)
          generalize w10.alloc (.cells #[.int .u8 k2, .int .u64 a2, .int .u64 b2, .string nm2] 25) = w11 at *
          obtain ⟨n20, hnn20⟩ : ∃ n, n = w10.heap.size := ⟨_, rfl⟩
          rw [← hnn20] at hrx ⊢
          have HB11 := Lib.hid (btr HB10.out hbx)
          have HRn20 := Lib.hid hrx
          have HCS : Hid (∀ w', Below w11.heap.size w11 w' → (w'.cell? ⟨n18, 0, none⟩ = some (.int .u8 k1) ∧ w'.cell? ⟨n18, 1, none⟩ = some (.int .u64 a1) ∧ w'.cell? ⟨n18, 2, none⟩ = some (.int .u64 b1) ∧ w'.cell? ⟨n18, 3, none⟩ = some (.string nm1)) ∧ (w'.cell? ⟨n20, 0, none⟩ = some (.int .u8 k2) ∧ w'.cell? ⟨n20, 1, none⟩ = some (.int .u64 a2) ∧ w'.cell? ⟨n20, 2, none⟩ = some (.int .u64 b2) ∧ w'.cell? ⟨n20, 3, none⟩ = some (.string nm2))) := Lib.hid fun w' hw => by
            have h18 := ((btr hbx hw).block n18 (Array.getElem?_eq_some_iff.1 HR18.out).1).trans HR18.out
            have h20 := (hw.block n20 (Array.getElem?_eq_some_iff.1 HRn20.out).1).trans HRn20.out
            exact ⟨⟨cell_of_row w' n18 0 _ _ _ h18, cell_of_row w' n18 1 _ _ _ h18, cell_of_row w' n18 2 _ _ _ h18, cell_of_row w' n18 3 _ _ _ h18⟩, cell_of_row w' n20 0 _ _ _ h20, cell_of_row w' n20 1 _ _ _ h20, cell_of_row w' n20 2 _ _ _ h20, cell_of_row w' n20 3 _ _ _ h20⟩
          have HY11 := Lib.hid (HY10.out.below hbx)
          clear hbx hrx hnn20 HB10 HY10 HR18 HRn20 hf2
          obtain ⟨⟨qn180, qn181, qn182, qn183⟩, ⟨qn200, qn201, qn202, qn203⟩⟩ := HCS.out w11 (bre w11)
          have HX0 := Lib.hid (bre w11)
          have hr1 := HF1.out.1
          have hk14 : k1 ≤ 14 := (right_parts hr1).2.1
          have hm64 := right_name hr1
          have ha1 := HF1.out.2.1
          have hb1 := HF1.out.2.2.1
          clear hr1
          go_wp2_with fail
          refine (own_any k1 a1 b1 nm1 w11).mono ?_
          rintro e x1 ⟨rfl, hx1⟩
          have HX1 := Lib.hid hx1
          clear hx1 HX0
          clear qn180 qn181 qn182 qn183 qn200 qn201 qn202 qn203
          obtain ⟨⟨qn180, qn181, qn182, qn183⟩, ⟨qn200, qn201, qn202, qn203⟩⟩ := HCS.out x1 HX1.out
          go_wp2_with fail
          refine (rright_any k1 a1 b1 nm1 (by omega) (by omega) x1).mono ?_
          rintro e x2 ⟨rfl, hx2⟩
          have HX2 := Lib.hid (btr HX1.out hx2)
          rw [HF1.out.1]
          clear hx2 HX1
          clear qn180 qn181 qn182 qn183 qn200 qn201 qn202 qn203
          obtain ⟨⟨qn180, qn181, qn182, qn183⟩, ⟨qn200, qn201, qn202, qn203⟩⟩ := HCS.out x2 HX2.out
          go_wp2_with fail
          refine (own_any k1 a1 b1 nm1 x2).mono ?_
          rintro e x3 ⟨rfl, hx3⟩
          have HX3 := Lib.hid (btr HX2.out hx3)
          clear hx3 HX2
          clear qn180 qn181 qn182 qn183 qn200 qn201 qn202 qn203
          go_wp2_with fail
          refine (rbytesop_any k1 a1 b1 nm1 HF1.out.1 ha1 hb1 x3).mono ?_
          rintro e x4 ⟨v4, rfl, ho4, hx4⟩
          have HX4 := Lib.hid (btr HX3.out hx4)
          rw [HF1.out.2.2.2] at ho4
          have hsm := same_any _ _ l l x4 ho4.bytes (HY11.out.below HX4.out)
          rw [decide_eq_true rfl] at hsm
          have HSM := Lib.hid hsm
          clear hx4 ho4 hsm HX3
          go_wp2_with fail
          refine HSM.out.mono ?_
          rintro e x5 ⟨rfl, q, rfl⟩
          have HX5 := Lib.hid (bdn HX4.out q)
          generalize x4.drewN q = x5 at *
          clear HX4 HSM
          obtain ⟨⟨qn180, qn181, qn182, qn183⟩, ⟨qn200, qn201, qn202, qn203⟩⟩ := HCS.out x5 HX5.out
          have hqz := fun w' => op_eql_zero w'
          have hr2 := HF2.out.1
          have hk24 : k2 ≤ 14 := (right_parts hr2).2.1
          have hm264 := right_name hr2
          have ha2 := HF2.out.2.1
          have hb2 := HF2.out.2.2.1
          clear hr2
          have HXA := Lib.hid (show Below w11.heap.size w11 x5 from HX5.out)
          go_wp2_with fail
          refine (own_any k2 a2 b2 nm2 x5).mono ?_
          rintro e y1 ⟨rfl, hy1⟩
          have HY1 := Lib.hid (btr HXA.out hy1)
          clear hy1 HXA
          clear qn180 qn181 qn182 qn183 qn200 qn201 qn202 qn203
          obtain ⟨⟨qn180, qn181, qn182, qn183⟩, ⟨qn200, qn201, qn202, qn203⟩⟩ := HCS.out y1 HY1.out
          go_wp2_with fail
          refine (rright_any k2 a2 b2 nm2 (by omega) (by omega) y1).mono ?_
          rintro e y2 ⟨rfl, hy2⟩
          have HY2 := Lib.hid (btr HY1.out hy2)
          rw [HF2.out.1]
          clear hy2 HY1
          clear qn180 qn181 qn182 qn183 qn200 qn201 qn202 qn203
          obtain ⟨⟨qn180, qn181, qn182, qn183⟩, ⟨qn200, qn201, qn202, qn203⟩⟩ := HCS.out y2 HY2.out
          go_wp2_with fail
          refine (own_any k2 a2 b2 nm2 y2).mono ?_
          rintro e y3 ⟨rfl, hy3⟩
          have HY3 := Lib.hid (btr HY2.out hy3)
          clear hy3 HY2
          clear qn180 qn181 qn182 qn183 qn200 qn201 qn202 qn203
          go_wp2_with fail
          refine (rtextop_any k2 a2 b2 nm2 HF2.out.1 ha2 hb2 y3).mono ?_
          rintro e y4 ⟨rfl, hy4⟩
          have HY4 := Lib.hid (btr HB11.out (btr HY3.out hy4))
          have htl : mk8 (txtOf k2 a2 b2 nm2) = ln := by rw [HF2.out.2.2.2]; rfl
          rw [htl]
          clear hy4 HY3 htl
          go_wp2_with fail
          go_ret
          exact ⟨rfl, HY4.out⟩
        · have he2 : e = .returned (.tuple #[.agg #[.int .u8 0, .int .u64 0, .int .u64 0, .string ⟨#[]⟩], .int .i64 20]) := he
          subst he2
          clear he
          go_upto_region 19 with fail
          have hbx := bal (bre w10) (.cells #[.int .u8 0, .int .u64 0, .int .u64 0, .string ⟨#[]⟩] 25)
          have hrx := heap_alloc_new w10 (.cells #[.int .u8 0, .int .u64 0, .int .u64 0, .string ⟨#[]⟩] 25)
          generalize w10.alloc (.cells #[.int .u8 0, .int .u64 0, .int .u64 0, .string ⟨#[]⟩] 25) = w11 at *
          obtain ⟨n20, hnn20⟩ : ∃ n, n = w10.heap.size := ⟨_, rfl⟩
          rw [← hnn20] at hrx ⊢
          have HB11 := Lib.hid (btr HB10.out hbx)
          have HRn20 := Lib.hid hrx
          have HCS : Hid (∀ w', Below w11.heap.size w11 w' → (w'.cell? ⟨n18, 0, none⟩ = some (.int .u8 k1) ∧ w'.cell? ⟨n18, 1, none⟩ = some (.int .u64 a1) ∧ w'.cell? ⟨n18, 2, none⟩ = some (.int .u64 b1) ∧ w'.cell? ⟨n18, 3, none⟩ = some (.string nm1)) ∧ (w'.cell? ⟨n20, 0, none⟩ = some (.int .u8 0) ∧ w'.cell? ⟨n20, 1, none⟩ = some (.int .u64 0) ∧ w'.cell? ⟨n20, 2, none⟩ = some (.int .u64 0) ∧ w'.cell? ⟨n20, 3, none⟩ = some (.string ⟨#[]⟩))) := Lib.hid fun w' hw => by
            have h18 := ((btr hbx hw).block n18 (Array.getElem?_eq_some_iff.1 HR18.out).1).trans HR18.out
            have h20 := (hw.block n20 (Array.getElem?_eq_some_iff.1 HRn20.out).1).trans HRn20.out
            exact ⟨⟨cell_of_row w' n18 0 _ _ _ h18, cell_of_row w' n18 1 _ _ _ h18, cell_of_row w' n18 2 _ _ _ h18, cell_of_row w' n18 3 _ _ _ h18⟩, cell_of_row w' n20 0 _ _ _ h20, cell_of_row w' n20 1 _ _ _ h20, cell_of_row w' n20 2 _ _ _ h20, cell_of_row w' n20 3 _ _ _ h20⟩
          have HY11 := Lib.hid (HY10.out.below hbx)
          clear hbx hrx hnn20 HB10 HY10 HR18 HRn20
          obtain ⟨⟨qn180, qn181, qn182, qn183⟩, ⟨qn200, qn201, qn202, qn203⟩⟩ := HCS.out w11 (bre w11)
          have HX0 := Lib.hid (bre w11)
          have hr1 := HF1.out.1
          have hk14 : k1 ≤ 14 := (right_parts hr1).2.1
          have hm64 := right_name hr1
          have ha1 := HF1.out.2.1
          have hb1 := HF1.out.2.2.1
          clear hr1
          go_wp2_with fail
          refine (own_any k1 a1 b1 nm1 w11).mono ?_
          rintro e x1 ⟨rfl, hx1⟩
          have HX1 := Lib.hid hx1
          clear hx1 HX0
          clear qn180 qn181 qn182 qn183 qn200 qn201 qn202 qn203
          obtain ⟨⟨qn180, qn181, qn182, qn183⟩, ⟨qn200, qn201, qn202, qn203⟩⟩ := HCS.out x1 HX1.out
          go_wp2_with fail
          refine (rright_any k1 a1 b1 nm1 (by omega) (by omega) x1).mono ?_
          rintro e x2 ⟨rfl, hx2⟩
          have HX2 := Lib.hid (btr HX1.out hx2)
          rw [HF1.out.1]
          clear hx2 HX1
          clear qn180 qn181 qn182 qn183 qn200 qn201 qn202 qn203
          obtain ⟨⟨qn180, qn181, qn182, qn183⟩, ⟨qn200, qn201, qn202, qn203⟩⟩ := HCS.out x2 HX2.out
          go_wp2_with fail
          refine (own_any k1 a1 b1 nm1 x2).mono ?_
          rintro e x3 ⟨rfl, hx3⟩
          have HX3 := Lib.hid (btr HX2.out hx3)
          clear hx3 HX2
          clear qn180 qn181 qn182 qn183 qn200 qn201 qn202 qn203
          go_wp2_with fail
          refine (rbytesop_any k1 a1 b1 nm1 HF1.out.1 ha1 hb1 x3).mono ?_
          rintro e x4 ⟨v4, rfl, ho4, hx4⟩
          have HX4 := Lib.hid (btr HX3.out hx4)
          rw [HF1.out.2.2.2] at ho4
          have hsm := same_any _ _ l l x4 ho4.bytes (HY11.out.below HX4.out)
          rw [decide_eq_true rfl] at hsm
          have HSM := Lib.hid hsm
          clear hx4 ho4 hsm HX3
          go_wp2_with fail
          refine HSM.out.mono ?_
          rintro e x5 ⟨rfl, q, rfl⟩
          have HX5 := Lib.hid (bdn HX4.out q)
          generalize x4.drewN q = x5 at *
          clear HX4 HSM
          obtain ⟨⟨qn180, qn181, qn182, qn183⟩, ⟨qn200, qn201, qn202, qn203⟩⟩ := HCS.out x5 HX5.out
          have hqz := fun w' => op_eql_zero w'
          have HFIN := Lib.hid (btr HB11.out (show Below w11.heap.size w11 x5 from HX5.out))
          go_wp2_with fail
          go_ret
          exact ⟨rfl, HFIN.out⟩
      · have he2 : e = .returned (.tuple #[.agg #[.int .u8 0, .int .u64 0, .int .u64 0, .string ⟨#[]⟩], .int .i64 2]) := he
        subst he2
        clear he
        go_upto_region 18 with fail
        have hbx := bal (bre w8) (.cells #[.int .u8 0, .int .u64 0, .int .u64 0, .string ⟨#[]⟩] 25)
        have hrx := heap_alloc_new w8 (.cells #[.int .u8 0, .int .u64 0, .int .u64 0, .string ⟨#[]⟩] 25)
        generalize w8.alloc (.cells #[.int .u8 0, .int .u64 0, .int .u64 0, .string ⟨#[]⟩] 25) = w9 at *
        obtain ⟨n18, hnn18⟩ : ∃ n, n = w8.heap.size := ⟨_, rfl⟩
        rw [← hnn18] at hrx ⊢
        have HB9 := Lib.hid (btr HB8.out hbx)
        have HRn18 := Lib.hid hrx
        have HY9 := Lib.hid (HY8.out.below hbx)
        clear hbx hrx hnn18 HB8 HY8
        go_wp2_with fail
        refine (oread_any ln (by omega) w9 (HT.out.below HB9.out) (HRV.out.below HB9.out)).mono ?_
        rintro e w10 ⟨hsay, hb10⟩
        have HB10 := Lib.hid (btr HB9.out hb10)
        have HR18 := Lib.hid ((hb10.block n18 (Array.getElem?_eq_some_iff.1 HRn18.out).1).trans HRn18.out)
        have HY10 := Lib.hid (HY9.out.below hb10)
        clear hb10 HB9 HY9 HRn18
        rcases hsay with ⟨k2, a2, b2, nm2, hf2, rfl⟩ | ⟨-, he⟩
        · have HF2 := Lib.hid hf2
          go_upto_region 19 with fail
          have hbx := bal (bre w10) (.cells #[.int .u8 k2, .int .u64 a2, .int .u64 b2, .string nm2] 25)
          have hrx := heap_alloc_new w10 (.cells #[.int .u8 k2, .int .u64 a2, .int .u64 b2, .string nm2] 25)
          generalize w10.alloc (.cells #[.int .u8 k2, .int .u64 a2, .int .u64 b2, .string nm2] 25) = w11 at *
          obtain ⟨n20, hnn20⟩ : ∃ n, n = w10.heap.size := ⟨_, rfl⟩
          rw [← hnn20] at hrx ⊢
          have HB11 := Lib.hid (btr HB10.out hbx)
          have HRn20 := Lib.hid hrx
          have HCS : Hid (∀ w', Below w11.heap.size w11 w' → (w'.cell? ⟨n18, 0, none⟩ = some (.int .u8 0) ∧ w'.cell? ⟨n18, 1, none⟩ = some (.int .u64 0) ∧ w'.cell? ⟨n18, 2, none⟩ = some (.int .u64 0) ∧ w'.cell? ⟨n18, 3, none⟩ = some (.string ⟨#[]⟩)) ∧ (w'.cell? ⟨n20, 0, none⟩ = some (.int .u8 k2) ∧ w'.cell? ⟨n20, 1, none⟩ = some (.int .u64 a2) ∧ w'.cell? ⟨n20, 2, none⟩ = some (.int .u64 b2) ∧ w'.cell? ⟨n20, 3, none⟩ = some (.string nm2))) := Lib.hid fun w' hw => by
            have h18 := ((btr hbx hw).block n18 (Array.getElem?_eq_some_iff.1 HR18.out).1).trans HR18.out
            have h20 := (hw.block n20 (Array.getElem?_eq_some_iff.1 HRn20.out).1).trans HRn20.out
            exact ⟨⟨cell_of_row w' n18 0 _ _ _ h18, cell_of_row w' n18 1 _ _ _ h18, cell_of_row w' n18 2 _ _ _ h18, cell_of_row w' n18 3 _ _ _ h18⟩, cell_of_row w' n20 0 _ _ _ h20, cell_of_row w' n20 1 _ _ _ h20, cell_of_row w' n20 2 _ _ _ h20, cell_of_row w' n20 3 _ _ _ h20⟩
          have HY11 := Lib.hid (HY10.out.below hbx)
          clear hbx hrx hnn20 HB10 HY10 HR18 HRn20 hf2
          obtain ⟨⟨qn180, qn181, qn182, qn183⟩, ⟨qn200, qn201, qn202, qn203⟩⟩ := HCS.out w11 (bre w11)
          have hqz := fun w' => op_eql_zero w'
          have hqy := fun w' => op_neq_zero w'
          have hr2 := HF2.out.1
          have hk24 : k2 ≤ 14 := (right_parts hr2).2.1
          have hm264 := right_name hr2
          have ha2 := HF2.out.2.1
          have hb2 := HF2.out.2.2.1
          clear hr2
          have HXA := Lib.hid (show Below w11.heap.size w11 w11 from (bre w11))
          go_wp2_with fail
          refine (own_any k2 a2 b2 nm2 w11).mono ?_
          rintro e y1 ⟨rfl, hy1⟩
          have HY1 := Lib.hid (btr HXA.out hy1)
          clear hy1 HXA
          clear qn180 qn181 qn182 qn183 qn200 qn201 qn202 qn203
          obtain ⟨⟨qn180, qn181, qn182, qn183⟩, ⟨qn200, qn201, qn202, qn203⟩⟩ := HCS.out y1 HY1.out
          go_wp2_with fail
          refine (rright_any k2 a2 b2 nm2 (by omega) (by omega) y1).mono ?_
          rintro e y2 ⟨rfl, hy2⟩
          have HY2 := Lib.hid (btr HY1.out hy2)
          rw [HF2.out.1]
          clear hy2 HY1
          clear qn180 qn181 qn182 qn183 qn200 qn201 qn202 qn203
          obtain ⟨⟨qn180, qn181, qn182, qn183⟩, ⟨qn200, qn201, qn202, qn203⟩⟩ := HCS.out y2 HY2.out
          go_wp2_with fail
          refine (own_any k2 a2 b2 nm2 y2).mono ?_
          rintro e y3 ⟨rfl, hy3⟩
          have HY3 := Lib.hid (btr HY2.out hy3)
          clear hy3 HY2
          clear qn180 qn181 qn182 qn183 qn200 qn201 qn202 qn203
          go_wp2_with fail
          refine (rtextop_any k2 a2 b2 nm2 HF2.out.1 ha2 hb2 y3).mono ?_
          rintro e y4 ⟨rfl, hy4⟩
          have HY4 := Lib.hid (btr HB11.out (btr HY3.out hy4))
          have htl : mk8 (txtOf k2 a2 b2 nm2) = ln := by rw [HF2.out.2.2.2]; rfl
          rw [htl]
          clear hy4 HY3 htl
          go_wp2_with fail
          go_ret
          exact ⟨rfl, HY4.out⟩
        · have he2 : e = .returned (.tuple #[.agg #[.int .u8 0, .int .u64 0, .int .u64 0, .string ⟨#[]⟩], .int .i64 20]) := he
          subst he2
          clear he
          go_upto_region 19 with fail
          have hbx := bal (bre w10) (.cells #[.int .u8 0, .int .u64 0, .int .u64 0, .string ⟨#[]⟩] 25)
          have hrx := heap_alloc_new w10 (.cells #[.int .u8 0, .int .u64 0, .int .u64 0, .string ⟨#[]⟩] 25)
          generalize w10.alloc (.cells #[.int .u8 0, .int .u64 0, .int .u64 0, .string ⟨#[]⟩] 25) = w11 at *
          obtain ⟨n20, hnn20⟩ : ∃ n, n = w10.heap.size := ⟨_, rfl⟩
          rw [← hnn20] at hrx ⊢
          have HB11 := Lib.hid (btr HB10.out hbx)
          have HRn20 := Lib.hid hrx
          have HCS : Hid (∀ w', Below w11.heap.size w11 w' → (w'.cell? ⟨n18, 0, none⟩ = some (.int .u8 0) ∧ w'.cell? ⟨n18, 1, none⟩ = some (.int .u64 0) ∧ w'.cell? ⟨n18, 2, none⟩ = some (.int .u64 0) ∧ w'.cell? ⟨n18, 3, none⟩ = some (.string ⟨#[]⟩)) ∧ (w'.cell? ⟨n20, 0, none⟩ = some (.int .u8 0) ∧ w'.cell? ⟨n20, 1, none⟩ = some (.int .u64 0) ∧ w'.cell? ⟨n20, 2, none⟩ = some (.int .u64 0) ∧ w'.cell? ⟨n20, 3, none⟩ = some (.string ⟨#[]⟩))) := Lib.hid fun w' hw => by
            have h18 := ((btr hbx hw).block n18 (Array.getElem?_eq_some_iff.1 HR18.out).1).trans HR18.out
            have h20 := (hw.block n20 (Array.getElem?_eq_some_iff.1 HRn20.out).1).trans HRn20.out
            exact ⟨⟨cell_of_row w' n18 0 _ _ _ h18, cell_of_row w' n18 1 _ _ _ h18, cell_of_row w' n18 2 _ _ _ h18, cell_of_row w' n18 3 _ _ _ h18⟩, cell_of_row w' n20 0 _ _ _ h20, cell_of_row w' n20 1 _ _ _ h20, cell_of_row w' n20 2 _ _ _ h20, cell_of_row w' n20 3 _ _ _ h20⟩
          have HY11 := Lib.hid (HY10.out.below hbx)
          clear hbx hrx hnn20 HB10 HY10 HR18 HRn20
          obtain ⟨⟨qn180, qn181, qn182, qn183⟩, ⟨qn200, qn201, qn202, qn203⟩⟩ := HCS.out w11 (bre w11)
          have hqz := fun w' => op_eql_zero w'
          have hqy := fun w' => op_neq_zero w'
          have HFIN := Lib.hid (btr HB11.out (show Below w11.heap.size w11 w11 from (bre w11)))
          go_wp2_with fail
          go_ret
          exact ⟨rfl, HFIN.out⟩
end Go.Proofs.YtminfdlhbecnhaaGreatDoor
