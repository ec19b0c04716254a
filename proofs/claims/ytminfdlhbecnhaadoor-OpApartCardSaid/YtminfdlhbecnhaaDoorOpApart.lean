/- Walk: the law of operations that part. -/
import Derived.Test.YtminfdlhbecnhaaDoorOpInj
import Derived.Test.YtminfdlhbecnhaaDoorOpRRight
import Derived.Test.YtminfdlhbecnhaaDoorSame
import Derived.Laws.StructEq
namespace Go.Proofs.YtminfdlhbecnhaaDoor
open Go.RowKit

def opV (k a b : Nat) (nm : ByteArray) : Value := .agg #[.int .u8 k, .int .u64 a, .int .u64 b, .string nm]

theorem op_eql (k a b : Nat) (nm : ByteArray) (k2 a2 b2 : Nat) (nm2 : ByteArray) (w : World) : (binOp .eql 36 (.agg #[.int .u8 k, .int .u64 a, .int .u64 b, .string nm]) (.agg #[.int .u8 k2, .int .u64 a2, .int .u64 b2, .string nm2])).run Tryd.prog w = .ok (.bool (decide (k = k2 ∧ a = a2 ∧ b = b2 ∧ nm = nm2))) w := by
  have e4 : (nm.toList = nm2.toList) ↔ nm = nm2 := ⟨str_toList_inj, fun h => by rw [h]⟩
  have e1 : ((k : Int) = k2) ↔ k = k2 := by omega
  have e2 : ((a : Int) = a2) ↔ a = a2 := by omega
  have e3 : ((b : Int) = b2) ↔ b = b2 := by omega
  simp [go_sem, e1, e2, e3, e4]
  by_cases h1 : k = k2 <;> by_cases h2 : a = a2 <;> by_cases h3 : b = b2 <;> by_cases h4 : nm = nm2 <;> simp [h1, h2, h3, h4]

set_option linter.unusedSimpArgs false in
set_option maxRecDepth 100000 in
set_option maxHeartbeats 3200000 in
theorem apart_calls (k a b : Nat) (nm : ByteArray) (k2 a2 b2 : Nat) (nm2 : ByteArray) (hk : k < 256) (ha : a < 18446744073709551616) (hb : b < 18446744073709551616) (hs : nm.size ≤ 9223372036854775807)
    (hk2 : k2 < 256) (ha2 : a2 < 18446744073709551616) (hb2 : b2 < 18446744073709551616) (hs2 : nm2.size ≤ 9223372036854775807) (w : World) (ht : Tabs w) :
    Calls Tryd.prog 5 #[.agg #[.int .u8 k, .int .u64 a, .int .u64 b, .string nm], .agg #[.int .u8 k2, .int .u64 a2, .int .u64 b2, .string nm2]] w fun e w' => e = .returned (.bool true) ∧ Below w.heap.size w w' := by
  have HRR : Hid (∀ w', Calls Tryd.prog 11 #[.agg #[.int .u8 k, .int .u64 a, .int .u64 b, .string nm]] w' fun e w'' => e = .returned (.bool (rightB k a b nm)) ∧ Below w'.heap.size w' w'') := Lib.hid fun w' => rright_any k a b nm hk hs w'
  have HRR2 : Hid (∀ w', Calls Tryd.prog 11 #[.agg #[.int .u8 k2, .int .u64 a2, .int .u64 b2, .string nm2]] w' fun e w'' => e = .returned (.bool (rightB k2 a2 b2 nm2)) ∧ Below w'.heap.size w' w'') := Lib.hid fun w' => rright_any k2 a2 b2 nm2 hk2 hs2 w'
  have HBY : Hid (∀ w', Tabs w' → Calls Tryd.prog 14 #[.agg #[.int .u8 k, .int .u64 a, .int .u64 b, .string nm]] w' fun e w'' => ∃ v', e = .returned v' ∧ Own8 5 w'.heap.size w'' v' (bytesOf k a b nm) ∧ Below w'.heap.size w' w'') := Lib.hid fun w' h => obytes_any k a b nm hk ha hb hs w' h.sp
  have HBY2 : Hid (∀ w', Tabs w' → Calls Tryd.prog 14 #[.agg #[.int .u8 k2, .int .u64 a2, .int .u64 b2, .string nm2]] w' fun e w'' => ∃ v', e = .returned v' ∧ Own8 5 w'.heap.size w'' v' (bytesOf k2 a2 b2 nm2) ∧ Below w'.heap.size w' w'') := Lib.hid fun w' h => obytes_any k2 a2 b2 nm2 hk2 ha2 hb2 hs2 w' h.sp
  have HTX : Hid (∀ w', Tabs w' → Calls Tryd.prog 15 #[.agg #[.int .u8 k, .int .u64 a, .int .u64 b, .string nm]] w' fun e w'' => e = .returned (strV (txtOf k a b nm)) ∧ Below w'.heap.size w' w'') := Lib.hid fun w' h => txt_any k a b nm hk ha hb hs w' h
  have HTX2 : Hid (∀ w', Tabs w' → Calls Tryd.prog 15 #[.agg #[.int .u8 k2, .int .u64 a2, .int .u64 b2, .string nm2]] w' fun e w'' => e = .returned (strV (txtOf k2 a2 b2 nm2)) ∧ Below w'.heap.size w' w'') := Lib.hid fun w' h => txt_any k2 a2 b2 nm2 hk2 ha2 hb2 hs2 w' h
  have HINJ : Hid (rightB k a b nm = true → rightB k2 a2 b2 nm2 = true → bytesOf k a b nm = bytesOf k2 a2 b2 nm2 → k = k2 ∧ a = a2 ∧ b = b2 ∧ nm = nm2) := Lib.hid fun h1 h2 h => bytes_inj h1 h2 ha hb ha2 hb2 h
  clear hk ha hb hs hk2 ha2 hb2 hs2
  go_enter Tryd.func5, Tryd.ntmps5
  go_upto_region 1 with fail
  have hb0 := bal (bre w) (.cells #[.int .u8 k, .int .u64 a, .int .u64 b, .string nm] 36)
  have hr0 := heap_alloc_new w (.cells #[.int .u8 k, .int .u64 a, .int .u64 b, .string nm] 36)
  obtain ⟨W0, hW0⟩ : ∃ W, W = w.alloc (.cells #[.int .u8 k, .int .u64 a, .int .u64 b, .string nm] 36) := ⟨_, rfl⟩
  rw [← hW0] at hb0 hr0 ⊢
  have hsz : W0.heap.size = w.heap.size + 1 := by rw [hW0]; simp
  have hb1 := bal (bre W0) (.cells #[.int .u8 k2, .int .u64 a2, .int .u64 b2, .string nm2] 36)
  have hr1 := heap_alloc_new W0 (.cells #[.int .u8 k2, .int .u64 a2, .int .u64 b2, .string nm2] 36)
  rw [hsz] at hr1
  generalize W0.alloc (.cells #[.int .u8 k2, .int .u64 a2, .int .u64 b2, .string nm2] 36) = W at *
  obtain ⟨n2, hn2⟩ : ∃ n, n = w.heap.size + 1 := ⟨_, rfl⟩
  rw [← hn2] at hr1 ⊢
  obtain ⟨n1, hn1⟩ : ∃ n, n = w.heap.size := ⟨_, rfl⟩
  rw [← hn1] at hr0 ⊢
  have hlt := (Array.getElem?_eq_some_iff.1 hr0).1
  have HB1 := Lib.hid (btr hb0 hb1)
  have HCS : Hid (∀ w', Below W.heap.size W w' → (w'.cell? ⟨n1, 0, none⟩ = some (.int .u8 k) ∧ w'.cell? ⟨n1, 1, none⟩ = some (.int .u64 a) ∧ w'.cell? ⟨n1, 2, none⟩ = some (.int .u64 b) ∧ w'.cell? ⟨n1, 3, none⟩ = some (.string nm)) ∧ (w'.cell? ⟨n2, 0, none⟩ = some (.int .u8 k2) ∧ w'.cell? ⟨n2, 1, none⟩ = some (.int .u64 a2) ∧ w'.cell? ⟨n2, 2, none⟩ = some (.int .u64 b2) ∧ w'.cell? ⟨n2, 3, none⟩ = some (.string nm2))) := Lib.hid fun w' hb => by
    have h1 := (hb.block n1 (Nat.lt_of_lt_of_le hlt hb1.size)).trans ((hb1.block n1 hlt).trans hr0)
    have h2 := (hb.block n2 (Array.getElem?_eq_some_iff.1 hr1).1).trans hr1
    exact ⟨⟨cell_of_row w' n1 0 _ _ _ h1, cell_of_row w' n1 1 _ _ _ h1, cell_of_row w' n1 2 _ _ _ h1, cell_of_row w' n1 3 _ _ _ h1⟩, ⟨cell_of_row w' n2 0 _ _ _ h2, cell_of_row w' n2 1 _ _ _ h2, cell_of_row w' n2 2 _ _ _ h2, cell_of_row w' n2 3 _ _ _ h2⟩⟩
  have HT := Lib.hid (ht.below HB1.out)
  clear hW0 hsz hb0 hr0 hb1 hr1 hn1 hn2 hlt ht
  go_wp2_with fail
  refine (awake_any W HT.out).mono ?_
  rintro e w1 ⟨rfl, hb1⟩
  have HW1 := Lib.hid hb1
  clear hb1
  obtain ⟨⟨c0, c1, c2, c3⟩, -⟩ := HCS.out w1 HW1.out
  go_wp2_with fail
  refine (own_any k a b nm w1).mono ?_
  rintro e w2 ⟨rfl, hb2⟩
  have HW2 := Lib.hid (btr HW1.out hb2)
  clear hb2 c0 c1 c2 c3 HW1
  go_wp2_with fail
  refine (HRR.out w2).mono ?_
  rintro e w3 ⟨rfl, hb3⟩
  have HW3 := Lib.hid (btr HW2.out hb3)
  clear hb3 HW2
  cases hR1 : rightB k a b nm with
  | false =>
    clear hR1
    go_wp2_with fail
    go_ret
    exact ⟨rfl, btr HB1.out HW3.out⟩
  | true =>
    have HR1 := Lib.hid hR1
    clear hR1
    obtain ⟨-, c0, c1, c2, c3⟩ := HCS.out w3 HW3.out
    go_wp2_with fail
    refine (own_any k2 a2 b2 nm2 w3).mono ?_
    rintro e w4 ⟨rfl, hb4⟩
    have HW4 := Lib.hid (btr HW3.out hb4)
    clear hb4 c0 c1 c2 c3 HW3
    go_wp2_with fail
    refine (HRR2.out w4).mono ?_
    rintro e w5 ⟨rfl, hb5⟩
    have HW5 := Lib.hid (btr HW4.out hb5)
    clear hb5 HW4
    cases hR2 : rightB k2 a2 b2 nm2 with
    | false =>
      clear hR2
      go_wp2_with fail
      go_ret
      exact ⟨rfl, btr HB1.out HW5.out⟩
    | true =>
      have HR2 := Lib.hid hR2
      clear hR2 HRR HRR2
      go_upto_region 5 with fail
      obtain ⟨eq, heq⟩ : ∃ eq, eq = decide (k = k2 ∧ a = a2 ∧ b = b2 ∧ nm = nm2) := ⟨_, rfl⟩
      have hq : ∀ w', (binOp .eql 36 (.agg #[.int .u8 k, .int .u64 a, .int .u64 b, .string nm]) (.agg #[.int .u8 k2, .int .u64 a2, .int .u64 b2, .string nm2])).run Tryd.prog w' = .ok (.bool eq) w' := fun w' => by rw [heq]; exact op_eql k a b nm k2 a2 b2 nm2 w'
      have hsame : decide (bytesOf k a b nm = bytesOf k2 a2 b2 nm2) = eq := by
        rw [heq, Bool.eq_iff_iff, decide_eq_true_iff, decide_eq_true_iff]
        exact ⟨HINJ.out HR1.out HR2.out, fun ⟨h1, h2, h3, h4⟩ => by rw [h1, h2, h3, h4]⟩
      have htxt : ((mk8 (txtOf k a b nm)).toList == (mk8 (txtOf k2 a2 b2 nm2)).toList) = eq := by
        rw [mk8_toList, mk8_toList, heq, Bool.eq_iff_iff, beq_iff_eq, decide_eq_true_iff]
        exact ⟨txt_inj HR1.out HR2.out, fun ⟨h1, h2, h3, h4⟩ => by rw [h1, h2, h3, h4]⟩
      have HSAME := Lib.hid hsame
      have HTXT := Lib.hid htxt
      have h0 : Below W.heap.size W w5.drew := bdr HW5.out
      have HH0 := Lib.hid h0
      have hee : (eq == eq) = true := by simp
      clear hsame htxt heq HINJ HR1 HR2 h0
      refine region_anyZ (z := 18) (S := fun w' => (w'.cell? ⟨n1, 0, none⟩ = some (.int .u8 k) ∧ w'.cell? ⟨n1, 1, none⟩ = some (.int .u64 a) ∧ w'.cell? ⟨n1, 2, none⟩ = some (.int .u64 b) ∧ w'.cell? ⟨n1, 3, none⟩ = some (.string nm)) ∧ (w'.cell? ⟨n2, 0, none⟩ = some (.int .u8 k2) ∧ w'.cell? ⟨n2, 1, none⟩ = some (.int .u64 a2) ∧ w'.cell? ⟨n2, 2, none⟩ = some (.int .u64 b2) ∧ w'.cell? ⟨n2, 3, none⟩ = some (.string nm2))) (by kernel_rfl) ?_
      refine anyZ_begin (fun hcl0 => ?_)
      refine anyZ_held (by exact HCS.out _ HH0.out) (fun hHeld => ?_)
      -- 0: Op.load 36 (Operand.tmp 2)
      refine' anyZ_take (i := 0) (v := _) rfl (by rfl) (by kernel_rfl) (by kernel_rfl) (by kernel_rfl) hcl0 16 (by kernel_rfl) (by kernel_rfl) (fun _ _ _ h => h) (Or.inl ⟨by rfl, fun w hSw => ?h1⟩) hHeld (fun hcl1 => ?r1)
      case h1 => (simp only [List.getElem_toArray, List.getElem_cons_zero]; obtain ⟨⟨hS1, hS2, hS3, hS4⟩, hS5, hS6, hS7, hS8⟩ := hSw; first | (go_simp; with_reducible rfl) | (go_simp; done) | rfl)
      simp only [List.getElem_toArray, List.getElem_cons_zero, Act.put, List.setIfInBounds_toArray, List.set_cons_zero, List.set_cons_succ]
      -- 1: Op.load 36 (Operand.tmp 3)
      refine' anyZ_take (i := 1) (v := _) rfl (by rfl) (by kernel_rfl) (by kernel_rfl) (by kernel_rfl) hcl1 16 (by kernel_rfl) (by kernel_rfl) (fun _ _ _ h => h) (Or.inl ⟨by rfl, fun w hSw => ?h2⟩) hHeld (fun hcl2 => ?r2)
      case h2 => (simp only [List.getElem_toArray, List.getElem_cons_succ, List.getElem_cons_zero]; obtain ⟨⟨hS1, hS2, hS3, hS4⟩, hS5, hS6, hS7, hS8⟩ := hSw; first | (go_simp; with_reducible rfl) | (go_simp; done) | rfl)
      simp only [List.getElem_toArray, List.getElem_cons_succ, List.getElem_cons_zero, Act.put, List.setIfInBounds_toArray, List.set_cons_zero, List.set_cons_succ]
      -- 2: Op.binOp BinOp.eql 36 (Operand.tmp 17) (Operand.tmp 18) 36
      refine' anyZ_pure (i := 2) (v := _) rfl (by rfl) (by kernel_rfl) (by kernel_rfl) (by kernel_rfl) hcl2 (fun _ _ _ h => h) (Or.inl ⟨by rfl, fun w _ => ?h3⟩) (fun _ => hHeld) (fun hcl3 => ?r3)
      case h3 => (simp only [List.getElem_toArray, List.getElem_cons_succ, List.getElem_cons_zero]; first | (go_simp; with_reducible rfl) | (go_simp; done) | rfl)
      simp only [List.getElem_toArray, List.getElem_cons_succ, List.getElem_cons_zero, Act.put, List.setIfInBounds_toArray, List.set_cons_zero, List.set_cons_succ]
      -- 3: Op.load 36 (Operand.tmp 2)
      refine' anyZ_take (i := 3) (v := _) rfl (by rfl) (by kernel_rfl) (by kernel_rfl) (by kernel_rfl) hcl3 16 (by kernel_rfl) (by kernel_rfl) (fun _ _ _ h => h) (Or.inl ⟨by rfl, fun w hSw => ?h4⟩) hHeld (fun hcl4 => ?r4)
      case h4 => (simp only [List.getElem_toArray, List.getElem_cons_succ, List.getElem_cons_zero]; obtain ⟨⟨hS1, hS2, hS3, hS4⟩, hS5, hS6, hS7, hS8⟩ := hSw; first | (go_simp; with_reducible rfl) | (go_simp; done) | rfl)
      simp only [List.getElem_toArray, List.getElem_cons_succ, List.getElem_cons_zero, Act.put, List.setIfInBounds_toArray, List.set_cons_zero, List.set_cons_succ]
      -- 5: Op.load 36 (Operand.tmp 3)
      refine' anyZ_take (i := 5) (v := _) rfl (by rfl) (by kernel_rfl) (by kernel_rfl) (by kernel_rfl) hcl4 16 (by kernel_rfl) (by kernel_rfl) (fun _ _ _ h => h) (Or.inl ⟨by rfl, fun w hSw => ?h5⟩) hHeld (fun hcl5 => ?r5)
      case h5 => (simp only [List.getElem_toArray, List.getElem_cons_succ, List.getElem_cons_zero]; obtain ⟨⟨hS1, hS2, hS3, hS4⟩, hS5, hS6, hS7, hS8⟩ := hSw; first | (go_simp; with_reducible rfl) | (go_simp; done) | rfl)
      simp only [List.getElem_toArray, List.getElem_cons_succ, List.getElem_cons_zero, Act.put, List.setIfInBounds_toArray, List.set_cons_zero, List.set_cons_succ]
      -- 4: Op.call { callee := Callee.value (Operand.func 14), args := 
      refine anyZ_oneG (i := 4) hcl5 (by kernel_rfl) (by simp only [List.getElem?_toArray, List.getElem?_cons_succ, List.getElem?_cons_zero]; rfl) (by rfl) (fun hcl6 K hK => ?_)
      go_simp
      refine (HBY.out _ (HT.out.below HH0.out)).mono ?_
      rintro e wa ⟨va, rfl, hoa, hba⟩
      have HA := Lib.hid (btr HH0.out hba)
      have HOA := Lib.hid hoa
      clear hba hoa
      refine hK _ _ (fun _ => ?_) ?_
      · exact HCS.out _ HA.out
      clear hK K hHeld
      have hHeld := (HCS.out _ HA.out)
      try simp only [Act.put, List.setIfInBounds_toArray, List.set_cons_zero, List.set_cons_succ]
      -- 6: Op.call { callee := Callee.value (Operand.func 14), args := 
      refine anyZ_oneG (i := 6) hcl6 (by kernel_rfl) (by simp only [List.getElem?_toArray, List.getElem?_cons_succ, List.getElem?_cons_zero]; rfl) (by rfl) (fun hcl7 K hK => ?_)
      go_simp
      refine (HBY2.out _ (HT.out.below HA.out)).mono ?_
      rintro e wb ⟨vb, rfl, hob, hbb⟩
      have HB := Lib.hid (btr HA.out hbb)
      have HOB := Lib.hid hob
      have HOA2 := Lib.hid (HOA.out.bytes.below hbb)
      clear hbb hob
      refine hK _ _ (fun _ => ?_) ?_
      · exact HCS.out _ HB.out
      clear hK K hHeld
      have hHeld := (HCS.out _ HB.out)
      try simp only [Act.put, List.setIfInBounds_toArray, List.set_cons_zero, List.set_cons_succ]
      -- 7: Op.call { callee := Callee.value (Operand.func 13), args := 
      refine anyZ_oneG (i := 7) hcl7 (by kernel_rfl) (by simp only [List.getElem?_toArray, List.getElem?_cons_succ, List.getElem?_cons_zero]; rfl) (by rfl) (fun hcl8 K hK => ?_)
      go_simp
      refine (same_any va vb _ _ wb HOA2.out HOB.out.bytes).mono ?_
      rintro e wc ⟨rfl, qn, rfl⟩
      rw [HSAME.out]
      have HC := Lib.hid (bdn HB.out qn)
      refine hK _ _ (fun _ => ?_) ?_
      · exact HCS.out _ HC.out
      clear hK K hHeld
      have hHeld := (HCS.out _ HC.out)
      try simp only [Act.put, List.setIfInBounds_toArray, List.set_cons_zero, List.set_cons_succ]
      -- 8: Op.binOp BinOp.eql 4 (Operand.tmp 19) (Operand.tmp 24) 4
      refine' anyZ_pure (i := 8) (v := _) rfl (by rfl) (by kernel_rfl) (by kernel_rfl) (by kernel_rfl) hcl8 (fun _ _ _ h => h) (Or.inl ⟨by rfl, fun w _ => ?h9⟩) (fun _ => hHeld) (fun hcl9 => ?r9)
      case h9 => (simp only [List.getElem_toArray, List.getElem_cons_succ, List.getElem_cons_zero]; first | (go_simp; with_reducible rfl) | (go_simp; done) | rfl)
      simp only [List.getElem_toArray, List.getElem_cons_succ, List.getElem_cons_zero, Act.put, List.setIfInBounds_toArray, List.set_cons_zero, List.set_cons_succ]
      -- 9: Op.move (Operand.tmp 25)
      refine' anyZ_pure (i := 9) (v := _) rfl (by rfl) (by kernel_rfl) (by kernel_rfl) (by kernel_rfl) hcl9 (fun _ _ _ h => h) (Or.inl ⟨by rfl, fun w _ => ?h10⟩) (fun _ => hHeld) (fun hcl10 => ?r10)
      case h10 => (simp only [List.getElem_toArray, List.getElem_cons_succ, List.getElem_cons_zero]; first | (go_simp; with_reducible rfl) | (go_simp; done) | rfl)
      simp only [List.getElem_toArray, List.getElem_cons_succ, List.getElem_cons_zero, Act.put, List.setIfInBounds_toArray, List.set_cons_zero, List.set_cons_succ]
      -- 10: Op.load 36 (Operand.tmp 2)
      refine' anyZ_take (i := 10) (v := _) rfl (by rfl) (by kernel_rfl) (by kernel_rfl) (by kernel_rfl) hcl10 16 (by kernel_rfl) (by kernel_rfl) (fun _ _ _ h => h) (Or.inl ⟨by rfl, fun w hSw => ?h11⟩) hHeld (fun hcl11 => ?r11)
      case h11 => (simp only [List.getElem_toArray, List.getElem_cons_succ, List.getElem_cons_zero]; obtain ⟨⟨hS1, hS2, hS3, hS4⟩, hS5, hS6, hS7, hS8⟩ := hSw; first | (go_simp; with_reducible rfl) | (go_simp; done) | rfl)
      simp only [List.getElem_toArray, List.getElem_cons_succ, List.getElem_cons_zero, Act.put, List.setIfInBounds_toArray, List.set_cons_zero, List.set_cons_succ]
      -- 11: Op.load 36 (Operand.tmp 3)
      refine' anyZ_take (i := 11) (v := _) rfl (by rfl) (by kernel_rfl) (by kernel_rfl) (by kernel_rfl) hcl11 16 (by kernel_rfl) (by kernel_rfl) (fun _ _ _ h => h) (Or.inl ⟨by rfl, fun w hSw => ?h12⟩) hHeld (fun hcl12 => ?r12)
      case h12 => (simp only [List.getElem_toArray, List.getElem_cons_succ, List.getElem_cons_zero]; obtain ⟨⟨hS1, hS2, hS3, hS4⟩, hS5, hS6, hS7, hS8⟩ := hSw; first | (go_simp; with_reducible rfl) | (go_simp; done) | rfl)
      simp only [List.getElem_toArray, List.getElem_cons_succ, List.getElem_cons_zero, Act.put, List.setIfInBounds_toArray, List.set_cons_zero, List.set_cons_succ]
      -- 12: Op.binOp BinOp.eql 36 (Operand.tmp 27) (Operand.tmp 28) 36
      refine' anyZ_pure (i := 12) (v := _) rfl (by rfl) (by kernel_rfl) (by kernel_rfl) (by kernel_rfl) hcl12 (fun _ _ _ h => h) (Or.inl ⟨by rfl, fun w _ => ?h13⟩) (fun _ => hHeld) (fun hcl13 => ?r13)
      case h13 => (simp only [List.getElem_toArray, List.getElem_cons_succ, List.getElem_cons_zero]; first | (go_simp; with_reducible rfl) | (go_simp; done) | rfl)
      simp only [List.getElem_toArray, List.getElem_cons_succ, List.getElem_cons_zero, Act.put, List.setIfInBounds_toArray, List.set_cons_zero, List.set_cons_succ]
      -- 13: Op.load 36 (Operand.tmp 2)
      refine' anyZ_take (i := 13) (v := _) rfl (by rfl) (by kernel_rfl) (by kernel_rfl) (by kernel_rfl) hcl13 16 (by kernel_rfl) (by kernel_rfl) (fun _ _ _ h => h) (Or.inl ⟨by rfl, fun w hSw => ?h14⟩) hHeld (fun hcl14 => ?r14)
      case h14 => (simp only [List.getElem_toArray, List.getElem_cons_succ, List.getElem_cons_zero]; obtain ⟨⟨hS1, hS2, hS3, hS4⟩, hS5, hS6, hS7, hS8⟩ := hSw; first | (go_simp; with_reducible rfl) | (go_simp; done) | rfl)
      simp only [List.getElem_toArray, List.getElem_cons_succ, List.getElem_cons_zero, Act.put, List.setIfInBounds_toArray, List.set_cons_zero, List.set_cons_succ]
      -- 15: Op.load 36 (Operand.tmp 3)
      refine' anyZ_take (i := 15) (v := _) rfl (by rfl) (by kernel_rfl) (by kernel_rfl) (by kernel_rfl) hcl14 16 (by kernel_rfl) (by kernel_rfl) (fun _ _ _ h => h) (Or.inl ⟨by rfl, fun w hSw => ?h15⟩) hHeld (fun hcl15 => ?r15)
      case h15 => (simp only [List.getElem_toArray, List.getElem_cons_succ, List.getElem_cons_zero]; obtain ⟨⟨hS1, hS2, hS3, hS4⟩, hS5, hS6, hS7, hS8⟩ := hSw; first | (go_simp; with_reducible rfl) | (go_simp; done) | rfl)
      simp only [List.getElem_toArray, List.getElem_cons_succ, List.getElem_cons_zero, Act.put, List.setIfInBounds_toArray, List.set_cons_zero, List.set_cons_succ]
      -- 14: Op.call { callee := Callee.value (Operand.func 15), args := 
      refine anyZ_oneG (i := 14) hcl15 (by kernel_rfl) (by simp only [List.getElem?_toArray, List.getElem?_cons_succ, List.getElem?_cons_zero]; rfl) (by rfl) (fun hcl16 K hK => ?_)
      go_simp
      refine (HTX.out _ (HT.out.below HC.out)).mono ?_
      rintro e wd ⟨rfl, hbd⟩
      rw [strV_mk]
      have HD := Lib.hid (btr HC.out hbd)
      clear hbd
      refine hK _ _ (fun _ => ?_) ?_
      · exact HCS.out _ HD.out
      clear hK K hHeld
      have hHeld := (HCS.out _ HD.out)
      try simp only [Act.put, List.setIfInBounds_toArray, List.set_cons_zero, List.set_cons_succ]
      -- 16: Op.call { callee := Callee.value (Operand.func 15), args := 
      refine anyZ_oneG (i := 16) hcl16 (by kernel_rfl) (by simp only [List.getElem?_toArray, List.getElem?_cons_succ, List.getElem?_cons_zero]; rfl) (by rfl) (fun hcl17 K hK => ?_)
      go_simp
      refine (HTX2.out _ (HT.out.below HD.out)).mono ?_
      rintro e we ⟨rfl, hbe⟩
      rw [strV_mk]
      have HE := Lib.hid (btr HD.out hbe)
      clear hbe
      have htxt := HTXT.out
      refine hK _ _ (fun _ => ?_) ?_
      · exact HCS.out _ HE.out
      clear hK K hHeld
      have hHeld := (HCS.out _ HE.out)
      try simp only [Act.put, List.setIfInBounds_toArray, List.set_cons_zero, List.set_cons_succ]
      -- 17: Op.binOp BinOp.eql 9 (Operand.tmp 31) (Operand.tmp 33) 9
      refine' anyZ_pure (i := 17) (v := _) rfl (by rfl) (by kernel_rfl) (by kernel_rfl) (by kernel_rfl) hcl17 (fun _ _ _ h => h) (Or.inl ⟨by rfl, fun w _ => ?h18⟩) (fun _ => hHeld) (fun hcl18 => ?r18)
      case h18 => (simp only [List.getElem_toArray, List.getElem_cons_succ, List.getElem_cons_zero]; first | (go_simp; with_reducible rfl) | (go_simp; done) | rfl)
      simp only [List.getElem_toArray, List.getElem_cons_succ, List.getElem_cons_zero, Act.put, List.setIfInBounds_toArray, List.set_cons_zero, List.set_cons_succ]
      clear hHeld
      refine anyZ_chain_at (by kernel_rfl) ?_
      simp only [List.drop_succ_cons, List.drop_zero]
      go_wp2_with fail
      go_ret
      exact ⟨rfl, btr HB1.out HE.out⟩
end Go.Proofs.YtminfdlhbecnhaaDoor
