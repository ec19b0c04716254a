/- Walk: xorshift, nextPowerOfTwo, breakPatternsOrdered: a permutation. -/
import Derived.Test.YtnbncjebmlicgaaPreC
import Derived.Laws.Bits64
import Derived.Laws.Bits64b
namespace Go.Proofs.Ytnbncjebmlicgaa
open Go.RowKit Go.Sort

theorem len_any (x : Nat) (w : World) (hx : x < 4294967296) :
    Calls Try.prog 77 #[.int .u64 x] w fun e w' => e = .returned (.int .i64 (Lib.bitLen x)) ∧ w' = w := by
  go_enter Try.func77, Try.ntmps77
  go_wp2_with fail
  refine (len64_any x w hx).mono ?_
  rintro e w' ⟨rfl, rfl⟩
  go_wp2_with fail
  go_ret
  exact ⟨rfl, rfl⟩
theorem len_bound (x : Nat) (h0 : 0 < x) (hx : x < 4294967296) : 2 ^ Lib.bitLen x ≤ 2 * x ∧ Lib.bitLen x ≤ 32 := by
  have h1 : Lib.bitLen x ≤ Nat.log2 x + 1 := Lib.bitLen_le x _ (by
    have := (Nat.log2_lt (by omega)).2 (show x < 2 ^ 32 by omega)
    omega) Nat.lt_log2_self
  have h2 : 2 ^ Nat.log2 x ≤ x := Nat.log2_self_le (by omega)
  refine ⟨?_, Lib.bitLen_le x 32 (by omega) (by omega)⟩
  calc 2 ^ Lib.bitLen x ≤ 2 ^ (Nat.log2 x + 1) := Nat.pow_le_pow_right (by decide) h1
    _ = 2 * 2 ^ Nat.log2 x := by rw [Nat.pow_succ]; omega
    _ ≤ 2 * x := by omega
set_option linter.unusedSimpArgs false in
set_option maxRecDepth 20000 in
set_option maxHeartbeats 6400000 in
theorem nextpow_any (x : Nat) (w : World) (h0 : 0 < x) (hx : x < 2000000000) :
    Calls Try.prog 90 #[.int .i64 x] w fun e w' => ∃ M : Nat, e = .returned (.int .u64 M) ∧ w' = w ∧ 1 ≤ M ∧ M ≤ 2 * x := by
  obtain ⟨k, hk⟩ : ∃ k, k = Lib.bitLen x := ⟨_, rfl⟩
  have hb := len_bound x h0 (by omega)
  rw [← hk] at hb
  obtain ⟨M, hM⟩ : ∃ M, M = 2 ^ k := ⟨_, rfl⟩
  have hM1 : 1 ≤ M := by rw [hM]; exact Nat.two_pow_pos _
  rw [← hM] at hb
  have hp : IntKind.u64.wrap ((2 : Int) ^ k) = (M : Int) := by
    rw [IntKind.wrap_u64, show ((2 : Int) ^ k) = (M : Int) by rw [hM]; push_cast; rfl]
    omega
  have hu : IntKind.u64.wrap (x : Int) = (x : Int) := by rw [IntKind.wrap_u64]; omega
  have HK := Lib.hid hk
  clear hk hM
  have hk32 := hb.2
  go_enter Try.func90, Try.ntmps90
  go_wp2_with fail
  refine (len_any x w (by omega)).mono ?_
  rintro e w' ⟨rfl, rfl⟩
  rw [← HK.out]
  go_wp2_with fail
  go_ret
  exact ⟨M, rfl, rfl, hM1, hb.1⟩
set_option linter.unusedSimpArgs false in
set_option maxRecDepth 20000 in
set_option maxHeartbeats 6400000 in
theorem next_any (q X : Nat) (hX : X < 18446744073709551616) (w : World) (hc : w.cell? ⟨q, 0, none⟩ = some (.int .u64 X)) (hf : w.frozen? ⟨q, 0, none⟩ = false) :
    Calls Try.prog 91 #[.pointer (some ⟨q, 0, none⟩)] w fun e w' => ∃ R : Nat, R < 18446744073709551616 ∧ e = .returned (.int .u64 R) ∧ w'.cell? ⟨q, 0, none⟩ = some (.int .u64 R) ∧ w'.frozen? ⟨q, 0, none⟩ = false ∧ Only w w' (fun k => k = q) := by
  obtain ⟨A, hA⟩ : ∃ A : Nat, A = X ^^^ (X * 8192 % 18446744073709551616) := ⟨_, rfl⟩
  obtain ⟨C, hC⟩ : ∃ C : Nat, C = A ^^^ (A / 128) := ⟨_, rfl⟩
  obtain ⟨R, hR⟩ : ∃ R : Nat, R = C ^^^ (C * 131072 % 18446744073709551616) := ⟨_, rfl⟩
  have lA : A < 18446744073709551616 := by rw [hA]; exact Nat.xor_lt_two_pow (n := 64) (by omega) (by omega)
  have lC : C < 18446744073709551616 := by rw [hC]; exact Nat.xor_lt_two_pow (n := 64) (by omega) (by omega)
  have lR : R < 18446744073709551616 := by rw [hR]; exact Nat.xor_lt_two_pow (n := 64) (by omega) (by omega)
  have e1 : bits .xor .u64 (X : Int) (IntKind.u64.wrap ((X : Int) * 8192)) = (A : Int) := by
    rw [IntKind.wrap_u64, show ((X : Int) * 8192 % 18446744073709551616) = ((X * 8192 % 18446744073709551616 : Nat) : Int) by omega, bits_xor_u64_nat _ _ hX (by omega), hA]
  have e2 : bits .xor .u64 (A : Int) ((A : Int) / 128) = (C : Int) := by
    rw [show ((A : Int) / 128) = ((A / 128 : Nat) : Int) by omega, bits_xor_u64_nat _ _ lA (by omega), hC]
  have e3 : bits .xor .u64 (C : Int) (IntKind.u64.wrap ((C : Int) * 131072)) = (R : Int) := by
    rw [IntKind.wrap_u64, show ((C : Int) * 131072 % 18446744073709551616) = ((C * 131072 % 18446744073709551616 : Nat) : Int) by omega, bits_xor_u64_nat _ _ lC (by omega), hR]
  have HO := Lib.hid (Only.refl w (fun k => k = q))
  clear hA hC hR
  go_enter Try.func91, Try.ntmps91
  have hn1 := set_cell_same w q _ (.int .u64 (A : Nat)) hc
  have hz1 : (w.setCell ⟨q, 0, none⟩ (.int .u64 (A : Nat))).frozen? ⟨q, 0, none⟩ = false := by have := hf; have := hc; go_simp
  have HO1 := Lib.hid ((HO.out.trans (Only.setCell w ⟨q, 0, none⟩ (.int .u64 (A : Nat))) fun _ _ h => h).drew)
  have HN1 := Lib.hid hn1
  have HZ1 := Lib.hid hz1
  clear hn1 hz1
  go_upto_region 1 with fail
  have hdv1 : w.drew.cell? ⟨q, 0, none⟩ = some (.int .u64 X) := hc
  refine region_anyZ (z := 8) (S := fun w' => w'.cell? ⟨q, 0, none⟩ = some (.int .u64 X)) (by kernel_rfl) ?_
  refine anyZ_begin (fun hcl0 => ?_)
  refine anyZ_held (by exact hdv1) (fun hHeld => ?_)
  -- 0: Op.move (Operand.tmp 0)
  refine' anyZ_pure (i := 0) (v := _) rfl (by rfl) (by kernel_rfl) (by kernel_rfl) (by kernel_rfl) hcl0 (fun _ _ _ h => h) (Or.inl ⟨by rfl, fun w _ => ?hv11⟩) (fun _ => hHeld) (fun hcl1 => ?rv11)
  case hv11 => (simp only [List.getElem_toArray, List.getElem_cons_zero]; first | (go_simp; with_reducible rfl) | (go_simp; done) | rfl)
  simp only [List.getElem_toArray, List.getElem_cons_zero, Act.put, List.setIfInBounds_toArray, List.set_cons_zero, List.set_cons_succ]
  -- 1: Op.nilCheck (Operand.tmp 3)
  refine' anyZ_pure (i := 1) (v := _) rfl (by rfl) (by kernel_rfl) (by kernel_rfl) (by kernel_rfl) hcl1 (fun _ _ _ h => h) (Or.inl ⟨by rfl, fun w _ => ?hv12⟩) (fun _ => hHeld) (fun hcl2 => ?rv12)
  case hv12 => (simp only [List.getElem_toArray, List.getElem_cons_succ, List.getElem_cons_zero]; first | (go_simp; with_reducible rfl) | (go_simp; done) | rfl)
  simp only [List.getElem_toArray, List.getElem_cons_succ, List.getElem_cons_zero, Act.put, List.setIfInBounds_toArray, List.set_cons_zero, List.set_cons_succ]
  -- 2: Op.load 133 (Operand.tmp 4)
  refine' anyZ_take (i := 2) (v := _) rfl (by rfl) (by kernel_rfl) (by kernel_rfl) (by kernel_rfl) hcl2 10 (by kernel_rfl) (by kernel_rfl) (fun _ _ _ h => h) (Or.inl ⟨by rfl, fun w hSw => ?hv13⟩) hHeld (fun hcl3 => ?rv13)
  case hv13 => (simp only [List.getElem_toArray, List.getElem_cons_succ, List.getElem_cons_zero]; have hS1 := hSw; first | (go_simp; with_reducible rfl) | (go_simp; done) | rfl)
  simp only [List.getElem_toArray, List.getElem_cons_succ, List.getElem_cons_zero, Act.put, List.setIfInBounds_toArray, List.set_cons_zero, List.set_cons_succ]
  -- 3: Op.move (Operand.tmp 0)
  refine' anyZ_pure (i := 3) (v := _) rfl (by rfl) (by kernel_rfl) (by kernel_rfl) (by kernel_rfl) hcl3 (fun _ _ _ h => h) (Or.inl ⟨by rfl, fun w _ => ?hv14⟩) (fun _ => hHeld) (fun hcl4 => ?rv14)
  case hv14 => (simp only [List.getElem_toArray, List.getElem_cons_succ, List.getElem_cons_zero]; first | (go_simp; with_reducible rfl) | (go_simp; done) | rfl)
  simp only [List.getElem_toArray, List.getElem_cons_succ, List.getElem_cons_zero, Act.put, List.setIfInBounds_toArray, List.set_cons_zero, List.set_cons_succ]
  -- 4: Op.nilCheck (Operand.tmp 6)
  refine' anyZ_pure (i := 4) (v := _) rfl (by rfl) (by kernel_rfl) (by kernel_rfl) (by kernel_rfl) hcl4 (fun _ _ _ h => h) (Or.inl ⟨by rfl, fun w _ => ?hv15⟩) (fun _ => hHeld) (fun hcl5 => ?rv15)
  case hv15 => (simp only [List.getElem_toArray, List.getElem_cons_succ, List.getElem_cons_zero]; first | (go_simp; with_reducible rfl) | (go_simp; done) | rfl)
  simp only [List.getElem_toArray, List.getElem_cons_succ, List.getElem_cons_zero, Act.put, List.setIfInBounds_toArray, List.set_cons_zero, List.set_cons_succ]
  -- 5: Op.load 133 (Operand.tmp 7)
  refine' anyZ_take (i := 5) (v := _) rfl (by rfl) (by kernel_rfl) (by kernel_rfl) (by kernel_rfl) hcl5 10 (by kernel_rfl) (by kernel_rfl) (fun _ _ _ h => h) (Or.inl ⟨by rfl, fun w hSw => ?hv16⟩) hHeld (fun hcl6 => ?rv16)
  case hv16 => (simp only [List.getElem_toArray, List.getElem_cons_succ, List.getElem_cons_zero]; have hS1 := hSw; first | (go_simp; with_reducible rfl) | (go_simp; done) | rfl)
  simp only [List.getElem_toArray, List.getElem_cons_succ, List.getElem_cons_zero, Act.put, List.setIfInBounds_toArray, List.set_cons_zero, List.set_cons_succ]
  -- 6: Op.binOp BinOp.shl 133 (Operand.tmp 8) (Operand.const (Value
  refine' anyZ_pure (i := 6) (v := _) rfl (by rfl) (by kernel_rfl) (by kernel_rfl) (by kernel_rfl) hcl6 (fun _ _ _ h => h) (Or.inl ⟨by rfl, fun w _ => ?hv17⟩) (fun _ => hHeld) (fun hcl7 => ?rv17)
  case hv17 => (simp only [List.getElem_toArray, List.getElem_cons_succ, List.getElem_cons_zero]; first | (go_simp; with_reducible rfl) | (go_simp; done) | rfl)
  simp only [List.getElem_toArray, List.getElem_cons_succ, List.getElem_cons_zero, Act.put, List.setIfInBounds_toArray, List.set_cons_zero, List.set_cons_succ]
  -- 7: Op.binOp BinOp.xor 133 (Operand.tmp 5) (Operand.tmp 9) 133
  refine' anyZ_pure (i := 7) (v := _) rfl (by rfl) (by kernel_rfl) (by kernel_rfl) (by kernel_rfl) hcl7 (fun _ _ _ h => h) (Or.inl ⟨by rfl, fun w _ => ?hv18⟩) (fun _ => hHeld) (fun hcl8 => ?rv18)
  case hv18 => (simp only [List.getElem_toArray, List.getElem_cons_succ, List.getElem_cons_zero]; first | (go_simp; with_reducible rfl) | (go_simp; done) | rfl)
  simp only [List.getElem_toArray, List.getElem_cons_succ, List.getElem_cons_zero, Act.put, List.setIfInBounds_toArray, List.set_cons_zero, List.set_cons_succ]
  clear hHeld
  refine anyZ_chain_at (by kernel_rfl) ?_
  simp only [List.drop_succ_cons, List.drop_zero]
  go_upto_region 2 with fail
  have hc1 : (w.setCell ⟨q, 0, none⟩ (.int .u64 (A : Nat))).drew.cell? ⟨q, 0, none⟩ = some (.int .u64 (A : Nat)) := HN1.out
  have hf1 : (w.setCell ⟨q, 0, none⟩ (.int .u64 (A : Nat))).drew.frozen? ⟨q, 0, none⟩ = false := HZ1.out
  clear HN1 HZ1 hdv1 hc hf
  generalize (w.setCell ⟨q, 0, none⟩ (.int .u64 (A : Nat))).drew = W1 at *
  have hn2 := set_cell_same W1 q _ (.int .u64 (C : Nat)) hc1
  have hz2 : (W1.setCell ⟨q, 0, none⟩ (.int .u64 (C : Nat))).frozen? ⟨q, 0, none⟩ = false := by have := hf1; have := hc1; go_simp
  have HO2 := Lib.hid ((HO1.out.trans (Only.setCell W1 ⟨q, 0, none⟩ (.int .u64 (C : Nat))) fun _ _ h => h).drew)
  have HN2 := Lib.hid hn2
  have HZ2 := Lib.hid hz2
  clear hn2 hz2
  go_upto_region 2 with fail
  have hdv2 : W1.drew.cell? ⟨q, 0, none⟩ = some (.int .u64 A) := hc1
  refine region_anyZ (z := 8) (S := fun w' => w'.cell? ⟨q, 0, none⟩ = some (.int .u64 A)) (by kernel_rfl) ?_
  refine anyZ_begin (fun hcl0 => ?_)
  refine anyZ_held (by exact hdv2) (fun hHeld => ?_)
  -- 0: Op.move (Operand.tmp 0)
  refine' anyZ_pure (i := 0) (v := _) rfl (by rfl) (by kernel_rfl) (by kernel_rfl) (by kernel_rfl) hcl0 (fun _ _ _ h => h) (Or.inl ⟨by rfl, fun w _ => ?hv21⟩) (fun _ => hHeld) (fun hcl1 => ?rv21)
  case hv21 => (simp only [List.getElem_toArray, List.getElem_cons_zero]; first | (go_simp; with_reducible rfl) | (go_simp; done) | rfl)
  simp only [List.getElem_toArray, List.getElem_cons_zero, Act.put, List.setIfInBounds_toArray, List.set_cons_zero, List.set_cons_succ]
  -- 1: Op.nilCheck (Operand.tmp 12)
  refine' anyZ_pure (i := 1) (v := _) rfl (by rfl) (by kernel_rfl) (by kernel_rfl) (by kernel_rfl) hcl1 (fun _ _ _ h => h) (Or.inl ⟨by rfl, fun w _ => ?hv22⟩) (fun _ => hHeld) (fun hcl2 => ?rv22)
  case hv22 => (simp only [List.getElem_toArray, List.getElem_cons_succ, List.getElem_cons_zero]; first | (go_simp; with_reducible rfl) | (go_simp; done) | rfl)
  simp only [List.getElem_toArray, List.getElem_cons_succ, List.getElem_cons_zero, Act.put, List.setIfInBounds_toArray, List.set_cons_zero, List.set_cons_succ]
  -- 2: Op.load 133 (Operand.tmp 13)
  refine' anyZ_take (i := 2) (v := _) rfl (by rfl) (by kernel_rfl) (by kernel_rfl) (by kernel_rfl) hcl2 10 (by kernel_rfl) (by kernel_rfl) (fun _ _ _ h => h) (Or.inl ⟨by rfl, fun w hSw => ?hv23⟩) hHeld (fun hcl3 => ?rv23)
  case hv23 => (simp only [List.getElem_toArray, List.getElem_cons_succ, List.getElem_cons_zero]; have hS1 := hSw; first | (go_simp; with_reducible rfl) | (go_simp; done) | rfl)
  simp only [List.getElem_toArray, List.getElem_cons_succ, List.getElem_cons_zero, Act.put, List.setIfInBounds_toArray, List.set_cons_zero, List.set_cons_succ]
  -- 3: Op.move (Operand.tmp 0)
  refine' anyZ_pure (i := 3) (v := _) rfl (by rfl) (by kernel_rfl) (by kernel_rfl) (by kernel_rfl) hcl3 (fun _ _ _ h => h) (Or.inl ⟨by rfl, fun w _ => ?hv24⟩) (fun _ => hHeld) (fun hcl4 => ?rv24)
  case hv24 => (simp only [List.getElem_toArray, List.getElem_cons_succ, List.getElem_cons_zero]; first | (go_simp; with_reducible rfl) | (go_simp; done) | rfl)
  simp only [List.getElem_toArray, List.getElem_cons_succ, List.getElem_cons_zero, Act.put, List.setIfInBounds_toArray, List.set_cons_zero, List.set_cons_succ]
  -- 4: Op.nilCheck (Operand.tmp 15)
  refine' anyZ_pure (i := 4) (v := _) rfl (by rfl) (by kernel_rfl) (by kernel_rfl) (by kernel_rfl) hcl4 (fun _ _ _ h => h) (Or.inl ⟨by rfl, fun w _ => ?hv25⟩) (fun _ => hHeld) (fun hcl5 => ?rv25)
  case hv25 => (simp only [List.getElem_toArray, List.getElem_cons_succ, List.getElem_cons_zero]; first | (go_simp; with_reducible rfl) | (go_simp; done) | rfl)
  simp only [List.getElem_toArray, List.getElem_cons_succ, List.getElem_cons_zero, Act.put, List.setIfInBounds_toArray, List.set_cons_zero, List.set_cons_succ]
  -- 5: Op.load 133 (Operand.tmp 16)
  refine' anyZ_take (i := 5) (v := _) rfl (by rfl) (by kernel_rfl) (by kernel_rfl) (by kernel_rfl) hcl5 10 (by kernel_rfl) (by kernel_rfl) (fun _ _ _ h => h) (Or.inl ⟨by rfl, fun w hSw => ?hv26⟩) hHeld (fun hcl6 => ?rv26)
  case hv26 => (simp only [List.getElem_toArray, List.getElem_cons_succ, List.getElem_cons_zero]; have hS1 := hSw; first | (go_simp; with_reducible rfl) | (go_simp; done) | rfl)
  simp only [List.getElem_toArray, List.getElem_cons_succ, List.getElem_cons_zero, Act.put, List.setIfInBounds_toArray, List.set_cons_zero, List.set_cons_succ]
  -- 6: Op.binOp BinOp.shr 133 (Operand.tmp 17) (Operand.const (Valu
  refine' anyZ_pure (i := 6) (v := _) rfl (by rfl) (by kernel_rfl) (by kernel_rfl) (by kernel_rfl) hcl6 (fun _ _ _ h => h) (Or.inl ⟨by rfl, fun w _ => ?hv27⟩) (fun _ => hHeld) (fun hcl7 => ?rv27)
  case hv27 => (simp only [List.getElem_toArray, List.getElem_cons_succ, List.getElem_cons_zero]; first | (go_simp; with_reducible rfl) | (go_simp; done) | rfl)
  simp only [List.getElem_toArray, List.getElem_cons_succ, List.getElem_cons_zero, Act.put, List.setIfInBounds_toArray, List.set_cons_zero, List.set_cons_succ]
  -- 7: Op.binOp BinOp.xor 133 (Operand.tmp 14) (Operand.tmp 18) 133
  refine' anyZ_pure (i := 7) (v := _) rfl (by rfl) (by kernel_rfl) (by kernel_rfl) (by kernel_rfl) hcl7 (fun _ _ _ h => h) (Or.inl ⟨by rfl, fun w _ => ?hv28⟩) (fun _ => hHeld) (fun hcl8 => ?rv28)
  case hv28 => (simp only [List.getElem_toArray, List.getElem_cons_succ, List.getElem_cons_zero]; first | (go_simp; with_reducible rfl) | (go_simp; done) | rfl)
  simp only [List.getElem_toArray, List.getElem_cons_succ, List.getElem_cons_zero, Act.put, List.setIfInBounds_toArray, List.set_cons_zero, List.set_cons_succ]
  clear hHeld
  refine anyZ_chain_at (by kernel_rfl) ?_
  simp only [List.drop_succ_cons, List.drop_zero]
  go_upto_region 3 with fail
  have hc2 : (W1.setCell ⟨q, 0, none⟩ (.int .u64 (C : Nat))).drew.cell? ⟨q, 0, none⟩ = some (.int .u64 (C : Nat)) := HN2.out
  have hf2 : (W1.setCell ⟨q, 0, none⟩ (.int .u64 (C : Nat))).drew.frozen? ⟨q, 0, none⟩ = false := HZ2.out
  clear HN2 HZ2 hdv2 hc1 hf1
  generalize (W1.setCell ⟨q, 0, none⟩ (.int .u64 (C : Nat))).drew = W2 at *
  have hn3 := set_cell_same W2 q _ (.int .u64 (R : Nat)) hc2
  have hz3 : (W2.setCell ⟨q, 0, none⟩ (.int .u64 (R : Nat))).frozen? ⟨q, 0, none⟩ = false := by have := hf2; have := hc2; go_simp
  have HO3 := Lib.hid ((HO2.out.trans (Only.setCell W2 ⟨q, 0, none⟩ (.int .u64 (R : Nat))) fun _ _ h => h).drew)
  have HN3 := Lib.hid hn3
  have HZ3 := Lib.hid hz3
  clear hn3 hz3
  go_upto_region 3 with fail
  have hdv3 : W2.drew.cell? ⟨q, 0, none⟩ = some (.int .u64 C) := hc2
  refine region_anyZ (z := 8) (S := fun w' => w'.cell? ⟨q, 0, none⟩ = some (.int .u64 C)) (by kernel_rfl) ?_
  refine anyZ_begin (fun hcl0 => ?_)
  refine anyZ_held (by exact hdv3) (fun hHeld => ?_)
  -- 0: Op.move (Operand.tmp 0)
  refine' anyZ_pure (i := 0) (v := _) rfl (by rfl) (by kernel_rfl) (by kernel_rfl) (by kernel_rfl) hcl0 (fun _ _ _ h => h) (Or.inl ⟨by rfl, fun w _ => ?hv31⟩) (fun _ => hHeld) (fun hcl1 => ?rv31)
  case hv31 => (simp only [List.getElem_toArray, List.getElem_cons_zero]; first | (go_simp; with_reducible rfl) | (go_simp; done) | rfl)
  simp only [List.getElem_toArray, List.getElem_cons_zero, Act.put, List.setIfInBounds_toArray, List.set_cons_zero, List.set_cons_succ]
  -- 1: Op.nilCheck (Operand.tmp 21)
  refine' anyZ_pure (i := 1) (v := _) rfl (by rfl) (by kernel_rfl) (by kernel_rfl) (by kernel_rfl) hcl1 (fun _ _ _ h => h) (Or.inl ⟨by rfl, fun w _ => ?hv32⟩) (fun _ => hHeld) (fun hcl2 => ?rv32)
  case hv32 => (simp only [List.getElem_toArray, List.getElem_cons_succ, List.getElem_cons_zero]; first | (go_simp; with_reducible rfl) | (go_simp; done) | rfl)
  simp only [List.getElem_toArray, List.getElem_cons_succ, List.getElem_cons_zero, Act.put, List.setIfInBounds_toArray, List.set_cons_zero, List.set_cons_succ]
  -- 2: Op.load 133 (Operand.tmp 22)
  refine' anyZ_take (i := 2) (v := _) rfl (by rfl) (by kernel_rfl) (by kernel_rfl) (by kernel_rfl) hcl2 10 (by kernel_rfl) (by kernel_rfl) (fun _ _ _ h => h) (Or.inl ⟨by rfl, fun w hSw => ?hv33⟩) hHeld (fun hcl3 => ?rv33)
  case hv33 => (simp only [List.getElem_toArray, List.getElem_cons_succ, List.getElem_cons_zero]; have hS1 := hSw; first | (go_simp; with_reducible rfl) | (go_simp; done) | rfl)
  simp only [List.getElem_toArray, List.getElem_cons_succ, List.getElem_cons_zero, Act.put, List.setIfInBounds_toArray, List.set_cons_zero, List.set_cons_succ]
  -- 3: Op.move (Operand.tmp 0)
  refine' anyZ_pure (i := 3) (v := _) rfl (by rfl) (by kernel_rfl) (by kernel_rfl) (by kernel_rfl) hcl3 (fun _ _ _ h => h) (Or.inl ⟨by rfl, fun w _ => ?hv34⟩) (fun _ => hHeld) (fun hcl4 => ?rv34)
  case hv34 => (simp only [List.getElem_toArray, List.getElem_cons_succ, List.getElem_cons_zero]; first | (go_simp; with_reducible rfl) | (go_simp; done) | rfl)
  simp only [List.getElem_toArray, List.getElem_cons_succ, List.getElem_cons_zero, Act.put, List.setIfInBounds_toArray, List.set_cons_zero, List.set_cons_succ]
  -- 4: Op.nilCheck (Operand.tmp 24)
  refine' anyZ_pure (i := 4) (v := _) rfl (by rfl) (by kernel_rfl) (by kernel_rfl) (by kernel_rfl) hcl4 (fun _ _ _ h => h) (Or.inl ⟨by rfl, fun w _ => ?hv35⟩) (fun _ => hHeld) (fun hcl5 => ?rv35)
  case hv35 => (simp only [List.getElem_toArray, List.getElem_cons_succ, List.getElem_cons_zero]; first | (go_simp; with_reducible rfl) | (go_simp; done) | rfl)
  simp only [List.getElem_toArray, List.getElem_cons_succ, List.getElem_cons_zero, Act.put, List.setIfInBounds_toArray, List.set_cons_zero, List.set_cons_succ]
  -- 5: Op.load 133 (Operand.tmp 25)
  refine' anyZ_take (i := 5) (v := _) rfl (by rfl) (by kernel_rfl) (by kernel_rfl) (by kernel_rfl) hcl5 10 (by kernel_rfl) (by kernel_rfl) (fun _ _ _ h => h) (Or.inl ⟨by rfl, fun w hSw => ?hv36⟩) hHeld (fun hcl6 => ?rv36)
  case hv36 => (simp only [List.getElem_toArray, List.getElem_cons_succ, List.getElem_cons_zero]; have hS1 := hSw; first | (go_simp; with_reducible rfl) | (go_simp; done) | rfl)
  simp only [List.getElem_toArray, List.getElem_cons_succ, List.getElem_cons_zero, Act.put, List.setIfInBounds_toArray, List.set_cons_zero, List.set_cons_succ]
  -- 6: Op.binOp BinOp.shl 133 (Operand.tmp 26) (Operand.const (Valu
  refine' anyZ_pure (i := 6) (v := _) rfl (by rfl) (by kernel_rfl) (by kernel_rfl) (by kernel_rfl) hcl6 (fun _ _ _ h => h) (Or.inl ⟨by rfl, fun w _ => ?hv37⟩) (fun _ => hHeld) (fun hcl7 => ?rv37)
  case hv37 => (simp only [List.getElem_toArray, List.getElem_cons_succ, List.getElem_cons_zero]; first | (go_simp; with_reducible rfl) | (go_simp; done) | rfl)
  simp only [List.getElem_toArray, List.getElem_cons_succ, List.getElem_cons_zero, Act.put, List.setIfInBounds_toArray, List.set_cons_zero, List.set_cons_succ]
  -- 7: Op.binOp BinOp.xor 133 (Operand.tmp 23) (Operand.tmp 27) 133
  refine' anyZ_pure (i := 7) (v := _) rfl (by rfl) (by kernel_rfl) (by kernel_rfl) (by kernel_rfl) hcl7 (fun _ _ _ h => h) (Or.inl ⟨by rfl, fun w _ => ?hv38⟩) (fun _ => hHeld) (fun hcl8 => ?rv38)
  case hv38 => (simp only [List.getElem_toArray, List.getElem_cons_succ, List.getElem_cons_zero]; first | (go_simp; with_reducible rfl) | (go_simp; done) | rfl)
  simp only [List.getElem_toArray, List.getElem_cons_succ, List.getElem_cons_zero, Act.put, List.setIfInBounds_toArray, List.set_cons_zero, List.set_cons_succ]
  clear hHeld
  refine anyZ_chain_at (by kernel_rfl) ?_
  simp only [List.drop_succ_cons, List.drop_zero]
  go_upto_region 4 with fail
  have hc3 : (W2.setCell ⟨q, 0, none⟩ (.int .u64 (R : Nat))).drew.cell? ⟨q, 0, none⟩ = some (.int .u64 (R : Nat)) := HN3.out
  have hf3 : (W2.setCell ⟨q, 0, none⟩ (.int .u64 (R : Nat))).drew.frozen? ⟨q, 0, none⟩ = false := HZ3.out
  clear HN3 HZ3 hdv3 hc2 hf2
  generalize (W2.setCell ⟨q, 0, none⟩ (.int .u64 (R : Nat))).drew = W3 at *
  go_wp2_with fail
  go_ret
  exact ⟨R, lR, rfl, hc3, hf3, HO3.out⟩
set_option linter.unusedSimpArgs false in
set_option maxRecDepth 20000 in
set_option maxHeartbeats 6400000 in
theorem break_any (B g n c a b : Nat) (d : Array Nat) (w : World) (h : SRow B w g n c d) (hab : a + 8 ≤ b) (hbn : b ≤ n) (hn : n ≤ 1000000000) :
    Calls Try.prog 80 #[.slice (some ⟨g, 0, none⟩) n c, .int .i64 a, .int .i64 b] w fun e w' => e = .returned (.tuple #[]) ∧ ∃ d', PermIn a b d d' ∧ SRow B w' g n c d' ∧ Only w w' (fun q => q = g) := by
  obtain ⟨l, hl⟩ : ∃ l, l = b - a := ⟨_, rfl⟩
  have hli : (b : Int) - (a : Int) = (l : Int) := by omega
  obtain ⟨q4, hq4⟩ : ∃ q, q = l / 4 := ⟨_, rfl⟩
  have hqi : (l : Int).tdiv 4 = (q4 : Int) := by
    rw [Int.tdiv_eq_ediv_of_nonneg (by omega)]
    omega
  obtain ⟨m2, hm2⟩ : ∃ q, q = q4 * 2 := ⟨_, rfl⟩
  have m2i : (q4 : Int) * 2 = (m2 : Int) := by omega
  obtain ⟨am, ham⟩ : ∃ q, q = a + m2 := ⟨_, rfl⟩
  have ami : (a : Int) + (m2 : Int) = (am : Int) := by omega
  obtain ⟨lo, hlo⟩ : ∃ q, q = am - 1 := ⟨_, rfl⟩
  have loi : (am : Int) - 1 = (lo : Int) := by omega
  obtain ⟨hi, hhi⟩ : ∃ q, q = am + 1 := ⟨_, rfl⟩
  have hii : (am : Int) + 1 = (hi : Int) := by omega
  have r1 : a ≤ lo := by omega
  have r2 : hi < b := by omega
  have r3 : lo ≤ hi := by omega
  have r4 : a + l ≤ n := by omega
  have r5 : a + l = b := by omega
  have h8 : decide ((8 : Int) ≤ (l : Int)) = true := decide_eq_true (by omega)
  have h8n : decide (8 ≤ l) = true := decide_eq_true (by omega)
  have hl0 : 0 < l := by omega
  have w1 : IntKind.i64.wrap (l : Int) = (l : Int) := by rw [IntKind.wrap_i64]; omega
  have w2 : IntKind.u64.wrap (l : Int) = (l : Int) := by rw [IntKind.wrap_u64]; omega
  have w3 : IntKind.i64.wrap (q4 : Int) = (q4 : Int) := by rw [IntKind.wrap_i64]; omega
  have w4 : IntKind.i64.wrap (m2 : Int) = (m2 : Int) := by rw [IntKind.wrap_i64]; omega
  have w5 : IntKind.i64.wrap (am : Int) = (am : Int) := by rw [IntKind.wrap_i64]; omega
  have w6 : IntKind.i64.wrap (lo : Int) = (lo : Int) := by rw [IntKind.wrap_i64]; omega
  have w7 : IntKind.i64.wrap (hi : Int) = (hi : Int) := by rw [IntKind.wrap_i64]; omega
  obtain ⟨q, hq⟩ : ∃ q, q = w.heap.size := ⟨_, rfl⟩
  have HSZ : Hid (d.size = n) := Lib.hid h.size.1
  have hqg : q ≠ g := by have := h.1.len_le; omega
  have hb0 : Below w.heap.size w (w.alloc (.cells #[.int .u64 l] 133)) := bal (bre w) _
  have hcc : (w.alloc (.cells #[.int .u64 l] 133)).cell? ⟨w.heap.size, 0, none⟩ = some (.int .u64 l) := by go_simp
  have hff : (w.alloc (.cells #[.int .u64 l] 133)).frozen? ⟨w.heap.size, 0, none⟩ = false := by go_simp
  have HR0 := Lib.hid (h.keep (Only.of_below hb0 (fun _ => False)) id)
  have HO0 := Lib.hid (Only.of_below hb0 (fun q => q = g))
  have HCC := Lib.hid hcc
  have HFF := Lib.hid hff
  have HQ := Lib.hid hq
  have HQG := Lib.hid hqg
  clear hcc hff hq hqg h hb0 hl hq4 hm2 ham hlo hhi
  go_enter Try.func80, Try.ntmps80
  go_upto_region 3 with fail
  generalize w.alloc (.cells #[.int .u64 l] 133) = W0 at *
  rw [← HQ.out]
  rw [← HQ.out] at HCC HFF
  go_wp2_with fail
  refine (nextpow_any l W0 hl0 (by omega)).mono ?_
  rintro e w' ⟨M, rfl, rfl, hM1, hM2⟩
  obtain ⟨M1, hMM⟩ : ∃ M1, M1 = M - 1 := ⟨_, rfl⟩
  have hMi : (M : Int) - 1 = (M1 : Int) := by omega
  have hMu : IntKind.u64.wrap (M1 : Int) = (M1 : Int) := by rw [IntKind.wrap_u64]; omega
  have hM3 : M1 < 2 * l := by omega
  clear hMM
  go_wp2_with fail
  go_loopw [9, 10] (fun i _ wr => ∃ (k X : Nat) (d' : Array Nat), lo ≤ k ∧ k ≤ hi + 1 ∧ X < 18446744073709551616 ∧ i = .int .i64 k ∧ Hid (PermIn a b d d' ∧ SRow B wr g n c d' ∧ wr.cell? ⟨q, 0, none⟩ = some (.int .u64 X) ∧ wr.frozen? ⟨q, 0, none⟩ = false ∧ Only w wr (fun q => q = g))) (fun i _ _ => hi + 2 - (intOf i).toNat)
  case atStart => exact ⟨lo, l, d, by omega, by omega, by omega, by first | rfl | (congr 1; omega), Lib.hid ⟨permIn_refl d a b, HR0.out, HCC.out, HFF.out, HO0.out⟩⟩
  case round =>
    clear HR0 HO0 HCC HFF
    obtain ⟨k, X, d', hk1, hk2, hX, rfl, hin⟩ := hrel
    have HP := Lib.hid hin.out.1
    have HROW := Lib.hid hin.out.2.1
    have HCC := Lib.hid hin.out.2.2.1
    have HFF := Lib.hid hin.out.2.2.2.1
    have HON := Lib.hid hin.out.2.2.2.2
    clear hin
    by_cases hle : k ≤ hi
    · have d1 : decide ((k : Int) ≤ (hi : Int)) = true := decide_eq_true (by omega)
      have d1n : decide (k ≤ hi) = true := decide_eq_true hle
      go_wp2_with fail
      refine (next_any q X hX wr HCC.out HFF.out).mono ?_
      rintro e w5 ⟨R, hR, rfl, hc5, hf5, ho5⟩
      have HROW5 := Lib.hid (HROW.out.keep ho5 (fun e => HQG.out e.symm))
      have HON5 : Hid (Only w w5 (fun q => q = g)) := Lib.hid (HON.out.trans ho5 fun i hi e => absurd (show i = q from e) (by have := HQ.out; omega))
      have HC5 := Lib.hid hc5
      have HF5 := Lib.hid hf5
      obtain ⟨o, ho⟩ : ∃ o, o = R &&& M1 := ⟨_, rfl⟩
      have hand : bits .and .u64 (R : Int) (M1 : Int) = (o : Int) := by rw [bits_and_u64_nat R M1 hR (by omega), ho]
      have hol : o ≤ M1 := by rw [ho]; exact Nat.and_le_right
      have ow : IntKind.i64.wrap (o : Int) = (o : Int) := by rw [IntKind.wrap_i64]; omega
      clear ho hc5 hf5 ho5 HROW HON HCC HFF
      go_upto_if 43 with fail
      go_cut [10] from 41 to 46 (fun t w' => ∃ o2 : Nat, t = .int .i64 (o2 : Nat) ∧ o2 < l ∧ w' = w5)
      case first =>
        by_cases hol2 : l ≤ o
        · have d2 : decide ((l : Int) ≤ (o : Int)) = true := decide_eq_true (by omega)
          have d2n : decide (l ≤ o) = true := decide_eq_true hol2
          go_wp2_with fail
          go_meet
          case rel => exact ⟨o - l, by congr 1; first | omega | (rw [IntKind.wrap_i64]; omega), by omega, rfl⟩
        · have d2 : decide ((l : Int) ≤ (o : Int)) = false := decide_eq_false (by omega)
          have d2n : decide (l ≤ o) = false := decide_eq_false hol2
          go_wp2_with fail
          go_meet
          case rel => exact ⟨o, rfl, by omega, rfl⟩
      case rest =>
      rename World => w6
      obtain ⟨o2, rfl, ho2, hw6⟩ := hcut
      have hw6' := hw6.symm
      subst hw6'
      clear hand hol ow
      obtain ⟨p, hp⟩ : ∃ p, p = a + o2 := ⟨_, rfl⟩
      have hpi : (a : Int) + (o2 : Int) = (p : Int) := by omega
      have hpb : p < b := by omega
      have hpa : a ≤ p := by omega
      clear hp
      by_cases hkp : k = p
      · subst hkp
        have ka : (0 : Int) ≤ (k : Int) := by omega
        have kb : (k : Int) < (n : Int) := by omega
        have kc : k < n := by omega
        have ke : IntKind.i64.wrap (k : Int) = (k : Int) := by rw [IntKind.wrap_i64]; omega
        obtain ⟨hk1, hf1⟩ := HROW5.out.get (i := k) (by omega)
        obtain ⟨hk0, hf0⟩ := HROW5.out.get (i := k) (by omega)
        have HROW6 := Lib.hid (HROW5.out.swp (i := k) (j := k) (by omega) (by omega))
        have HON6 := Lib.hid (one_only HON5.out (swp_only w5 g k k (.int .u64 d'[k]!) (.int .u64 d'[k]!)))
        obtain ⟨sx, hsx⟩ : ∃ x, x = d'[k]! := ⟨_, rfl⟩
        rw [← hsx] at hk1 hk0 HROW6 HON6
        clear hsx HROW5 HON5
        go_upto_region 10 with fail
        have hd1s : w5.drew.cell? ⟨g, k, none⟩ = some (.int .u64 sx) := hk1
        have hd0s : w5.drew.cell? ⟨g, k, none⟩ = some (.int .u64 sx) := hk0
        refine region_anyZ (z := 16) (S := fun w' => w'.cell? ⟨g, k, none⟩ = some (.int .u64 sx) ∧ w'.cell? ⟨g, k, none⟩ = some (.int .u64 sx)) (by kernel_rfl) ?_
        refine anyZ_begin (fun hcl0 => ?_)
        refine anyZ_held (by exact ⟨hd1s, hd0s⟩) (fun hHeld => ?_)
        -- 0: Op.move (Operand.tmp 0)
        refine' anyZ_pure (i := 0) (v := _) rfl (by rfl) (by kernel_rfl) (by kernel_rfl) (by kernel_rfl) hcl0 (fun _ _ _ h => h) (Or.inl ⟨by rfl, fun w _ => ?hs1⟩) (fun _ => hHeld) (fun hcl1 => ?rs1)
        case hs1 => (simp only [List.getElem_toArray, List.getElem_cons_zero]; first | (go_simp; with_reducible rfl) | (go_simp; done) | rfl)
        simp only [List.getElem_toArray, List.getElem_cons_zero, Act.put, List.setIfInBounds_toArray, List.set_cons_zero, List.set_cons_succ]
        -- 1: Op.move (Operand.tmp 9)
        refine' anyZ_pure (i := 1) (v := _) rfl (by rfl) (by kernel_rfl) (by kernel_rfl) (by kernel_rfl) hcl1 (fun _ _ _ h => h) (Or.inl ⟨by rfl, fun w _ => ?hs2⟩) (fun _ => hHeld) (fun hcl2 => ?rs2)
        case hs2 => (simp only [List.getElem_toArray, List.getElem_cons_succ, List.getElem_cons_zero]; first | (go_simp; with_reducible rfl) | (go_simp; done) | rfl)
        simp only [List.getElem_toArray, List.getElem_cons_succ, List.getElem_cons_zero, Act.put, List.setIfInBounds_toArray, List.set_cons_zero, List.set_cons_succ]
        -- 2: Op.move (Operand.tmp 0)
        refine' anyZ_pure (i := 2) (v := _) rfl (by rfl) (by kernel_rfl) (by kernel_rfl) (by kernel_rfl) hcl2 (fun _ _ _ h => h) (Or.inl ⟨by rfl, fun w _ => ?hs3⟩) (fun _ => hHeld) (fun hcl3 => ?rs3)
        case hs3 => (simp only [List.getElem_toArray, List.getElem_cons_succ, List.getElem_cons_zero]; first | (go_simp; with_reducible rfl) | (go_simp; done) | rfl)
        simp only [List.getElem_toArray, List.getElem_cons_succ, List.getElem_cons_zero, Act.put, List.setIfInBounds_toArray, List.set_cons_zero, List.set_cons_succ]
        -- 3: Op.move (Operand.tmp 1)
        refine' anyZ_pure (i := 3) (v := _) rfl (by rfl) (by kernel_rfl) (by kernel_rfl) (by kernel_rfl) hcl3 (fun _ _ _ h => h) (Or.inl ⟨by rfl, fun w _ => ?hs4⟩) (fun _ => hHeld) (fun hcl4 => ?rs4)
        case hs4 => (simp only [List.getElem_toArray, List.getElem_cons_succ, List.getElem_cons_zero]; first | (go_simp; with_reducible rfl) | (go_simp; done) | rfl)
        simp only [List.getElem_toArray, List.getElem_cons_succ, List.getElem_cons_zero, Act.put, List.setIfInBounds_toArray, List.set_cons_zero, List.set_cons_succ]
        -- 4: Op.move (Operand.tmp 10)
        refine' anyZ_pure (i := 4) (v := _) rfl (by rfl) (by kernel_rfl) (by kernel_rfl) (by kernel_rfl) hcl4 (fun _ _ _ h => h) (Or.inl ⟨by rfl, fun w _ => ?hs5⟩) (fun _ => hHeld) (fun hcl5 => ?rs5)
        case hs5 => (simp only [List.getElem_toArray, List.getElem_cons_succ, List.getElem_cons_zero]; first | (go_simp; with_reducible rfl) | (go_simp; done) | rfl)
        simp only [List.getElem_toArray, List.getElem_cons_succ, List.getElem_cons_zero, Act.put, List.setIfInBounds_toArray, List.set_cons_zero, List.set_cons_succ]
        -- 5: Op.binOp BinOp.add 3 (Operand.tmp 50) (Operand.tmp 51) 3
        refine' anyZ_pure (i := 5) (v := _) rfl (by rfl) (by kernel_rfl) (by kernel_rfl) (by kernel_rfl) hcl5 (fun _ _ _ h => h) (Or.inl ⟨by rfl, fun w _ => ?hs6⟩) (fun _ => hHeld) (fun hcl6 => ?rs6)
        case hs6 => (simp only [List.getElem_toArray, List.getElem_cons_succ, List.getElem_cons_zero]; first | (go_simp; with_reducible rfl) | (go_simp; done) | rfl)
        simp only [List.getElem_toArray, List.getElem_cons_succ, List.getElem_cons_zero, Act.put, List.setIfInBounds_toArray, List.set_cons_zero, List.set_cons_succ]
        -- 6: Op.move (Operand.tmp 0)
        refine' anyZ_pure (i := 6) (v := _) rfl (by rfl) (by kernel_rfl) (by kernel_rfl) (by kernel_rfl) hcl6 (fun _ _ _ h => h) (Or.inl ⟨by rfl, fun w _ => ?hs7⟩) (fun _ => hHeld) (fun hcl7 => ?rs7)
        case hs7 => (simp only [List.getElem_toArray, List.getElem_cons_succ, List.getElem_cons_zero]; first | (go_simp; with_reducible rfl) | (go_simp; done) | rfl)
        simp only [List.getElem_toArray, List.getElem_cons_succ, List.getElem_cons_zero, Act.put, List.setIfInBounds_toArray, List.set_cons_zero, List.set_cons_succ]
        -- 7: Op.move (Operand.tmp 1)
        refine' anyZ_pure (i := 7) (v := _) rfl (by rfl) (by kernel_rfl) (by kernel_rfl) (by kernel_rfl) hcl7 (fun _ _ _ h => h) (Or.inl ⟨by rfl, fun w _ => ?hs8⟩) (fun _ => hHeld) (fun hcl8 => ?rs8)
        case hs8 => (simp only [List.getElem_toArray, List.getElem_cons_succ, List.getElem_cons_zero]; first | (go_simp; with_reducible rfl) | (go_simp; done) | rfl)
        simp only [List.getElem_toArray, List.getElem_cons_succ, List.getElem_cons_zero, Act.put, List.setIfInBounds_toArray, List.set_cons_zero, List.set_cons_succ]
        -- 8: Op.move (Operand.tmp 10)
        refine' anyZ_pure (i := 8) (v := _) rfl (by rfl) (by kernel_rfl) (by kernel_rfl) (by kernel_rfl) hcl8 (fun _ _ _ h => h) (Or.inl ⟨by rfl, fun w _ => ?hs9⟩) (fun _ => hHeld) (fun hcl9 => ?rs9)
        case hs9 => (simp only [List.getElem_toArray, List.getElem_cons_succ, List.getElem_cons_zero]; first | (go_simp; with_reducible rfl) | (go_simp; done) | rfl)
        simp only [List.getElem_toArray, List.getElem_cons_succ, List.getElem_cons_zero, Act.put, List.setIfInBounds_toArray, List.set_cons_zero, List.set_cons_succ]
        -- 9: Op.binOp BinOp.add 3 (Operand.tmp 54) (Operand.tmp 55) 3
        refine' anyZ_pure (i := 9) (v := _) rfl (by rfl) (by kernel_rfl) (by kernel_rfl) (by kernel_rfl) hcl9 (fun _ _ _ h => h) (Or.inl ⟨by rfl, fun w _ => ?hs10⟩) (fun _ => hHeld) (fun hcl10 => ?rs10)
        case hs10 => (simp only [List.getElem_toArray, List.getElem_cons_succ, List.getElem_cons_zero]; first | (go_simp; with_reducible rfl) | (go_simp; done) | rfl)
        simp only [List.getElem_toArray, List.getElem_cons_succ, List.getElem_cons_zero, Act.put, List.setIfInBounds_toArray, List.set_cons_zero, List.set_cons_succ]
        -- 10: Op.indexAddr 27 (Operand.tmp 53) (Operand.tmp 56)
        refine' anyZ_pure (i := 10) (v := _) rfl (by rfl) (by kernel_rfl) (by kernel_rfl) (by kernel_rfl) hcl10 (fun _ _ _ h => h) (Or.inl ⟨by rfl, fun w _ => ?hs11⟩) (fun _ => hHeld) (fun hcl11 => ?rs11)
        case hs11 => (simp only [List.getElem_toArray, List.getElem_cons_succ, List.getElem_cons_zero]; first | (go_simp; with_reducible rfl) | (go_simp; done) | rfl)
        simp only [List.getElem_toArray, List.getElem_cons_succ, List.getElem_cons_zero, Act.put, List.setIfInBounds_toArray, List.set_cons_zero, List.set_cons_succ]
        -- 11: Op.load 26 (Operand.tmp 57)
        refine' anyZ_take (i := 11) (v := _) rfl (by rfl) (by kernel_rfl) (by kernel_rfl) (by kernel_rfl) hcl11 18 (by kernel_rfl) (by kernel_rfl) (fun _ _ _ h => h) (Or.inl ⟨by rfl, fun w hSw => ?hs12⟩) hHeld (fun hcl12 => ?rs12)
        case hs12 => (simp only [List.getElem_toArray, List.getElem_cons_succ, List.getElem_cons_zero]; obtain ⟨hS1, hS2⟩ := hSw; first | (go_simp; with_reducible rfl) | (go_simp; done) | rfl)
        simp only [List.getElem_toArray, List.getElem_cons_succ, List.getElem_cons_zero, Act.put, List.setIfInBounds_toArray, List.set_cons_zero, List.set_cons_succ]
        -- 12: Op.move (Operand.tmp 0)
        refine' anyZ_pure (i := 12) (v := _) rfl (by rfl) (by kernel_rfl) (by kernel_rfl) (by kernel_rfl) hcl12 (fun _ _ _ h => h) (Or.inl ⟨by rfl, fun w _ => ?hs13⟩) (fun _ => hHeld) (fun hcl13 => ?rs13)
        case hs13 => (simp only [List.getElem_toArray, List.getElem_cons_succ, List.getElem_cons_zero]; first | (go_simp; with_reducible rfl) | (go_simp; done) | rfl)
        simp only [List.getElem_toArray, List.getElem_cons_succ, List.getElem_cons_zero, Act.put, List.setIfInBounds_toArray, List.set_cons_zero, List.set_cons_succ]
        -- 13: Op.move (Operand.tmp 9)
        refine' anyZ_pure (i := 13) (v := _) rfl (by rfl) (by kernel_rfl) (by kernel_rfl) (by kernel_rfl) hcl13 (fun _ _ _ h => h) (Or.inl ⟨by rfl, fun w _ => ?hs14⟩) (fun _ => hHeld) (fun hcl14 => ?rs14)
        case hs14 => (simp only [List.getElem_toArray, List.getElem_cons_succ, List.getElem_cons_zero]; first | (go_simp; with_reducible rfl) | (go_simp; done) | rfl)
        simp only [List.getElem_toArray, List.getElem_cons_succ, List.getElem_cons_zero, Act.put, List.setIfInBounds_toArray, List.set_cons_zero, List.set_cons_succ]
        -- 14: Op.indexAddr 27 (Operand.tmp 59) (Operand.tmp 60)
        refine' anyZ_pure (i := 14) (v := _) rfl (by rfl) (by kernel_rfl) (by kernel_rfl) (by kernel_rfl) hcl14 (fun _ _ _ h => h) (Or.inl ⟨by rfl, fun w _ => ?hs15⟩) (fun _ => hHeld) (fun hcl15 => ?rs15)
        case hs15 => (simp only [List.getElem_toArray, List.getElem_cons_succ, List.getElem_cons_zero]; first | (go_simp; with_reducible rfl) | (go_simp; done) | rfl)
        simp only [List.getElem_toArray, List.getElem_cons_succ, List.getElem_cons_zero, Act.put, List.setIfInBounds_toArray, List.set_cons_zero, List.set_cons_succ]
        -- 15: Op.load 26 (Operand.tmp 61)
        refine' anyZ_take (i := 15) (v := _) rfl (by rfl) (by kernel_rfl) (by kernel_rfl) (by kernel_rfl) hcl15 18 (by kernel_rfl) (by kernel_rfl) (fun _ _ _ h => h) (Or.inl ⟨by rfl, fun w hSw => ?hs16⟩) hHeld (fun hcl16 => ?rs16)
        case hs16 => (simp only [List.getElem_toArray, List.getElem_cons_succ, List.getElem_cons_zero]; obtain ⟨hS1, hS2⟩ := hSw; first | (go_simp; with_reducible rfl) | (go_simp; done) | rfl)
        simp only [List.getElem_toArray, List.getElem_cons_succ, List.getElem_cons_zero, Act.put, List.setIfInBounds_toArray, List.set_cons_zero, List.set_cons_succ]
        clear hHeld
        refine anyZ_chain_at (by kernel_rfl) ?_
        simp only [List.drop_succ_cons, List.drop_zero]
        have HC6 : Hid ((((w5.setCell ⟨g, k, none⟩ (.int .u64 sx)).setCell ⟨g, k, none⟩ (.int .u64 sx)).drew).cell? ⟨q, 0, none⟩ = some (.int .u64 R)) := Lib.hid (by have h1 := HC5.out; have h2 : ¬ q = g := HQG.out; have h3 : ¬ g = q := fun e => HQG.out e.symm; go_simp)
        have HF6 : Hid ((((w5.setCell ⟨g, k, none⟩ (.int .u64 sx)).setCell ⟨g, k, none⟩ (.int .u64 sx)).drew).frozen? ⟨q, 0, none⟩ = false) := Lib.hid (by have h1 := HF5.out; have h2 : ¬ q = g := HQG.out; have h3 : ¬ g = q := fun e => HQG.out e.symm; go_simp)
        go_wp2_with fail
        go_roundw
        case rel => exact ⟨k + 1, R, _, by omega, by omega, hR, by first | rfl | go_num | (congr 1; omega), Lib.hid ⟨permIn_trans _ _ _ _ _ HP.out (swp_permIn d' a b k k (by omega) (by omega) (by omega) (by omega) (by rw [HP.out.1, HSZ.out]; omega)), HROW6.out, HC6.out, HF6.out, HON6.out.drew⟩⟩
        case measure => (simp [intOf]; try omega)
      · have hnk : ¬ k = p := hkp
        have hne : ¬ k = p := hnk
        have hne2 : ¬ p = k := by omega
        have ka : (0 : Int) ≤ (k : Int) := by omega
        have kb : (k : Int) < (n : Int) := by omega
        have kc : k < n := by omega
        have ke : IntKind.i64.wrap (k : Int) = (k : Int) := by rw [IntKind.wrap_i64]; omega
        have pa : (0 : Int) ≤ (p : Int) := by omega
        have pb : (p : Int) < (n : Int) := by omega
        have pc : p < n := by omega
        have pe : IntKind.i64.wrap (p : Int) = (p : Int) := by rw [IntKind.wrap_i64]; omega
        obtain ⟨hk1, hf1⟩ := HROW5.out.get (i := k) (by omega)
        obtain ⟨hk0, hf0⟩ := HROW5.out.get (i := p) (by omega)
        have HROW6 := Lib.hid (HROW5.out.swp (i := k) (j := p) (by omega) (by omega))
        have HON6 := Lib.hid (one_only HON5.out (swp_only w5 g k p (.int .u64 d'[p]!) (.int .u64 d'[k]!)))
        obtain ⟨vx, hvx⟩ : ∃ x, x = d'[k]! := ⟨_, rfl⟩
        rw [← hvx] at hk1 HROW6 HON6
        clear hvx
        obtain ⟨vy, hvy⟩ : ∃ x, x = d'[p]! := ⟨_, rfl⟩
        rw [← hvy] at hk0 HROW6 HON6
        clear hvy HROW5 HON5
        go_upto_region 10 with fail
        have hd1v : w5.drew.cell? ⟨g, k, none⟩ = some (.int .u64 vx) := hk1
        have hd0v : w5.drew.cell? ⟨g, p, none⟩ = some (.int .u64 vy) := hk0
        refine region_anyZ (z := 16) (S := fun w' => w'.cell? ⟨g, k, none⟩ = some (.int .u64 vx) ∧ w'.cell? ⟨g, p, none⟩ = some (.int .u64 vy)) (by kernel_rfl) ?_
        refine anyZ_begin (fun hcl0 => ?_)
        refine anyZ_held (by exact ⟨hd1v, hd0v⟩) (fun hHeld => ?_)
        -- 0: Op.move (Operand.tmp 0)
        refine' anyZ_pure (i := 0) (v := _) rfl (by rfl) (by kernel_rfl) (by kernel_rfl) (by kernel_rfl) hcl0 (fun _ _ _ h => h) (Or.inl ⟨by rfl, fun w _ => ?hv1⟩) (fun _ => hHeld) (fun hcl1 => ?rv1)
        case hv1 => (simp only [List.getElem_toArray, List.getElem_cons_zero]; first | (go_simp; with_reducible rfl) | (go_simp; done) | rfl)
        simp only [List.getElem_toArray, List.getElem_cons_zero, Act.put, List.setIfInBounds_toArray, List.set_cons_zero, List.set_cons_succ]
        -- 1: Op.move (Operand.tmp 9)
        refine' anyZ_pure (i := 1) (v := _) rfl (by rfl) (by kernel_rfl) (by kernel_rfl) (by kernel_rfl) hcl1 (fun _ _ _ h => h) (Or.inl ⟨by rfl, fun w _ => ?hv2⟩) (fun _ => hHeld) (fun hcl2 => ?rv2)
        case hv2 => (simp only [List.getElem_toArray, List.getElem_cons_succ, List.getElem_cons_zero]; first | (go_simp; with_reducible rfl) | (go_simp; done) | rfl)
        simp only [List.getElem_toArray, List.getElem_cons_succ, List.getElem_cons_zero, Act.put, List.setIfInBounds_toArray, List.set_cons_zero, List.set_cons_succ]
        -- 2: Op.move (Operand.tmp 0)
        refine' anyZ_pure (i := 2) (v := _) rfl (by rfl) (by kernel_rfl) (by kernel_rfl) (by kernel_rfl) hcl2 (fun _ _ _ h => h) (Or.inl ⟨by rfl, fun w _ => ?hv3⟩) (fun _ => hHeld) (fun hcl3 => ?rv3)
        case hv3 => (simp only [List.getElem_toArray, List.getElem_cons_succ, List.getElem_cons_zero]; first | (go_simp; with_reducible rfl) | (go_simp; done) | rfl)
        simp only [List.getElem_toArray, List.getElem_cons_succ, List.getElem_cons_zero, Act.put, List.setIfInBounds_toArray, List.set_cons_zero, List.set_cons_succ]
        -- 3: Op.move (Operand.tmp 1)
        refine' anyZ_pure (i := 3) (v := _) rfl (by rfl) (by kernel_rfl) (by kernel_rfl) (by kernel_rfl) hcl3 (fun _ _ _ h => h) (Or.inl ⟨by rfl, fun w _ => ?hv4⟩) (fun _ => hHeld) (fun hcl4 => ?rv4)
        case hv4 => (simp only [List.getElem_toArray, List.getElem_cons_succ, List.getElem_cons_zero]; first | (go_simp; with_reducible rfl) | (go_simp; done) | rfl)
        simp only [List.getElem_toArray, List.getElem_cons_succ, List.getElem_cons_zero, Act.put, List.setIfInBounds_toArray, List.set_cons_zero, List.set_cons_succ]
        -- 4: Op.move (Operand.tmp 10)
        refine' anyZ_pure (i := 4) (v := _) rfl (by rfl) (by kernel_rfl) (by kernel_rfl) (by kernel_rfl) hcl4 (fun _ _ _ h => h) (Or.inl ⟨by rfl, fun w _ => ?hv5⟩) (fun _ => hHeld) (fun hcl5 => ?rv5)
        case hv5 => (simp only [List.getElem_toArray, List.getElem_cons_succ, List.getElem_cons_zero]; first | (go_simp; with_reducible rfl) | (go_simp; done) | rfl)
        simp only [List.getElem_toArray, List.getElem_cons_succ, List.getElem_cons_zero, Act.put, List.setIfInBounds_toArray, List.set_cons_zero, List.set_cons_succ]
        -- 5: Op.binOp BinOp.add 3 (Operand.tmp 50) (Operand.tmp 51) 3
        refine' anyZ_pure (i := 5) (v := _) rfl (by rfl) (by kernel_rfl) (by kernel_rfl) (by kernel_rfl) hcl5 (fun _ _ _ h => h) (Or.inl ⟨by rfl, fun w _ => ?hv6⟩) (fun _ => hHeld) (fun hcl6 => ?rv6)
        case hv6 => (simp only [List.getElem_toArray, List.getElem_cons_succ, List.getElem_cons_zero]; first | (go_simp; with_reducible rfl) | (go_simp; done) | rfl)
        simp only [List.getElem_toArray, List.getElem_cons_succ, List.getElem_cons_zero, Act.put, List.setIfInBounds_toArray, List.set_cons_zero, List.set_cons_succ]
        -- 6: Op.move (Operand.tmp 0)
        refine' anyZ_pure (i := 6) (v := _) rfl (by rfl) (by kernel_rfl) (by kernel_rfl) (by kernel_rfl) hcl6 (fun _ _ _ h => h) (Or.inl ⟨by rfl, fun w _ => ?hv7⟩) (fun _ => hHeld) (fun hcl7 => ?rv7)
        case hv7 => (simp only [List.getElem_toArray, List.getElem_cons_succ, List.getElem_cons_zero]; first | (go_simp; with_reducible rfl) | (go_simp; done) | rfl)
        simp only [List.getElem_toArray, List.getElem_cons_succ, List.getElem_cons_zero, Act.put, List.setIfInBounds_toArray, List.set_cons_zero, List.set_cons_succ]
        -- 7: Op.move (Operand.tmp 1)
        refine' anyZ_pure (i := 7) (v := _) rfl (by rfl) (by kernel_rfl) (by kernel_rfl) (by kernel_rfl) hcl7 (fun _ _ _ h => h) (Or.inl ⟨by rfl, fun w _ => ?hv8⟩) (fun _ => hHeld) (fun hcl8 => ?rv8)
        case hv8 => (simp only [List.getElem_toArray, List.getElem_cons_succ, List.getElem_cons_zero]; first | (go_simp; with_reducible rfl) | (go_simp; done) | rfl)
        simp only [List.getElem_toArray, List.getElem_cons_succ, List.getElem_cons_zero, Act.put, List.setIfInBounds_toArray, List.set_cons_zero, List.set_cons_succ]
        -- 8: Op.move (Operand.tmp 10)
        refine' anyZ_pure (i := 8) (v := _) rfl (by rfl) (by kernel_rfl) (by kernel_rfl) (by kernel_rfl) hcl8 (fun _ _ _ h => h) (Or.inl ⟨by rfl, fun w _ => ?hv9⟩) (fun _ => hHeld) (fun hcl9 => ?rv9)
        case hv9 => (simp only [List.getElem_toArray, List.getElem_cons_succ, List.getElem_cons_zero]; first | (go_simp; with_reducible rfl) | (go_simp; done) | rfl)
        simp only [List.getElem_toArray, List.getElem_cons_succ, List.getElem_cons_zero, Act.put, List.setIfInBounds_toArray, List.set_cons_zero, List.set_cons_succ]
        -- 9: Op.binOp BinOp.add 3 (Operand.tmp 54) (Operand.tmp 55) 3
        refine' anyZ_pure (i := 9) (v := _) rfl (by rfl) (by kernel_rfl) (by kernel_rfl) (by kernel_rfl) hcl9 (fun _ _ _ h => h) (Or.inl ⟨by rfl, fun w _ => ?hv10⟩) (fun _ => hHeld) (fun hcl10 => ?rv10)
        case hv10 => (simp only [List.getElem_toArray, List.getElem_cons_succ, List.getElem_cons_zero]; first | (go_simp; with_reducible rfl) | (go_simp; done) | rfl)
        simp only [List.getElem_toArray, List.getElem_cons_succ, List.getElem_cons_zero, Act.put, List.setIfInBounds_toArray, List.set_cons_zero, List.set_cons_succ]
        -- 10: Op.indexAddr 27 (Operand.tmp 53) (Operand.tmp 56)
        refine' anyZ_pure (i := 10) (v := _) rfl (by rfl) (by kernel_rfl) (by kernel_rfl) (by kernel_rfl) hcl10 (fun _ _ _ h => h) (Or.inl ⟨by rfl, fun w _ => ?hv11⟩) (fun _ => hHeld) (fun hcl11 => ?rv11)
        case hv11 => (simp only [List.getElem_toArray, List.getElem_cons_succ, List.getElem_cons_zero]; first | (go_simp; with_reducible rfl) | (go_simp; done) | rfl)
        simp only [List.getElem_toArray, List.getElem_cons_succ, List.getElem_cons_zero, Act.put, List.setIfInBounds_toArray, List.set_cons_zero, List.set_cons_succ]
        -- 11: Op.load 26 (Operand.tmp 57)
        refine' anyZ_take (i := 11) (v := _) rfl (by rfl) (by kernel_rfl) (by kernel_rfl) (by kernel_rfl) hcl11 18 (by kernel_rfl) (by kernel_rfl) (fun _ _ _ h => h) (Or.inl ⟨by rfl, fun w hSw => ?hv12⟩) hHeld (fun hcl12 => ?rv12)
        case hv12 => (simp only [List.getElem_toArray, List.getElem_cons_succ, List.getElem_cons_zero]; obtain ⟨hS1, hS2⟩ := hSw; first | (go_simp; with_reducible rfl) | (go_simp; done) | rfl)
        simp only [List.getElem_toArray, List.getElem_cons_succ, List.getElem_cons_zero, Act.put, List.setIfInBounds_toArray, List.set_cons_zero, List.set_cons_succ]
        -- 12: Op.move (Operand.tmp 0)
        refine' anyZ_pure (i := 12) (v := _) rfl (by rfl) (by kernel_rfl) (by kernel_rfl) (by kernel_rfl) hcl12 (fun _ _ _ h => h) (Or.inl ⟨by rfl, fun w _ => ?hv13⟩) (fun _ => hHeld) (fun hcl13 => ?rv13)
        case hv13 => (simp only [List.getElem_toArray, List.getElem_cons_succ, List.getElem_cons_zero]; first | (go_simp; with_reducible rfl) | (go_simp; done) | rfl)
        simp only [List.getElem_toArray, List.getElem_cons_succ, List.getElem_cons_zero, Act.put, List.setIfInBounds_toArray, List.set_cons_zero, List.set_cons_succ]
        -- 13: Op.move (Operand.tmp 9)
        refine' anyZ_pure (i := 13) (v := _) rfl (by rfl) (by kernel_rfl) (by kernel_rfl) (by kernel_rfl) hcl13 (fun _ _ _ h => h) (Or.inl ⟨by rfl, fun w _ => ?hv14⟩) (fun _ => hHeld) (fun hcl14 => ?rv14)
        case hv14 => (simp only [List.getElem_toArray, List.getElem_cons_succ, List.getElem_cons_zero]; first | (go_simp; with_reducible rfl) | (go_simp; done) | rfl)
        simp only [List.getElem_toArray, List.getElem_cons_succ, List.getElem_cons_zero, Act.put, List.setIfInBounds_toArray, List.set_cons_zero, List.set_cons_succ]
        -- 14: Op.indexAddr 27 (Operand.tmp 59) (Operand.tmp 60)
        refine' anyZ_pure (i := 14) (v := _) rfl (by rfl) (by kernel_rfl) (by kernel_rfl) (by kernel_rfl) hcl14 (fun _ _ _ h => h) (Or.inl ⟨by rfl, fun w _ => ?hv15⟩) (fun _ => hHeld) (fun hcl15 => ?rv15)
        case hv15 => (simp only [List.getElem_toArray, List.getElem_cons_succ, List.getElem_cons_zero]; first | (go_simp; with_reducible rfl) | (go_simp; done) | rfl)
        simp only [List.getElem_toArray, List.getElem_cons_succ, List.getElem_cons_zero, Act.put, List.setIfInBounds_toArray, List.set_cons_zero, List.set_cons_succ]
        -- 15: Op.load 26 (Operand.tmp 61)
        refine' anyZ_take (i := 15) (v := _) rfl (by rfl) (by kernel_rfl) (by kernel_rfl) (by kernel_rfl) hcl15 18 (by kernel_rfl) (by kernel_rfl) (fun _ _ _ h => h) (Or.inl ⟨by rfl, fun w hSw => ?hv16⟩) hHeld (fun hcl16 => ?rv16)
        case hv16 => (simp only [List.getElem_toArray, List.getElem_cons_succ, List.getElem_cons_zero]; obtain ⟨hS1, hS2⟩ := hSw; first | (go_simp; with_reducible rfl) | (go_simp; done) | rfl)
        simp only [List.getElem_toArray, List.getElem_cons_succ, List.getElem_cons_zero, Act.put, List.setIfInBounds_toArray, List.set_cons_zero, List.set_cons_succ]
        clear hHeld
        refine anyZ_chain_at (by kernel_rfl) ?_
        simp only [List.drop_succ_cons, List.drop_zero]
        have HC6 : Hid ((((w5.setCell ⟨g, k, none⟩ (.int .u64 vy)).setCell ⟨g, p, none⟩ (.int .u64 vx)).drew).cell? ⟨q, 0, none⟩ = some (.int .u64 R)) := Lib.hid (by have h1 := HC5.out; have h2 : ¬ q = g := HQG.out; have h3 : ¬ g = q := fun e => HQG.out e.symm; go_simp)
        have HF6 : Hid ((((w5.setCell ⟨g, k, none⟩ (.int .u64 vy)).setCell ⟨g, p, none⟩ (.int .u64 vx)).drew).frozen? ⟨q, 0, none⟩ = false) := Lib.hid (by have h1 := HF5.out; have h2 : ¬ q = g := HQG.out; have h3 : ¬ g = q := fun e => HQG.out e.symm; go_simp)
        go_wp2_with fail
        go_roundw
        case rel => exact ⟨k + 1, R, _, by omega, by omega, hR, by first | rfl | go_num | (congr 1; omega), Lib.hid ⟨permIn_trans _ _ _ _ _ HP.out (swp_permIn d' a b k p (by omega) (by omega) (by omega) (by omega) (by rw [HP.out.1, HSZ.out]; omega)), HROW6.out, HC6.out, HF6.out, HON6.out.drew⟩⟩
        case measure => (simp [intOf]; try omega)
    · have d1 : decide ((k : Int) ≤ (hi : Int)) = false := decide_eq_false (by omega)
      have d1n : decide (k ≤ hi) = false := decide_eq_false hle
      go_wp2_with fail
      go_end0
      exact ⟨rfl, d', HP.out, HROW.out, HON.out⟩
end Go.Proofs.Ytnbncjebmlicgaa
