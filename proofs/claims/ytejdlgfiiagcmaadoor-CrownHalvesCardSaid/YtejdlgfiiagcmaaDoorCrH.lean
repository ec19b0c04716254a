/- CrownHalves, the walk. -/
import Derived.Test.YtejdlgfiiagcmaaDoorCrG
namespace Go.Proofs.YtejdlgfiiagcmaaDoor
open Go.RowKit

theorem half_next (c : Cr) (h : c.half < 2) : c.next.half = 1 - c.half ∧ c.next.half < 2 ∧ c.next.next.half = c.half := by
  have h1 : ∀ x : Fin 2, x.val ^^^ 1 = 1 - x.val ∧ (x.val ^^^ 1) ^^^ 1 = x.val := by decide
  have h2 := h1 ⟨c.half, h⟩
  refine ⟨h2.1, ?_, h2.2⟩
  show c.half ^^^ 1 < 2
  rw [h2.1]
  omega

set_option linter.unusedSimpArgs false in
set_option maxRecDepth 20000 in
set_option maxHeartbeats 3200000 in
theorem halves_calls (c0 : Cr) (ok0 : c0.Ok) (n : Nat) (hn : n < 65536) (w : World) :
    Calls Tryd.prog 4 #[CrVal c0, .int .u16 n] w fun e w' => e = .returned (.bool true) ∧ Below w.heap.size w w' := by
  unfold CrVal
  obtain ⟨c, hc⟩ : ∃ c : Cr, c = ⟨c0.gen, c0.half % 2, c0.serial⟩ := ⟨_, rfl⟩
  have hch : c.half < 2 := by rw [hc]; exact Nat.mod_lt _ (by decide)
  have hcok : c.Ok := by rw [hc]; exact ⟨ok0.gen, by show c0.half % 2 < 256; omega, ok0.serial⟩
  have hm : (c0.half : Int) % 2 = (c.half : Int) := by rw [hc]; show _ = ((c0.half % 2 : Nat) : Int); omega
  have hg0 : c.gen = c0.gen := by rw [hc]
  have hs0 : c.serial = c0.serial := by rw [hc]
  have HCH := Lib.hid hch
  have HCOK := Lib.hid hcok
  have HG0 := Lib.hid hg0
  have HS0 := Lib.hid hs0
  clear hc hch hcok hg0 hs0 ok0
  go_enter Tryd.func4, Tryd.ntmps4
  go_wp2_with fail
  have hb0 := bal (bre w) (.cells #[.int .u32 c0.gen, .int .u8 c0.half, .int .u32 c0.serial] 24)
  have hr0 : Row3 _ w.heap.size c0 := heap_alloc_new w (.cells #[.int .u32 c0.gen, .int .u8 c0.half, .int .u32 c0.serial] 24)
  generalize w.alloc (.cells #[.int .u32 c0.gen, .int .u8 c0.half, .int .u32 c0.serial] 24) = W at *
  obtain ⟨n2, hn2⟩ : ∃ n, n = w.heap.size := ⟨_, rfl⟩
  rw [← hn2] at hr0 ⊢
  have HN2 : Hid (w.heap.size ≤ n2) := Lib.hid (Nat.le_of_eq hn2.symm)
  have HR0 := Lib.hid hr0
  have HB0 := Lib.hid hb0
  clear hr0 hb0 hn2
  refine (awake_any W).mono ?_
  rintro e w1 ⟨rfl, hb1⟩
  have hr1 := HR0.out.below hb1
  have hb01 := HB0.out.trans (hb1.mono HB0.out.size)
  have hr2 : Row3 (w1.setCell ⟨n2, 1, none⟩ (.int .u8 c.half)) n2 c := by
    have h := heap_setCell_same w1 n2 1 _ _ (.int .u8 c.half) hr1
    unfold Row3
    rw [HG0.out, HS0.out]
    exact h
  have hb2 := hb01.setCell HN2.out (.int .u8 c.half) (p := ⟨n2, 1, none⟩)
  have z1 := hr1.c1
  have zf := hr1.fz
  have HR2 := Lib.hid hr2
  have HB2 := Lib.hid hb2
  clear hb1 hr1 hb01 hr2 hb2 HR0 HB0
  go_upto_region 4 with fail
  have hr2 := HR2.out
  have hb2 := HB2.out
  clear HR2 HB2 z1 zf
  generalize w1.setCell ⟨n2, 1, none⟩ (.int .u8 c.half) = w2 at *
  have HR2 := Lib.hid hr2
  have HB2 := Lib.hid hb2
  have e0 := hr2.c0
  have e1 := hr2.c1
  have e2 := hr2.c2
  clear hr2 hb2 hm
  have HV : Hid (CrVal c = .agg #[.int .u32 c.gen, .int .u8 c.half, .int .u32 c.serial]) := Lib.hid rfl
  go_wp2_with fail
  rw [← HV.out]
  refine (from_any c n hn (by have := HCH.out; omega) w2).mono ?_
  rintro e w3 ⟨rfl, hb3⟩
  obtain ⟨A, hA⟩ : ∃ A, A = (c.from n).1 := ⟨_, rfl⟩
  obtain ⟨k, hk⟩ : ∃ k, k = (c.from n).2 := ⟨_, rfl⟩
  rw [← hA, ← hk]
  have HA := Lib.hid hA
  have HK := Lib.hid hk
  have HR3 := Lib.hid (HR2.out.below hb3)
  have HB3 := Lib.hid (HB2.out.trans (hb3.mono HB2.out.size))
  clear hA hk hb3 e0 e1 e2 HR2 HB2
  have e0 := HR3.out.c0
  have e1 := HR3.out.c1
  have e2 := HR3.out.c2
  go_wp2_with fail
  rw [← HV.out]
  refine (next_any c HCOK.out w3).mono ?_
  rintro e w4 ⟨rfl, hb4⟩
  have HR4 := Lib.hid (HR3.out.below hb4)
  have HB4 := Lib.hid (HB3.out.trans (hb4.mono HB3.out.size))
  clear hb4 e0 e1 e2 HR3 HB3
  go_wp2_with fail
  refine (from_any c.next n hn HCOK.out.next.half w4).mono ?_
  rintro e w5 ⟨rfl, hb5⟩
  obtain ⟨B, hB⟩ : ∃ B, B = (c.next.from n).1 := ⟨_, rfl⟩
  have hl : (c.next.from n).2 = k := by
    rw [HK.out]
    unfold Cr.from
    split <;> rfl
  rw [← hB, hl]
  have HBB := Lib.hid hB
  have HR5 := Lib.hid (HR4.out.below hb5)
  have HB5 := Lib.hid (HB4.out.trans (hb5.mono HB4.out.size))
  clear hB hl hb5 HR4 HB4
  by_cases h4 : n < 4
  · have hA0 : A = 0 := by rw [HA.out]; unfold Cr.from; rw [if_pos h4]
    have hB0 : B = 0 := by rw [HBB.out]; unfold Cr.from; rw [if_pos h4]
    have hK0 : k = 0 := by rw [HK.out]; unfold Cr.from; rw [if_pos h4]
    subst hA0 hB0 hK0
    have hd : decide ((n : Int) < 4) = true := decide_eq_true (by omega)
    clear HA HBB HK
    go_wp2_with fail
    go_ret
    exact ⟨rfl, HB5.out⟩
  have hd : decide ((n : Int) < 4) = false := decide_eq_false (by omega)
  obtain ⟨hh1, hh2, hh3⟩ := half_next c HCH.out
  have hkv : k = (n - 2) / 2 := by rw [HK.out]; unfold Cr.from; rw [if_neg h4]
  have hAv : A = 2 + c.half % 2 * k := by rw [HA.out, hkv]; unfold Cr.from; rw [if_neg h4]
  have hBv : B = 2 + c.next.half % 2 * k := by rw [HBB.out, hkv]; unfold Cr.from; rw [if_neg h4]
  have hAB : (A = 2 ∧ B = 2 + k) ∨ (A = 2 + k ∧ B = 2) := by
    have := HCH.out
    rcases (by omega : c.half = 0 ∨ c.half = 1) with h0 | h0
    · left; rw [hAv, hBv, hh1, h0]; omega
    · right; rw [hAv, hBv, hh1, h0]; omega
  have hmin : min (A : Int) (B : Int) = 2 := by omega
  have hmax : max (A : Int) (B : Int) = ((2 + k : Nat) : Int) := by omega
  obtain ⟨hi, hhi⟩ : ∃ h, h = 2 + k := ⟨_, rfl⟩
  rw [← hhi] at hmax
  have hk2 : 2 * k + 2 ≤ n := by omega
  have HNK := Lib.hid hkv
  have HHI := Lib.hid hhi
  have HK2 := Lib.hid hk2
  have HH1 := Lib.hid hh1
  have HH3 := Lib.hid hh3
  have e0 := HR5.out.c0
  have e1 := HR5.out.c1
  have e2 := HR5.out.c2
  clear hAB hAv hBv hkv hh1 hh2 hh3 hhi hk2 HA HBB HK h4
  go_wp2_with fail
  rw [← HV.out]
  refine (next_any c HCOK.out w5).mono ?_
  rintro e w6 ⟨rfl, hb6⟩
  have hnok := HCOK.out.next
  obtain ⟨nx, hnx⟩ : ∃ x, x = c.next := ⟨_, rfl⟩
  rw [← hnx]
  unfold CrVal
  have HNX := Lib.hid hnx
  have HNOK := Lib.hid hnok
  have HR6 := Lib.hid (HR5.out.below hb6)
  have HB6 := Lib.hid (HB5.out.trans (hb6.mono HB5.out.size))
  clear hnx hnok hb6 e0 e1 e2 HR5 HB5
  go_upto_region 11 with fail
  have hb7 := bal (bre w6) (.cells #[.int .u32 nx.gen, .int .u8 nx.half, .int .u32 nx.serial] 24)
  have hr7 : Row3 _ w6.heap.size nx := heap_alloc_new w6 (.cells #[.int .u32 nx.gen, .int .u8 nx.half, .int .u32 nx.serial] 24)
  generalize w6.alloc (.cells #[.int .u32 nx.gen, .int .u8 nx.half, .int .u32 nx.serial] 24) = w7 at *
  obtain ⟨n12, hn12⟩ : ∃ n, n = w6.heap.size := ⟨_, rfl⟩
  rw [← hn12] at hr7 ⊢
  have HR7 := Lib.hid (HR6.out.below hb7)
  have HX7 := Lib.hid hr7
  have HB7 := Lib.hid (HB6.out.trans (hb7.mono HB6.out.size))
  clear hb7 hr7 hn12 HR6 HB6 hmin hmax hd
  have hkv := HNK.out
  have hiv := HHI.out
  have hk2 := HK2.out
  have a1 : IntKind.i64.wrap ((n : Int) - 2) = (n : Int) - 2 := by rw [IntKind.wrap_i64]; omega
  have a2 : ((n : Int) - 2).tdiv 2 = (k : Int) := by rw [Int.tdiv_eq_ediv_of_nonneg (by omega)]; omega
  have a3 : IntKind.i64.wrap (k : Int) = (k : Int) := by rw [IntKind.wrap_i64]; omega
  have a4 : IntKind.i64.wrap (2 + (k : Int)) = (hi : Int) := by rw [IntKind.wrap_i64]; omega
  obtain ⟨s, hs⟩ : ∃ s, s = hi + k := ⟨_, rfl⟩
  have a5 : IntKind.i64.wrap ((hi : Int) + (k : Int)) = (s : Int) := by rw [IntKind.wrap_i64]; omega
  have a6 : decide ((s : Int) ≤ (n : Int)) = true := decide_eq_true (by omega)
  have hsn : s ≤ n := by omega
  have a6n : decide (s ≤ n) = true := decide_eq_true hsn
  have hxh : nx.half ≠ c.half := by
    have h1 := HH1.out
    have h2 := HCH.out
    rw [HNX.out, h1]
    omega
  have a7 : ((nx.half : Int) == (c.half : Int)) = false := beq_false_of_ne (by omega)
  have a8 : decide ((nx.half : Int) = (c.half : Int)) = false := decide_eq_false (by omega)
  have a8n : decide (nx.half = c.half) = false := decide_eq_false hxh
  have a7n : (nx.half == c.half) = false := beq_false_of_ne hxh
  have a9n : (nx.half != c.half) = true := by simp [hxh]
  have a9 : ((nx.half : Int) != (c.half : Int)) = true := by simp; omega
  have b1 : IntKind.u32.wrap ((c.gen : Int) + 1) = (nx.gen : Int) := by rw [HNX.out]; exact wrap32 c.gen
  have b2 : IntKind.u32.wrap ((c.serial : Int) + 1) = (nx.serial : Int) := by rw [HNX.out]; exact wrap32 c.serial
  have hnn : nx.next.half = c.half := by rw [HNX.out]; exact HH3.out
  have hnok : nx.Ok := by rw [HNX.out]; exact HNOK.out
  obtain ⟨g2, hg2⟩ : ∃ g, g = nx.next.gen := ⟨_, rfl⟩
  obtain ⟨s2, hs2⟩ : ∃ g, g = nx.next.serial := ⟨_, rfl⟩
  have HNEXT : Hid (∀ w', Below w7.heap.size w7 w' → Calls Tryd.prog 17 #[.agg #[.int .u32 nx.gen, .int .u8 nx.half, .int .u32 nx.serial]] w' fun e w'' => e = .returned (.agg #[.int .u32 g2, .int .u8 c.half, .int .u32 s2]) ∧ Below w'.heap.size w' w'') := Lib.hid (fun w' hb => (next_any nx hnok w').mono (fun e w2 h => ⟨by rw [h.1, hg2, hs2, ← hnn]; rfl, h.2⟩))
  have HFIRST : Hid (∀ w', Calls Tryd.prog 18 #[] w' fun e w'' => e = .returned (.agg #[.int .u32 1, .int .u8 0, .int .u32 0]) ∧ Below w'.heap.size w' w'') := Lib.hid (fun w' => first_any w')
  clear hkv hiv hk2 hs hnn hnok hg2 hs2 HNK HHI HK2 HH1 HH3 HNX HNOK HCOK HCH HG0 HS0
  refine region_anyZ (z := 61) (S := fun w' => Row3 w' n2 c ∧ Row3 w' n12 nx) (by kernel_rfl) ?_
  refine anyZ_begin (fun hcl0 => ?_)
  refine anyZ_held (by exact ⟨HR7.out.below (bdr (bre w7)), HX7.out.below (bdr (bre w7))⟩) (fun hHeld => ?_)
  -- 0: Op.move (Operand.tmp 7)
  refine' anyZ_pure (i := 0) (v := _) rfl (by rfl) (by kernel_rfl) (by kernel_rfl) (by kernel_rfl) hcl0 (fun _ _ _ h => h) (Or.inl ⟨by rfl, fun w _ => ?h1⟩) (fun _ => hHeld) (fun hcl1 => ?r1)
  case h1 => (simp only [List.getElem_toArray, List.getElem_cons_zero]; first | (go_simp; with_reducible rfl) | (go_simp; done) | rfl)
  simp only [List.getElem_toArray, List.getElem_cons_zero, Act.put, List.setIfInBounds_toArray, List.set_cons_zero, List.set_cons_succ]
  -- 1: Op.move (Operand.tmp 5)
  refine' anyZ_pure (i := 1) (v := _) rfl (by rfl) (by kernel_rfl) (by kernel_rfl) (by kernel_rfl) hcl1 (fun _ _ _ h => h) (Or.inl ⟨by rfl, fun w _ => ?h2⟩) (fun _ => hHeld) (fun hcl2 => ?r2)
  case h2 => (simp only [List.getElem_toArray, List.getElem_cons_succ, List.getElem_cons_zero]; first | (go_simp; with_reducible rfl) | (go_simp; done) | rfl)
  simp only [List.getElem_toArray, List.getElem_cons_succ, List.getElem_cons_zero, Act.put, List.setIfInBounds_toArray, List.set_cons_zero, List.set_cons_succ]
  -- 2: Op.binOp BinOp.sub 3 (Operand.tmp 53) (Operand.const (Value.
  refine' anyZ_pure (i := 2) (v := _) rfl (by rfl) (by kernel_rfl) (by kernel_rfl) (by kernel_rfl) hcl2 (fun _ _ _ h => h) (Or.inl ⟨by rfl, fun w _ => ?h3⟩) (fun _ => hHeld) (fun hcl3 => ?r3)
  case h3 => (simp only [List.getElem_toArray, List.getElem_cons_succ, List.getElem_cons_zero]; first | (go_simp; with_reducible rfl) | (go_simp; done) | rfl)
  simp only [List.getElem_toArray, List.getElem_cons_succ, List.getElem_cons_zero, Act.put, List.setIfInBounds_toArray, List.set_cons_zero, List.set_cons_succ]
  -- 3: Op.binOp BinOp.quo 3 (Operand.tmp 54) (Operand.const (Value.
  refine' anyZ_pure (i := 3) (v := _) rfl (by rfl) (by kernel_rfl) (by kernel_rfl) (by kernel_rfl) hcl3 (fun _ _ _ h => h) (Or.inl ⟨by rfl, fun w _ => ?h4⟩) (fun _ => hHeld) (fun hcl4 => ?r4)
  case h4 => (simp only [List.getElem_toArray, List.getElem_cons_succ, List.getElem_cons_zero]; first | (go_simp; with_reducible rfl) | (go_simp; done) | rfl)
  simp only [List.getElem_toArray, List.getElem_cons_succ, List.getElem_cons_zero, Act.put, List.setIfInBounds_toArray, List.set_cons_zero, List.set_cons_succ]
  -- 4: Op.binOp BinOp.eql 3 (Operand.tmp 52) (Operand.tmp 55) 3
  refine' anyZ_pure (i := 4) (v := _) rfl (by rfl) (by kernel_rfl) (by kernel_rfl) (by kernel_rfl) hcl4 (fun _ _ _ h => h) (Or.inl ⟨by rfl, fun w _ => ?h5⟩) (fun _ => hHeld) (fun hcl5 => ?r5)
  case h5 => (simp only [List.getElem_toArray, List.getElem_cons_succ, List.getElem_cons_zero]; first | (go_simp; with_reducible rfl) | (go_simp; done) | rfl)
  simp only [List.getElem_toArray, List.getElem_cons_succ, List.getElem_cons_zero, Act.put, List.setIfInBounds_toArray, List.set_cons_zero, List.set_cons_succ]
  -- 5: Op.move (Operand.tmp 56)
  refine' anyZ_pure (i := 5) (v := _) rfl (by rfl) (by kernel_rfl) (by kernel_rfl) (by kernel_rfl) hcl5 (fun _ _ _ h => h) (Or.inl ⟨by rfl, fun w _ => ?h6⟩) (fun _ => hHeld) (fun hcl6 => ?r6)
  case h6 => (simp only [List.getElem_toArray, List.getElem_cons_succ, List.getElem_cons_zero]; first | (go_simp; with_reducible rfl) | (go_simp; done) | rfl)
  simp only [List.getElem_toArray, List.getElem_cons_succ, List.getElem_cons_zero, Act.put, List.setIfInBounds_toArray, List.set_cons_zero, List.set_cons_succ]
  -- 6: Op.move (Operand.tmp 9)
  refine' anyZ_pure (i := 6) (v := _) rfl (by rfl) (by kernel_rfl) (by kernel_rfl) (by kernel_rfl) hcl6 (fun _ _ _ h => h) (Or.inl ⟨by rfl, fun w _ => ?h7⟩) (fun _ => hHeld) (fun hcl7 => ?r7)
  case h7 => (simp only [List.getElem_toArray, List.getElem_cons_succ, List.getElem_cons_zero]; first | (go_simp; with_reducible rfl) | (go_simp; done) | rfl)
  simp only [List.getElem_toArray, List.getElem_cons_succ, List.getElem_cons_zero, Act.put, List.setIfInBounds_toArray, List.set_cons_zero, List.set_cons_succ]
  -- 7: Op.move (Operand.tmp 7)
  refine' anyZ_pure (i := 7) (v := _) rfl (by rfl) (by kernel_rfl) (by kernel_rfl) (by kernel_rfl) hcl7 (fun _ _ _ h => h) (Or.inl ⟨by rfl, fun w _ => ?h8⟩) (fun _ => hHeld) (fun hcl8 => ?r8)
  case h8 => (simp only [List.getElem_toArray, List.getElem_cons_succ, List.getElem_cons_zero]; first | (go_simp; with_reducible rfl) | (go_simp; done) | rfl)
  simp only [List.getElem_toArray, List.getElem_cons_succ, List.getElem_cons_zero, Act.put, List.setIfInBounds_toArray, List.set_cons_zero, List.set_cons_succ]
  -- 8: Op.binOp BinOp.eql 3 (Operand.tmp 58) (Operand.tmp 59) 3
  refine' anyZ_pure (i := 8) (v := _) rfl (by rfl) (by kernel_rfl) (by kernel_rfl) (by kernel_rfl) hcl8 (fun _ _ _ h => h) (Or.inl ⟨by rfl, fun w _ => ?h9⟩) (fun _ => hHeld) (fun hcl9 => ?r9)
  case h9 => (simp only [List.getElem_toArray, List.getElem_cons_succ, List.getElem_cons_zero]; first | (go_simp; with_reducible rfl) | (go_simp; done) | rfl)
  simp only [List.getElem_toArray, List.getElem_cons_succ, List.getElem_cons_zero, Act.put, List.setIfInBounds_toArray, List.set_cons_zero, List.set_cons_succ]
  -- 9: Op.pick (Operand.tmp 57) (Operand.tmp 60) (Operand.const (Va
  refine' anyZ_pure (i := 9) (v := _) rfl (by rfl) (by kernel_rfl) (by kernel_rfl) (by kernel_rfl) hcl9 (fun _ _ _ h => h) (Or.inl ⟨by rfl, fun w _ => ?h10⟩) (fun _ => hHeld) (fun hcl10 => ?r10)
  case h10 => (simp only [List.getElem_toArray, List.getElem_cons_succ, List.getElem_cons_zero]; first | (go_simp; with_reducible rfl) | (go_simp; done) | rfl)
  simp only [List.getElem_toArray, List.getElem_cons_succ, List.getElem_cons_zero, Act.put, List.setIfInBounds_toArray, List.set_cons_zero, List.set_cons_succ]
  -- 10: Op.move (Operand.tmp 61)
  refine' anyZ_pure (i := 10) (v := _) rfl (by rfl) (by kernel_rfl) (by kernel_rfl) (by kernel_rfl) hcl10 (fun _ _ _ h => h) (Or.inl ⟨by rfl, fun w _ => ?h11⟩) (fun _ => hHeld) (fun hcl11 => ?r11)
  case h11 => (simp only [List.getElem_toArray, List.getElem_cons_succ, List.getElem_cons_zero]; first | (go_simp; with_reducible rfl) | (go_simp; done) | rfl)
  simp only [List.getElem_toArray, List.getElem_cons_succ, List.getElem_cons_zero, Act.put, List.setIfInBounds_toArray, List.set_cons_zero, List.set_cons_succ]
  -- 11: Op.move (Operand.tmp 10)
  refine' anyZ_pure (i := 11) (v := _) rfl (by rfl) (by kernel_rfl) (by kernel_rfl) (by kernel_rfl) hcl11 (fun _ _ _ h => h) (Or.inl ⟨by rfl, fun w _ => ?h12⟩) (fun _ => hHeld) (fun hcl12 => ?r12)
  case h12 => (simp only [List.getElem_toArray, List.getElem_cons_succ, List.getElem_cons_zero]; first | (go_simp; with_reducible rfl) | (go_simp; done) | rfl)
  simp only [List.getElem_toArray, List.getElem_cons_succ, List.getElem_cons_zero, Act.put, List.setIfInBounds_toArray, List.set_cons_zero, List.set_cons_succ]
  -- 12: Op.binOp BinOp.eql 3 (Operand.tmp 63) (Operand.const (Value.
  refine' anyZ_pure (i := 12) (v := _) rfl (by rfl) (by kernel_rfl) (by kernel_rfl) (by kernel_rfl) hcl12 (fun _ _ _ h => h) (Or.inl ⟨by rfl, fun w _ => ?h13⟩) (fun _ => hHeld) (fun hcl13 => ?r13)
  case h13 => (simp only [List.getElem_toArray, List.getElem_cons_succ, List.getElem_cons_zero]; first | (go_simp; with_reducible rfl) | (go_simp; done) | rfl)
  simp only [List.getElem_toArray, List.getElem_cons_succ, List.getElem_cons_zero, Act.put, List.setIfInBounds_toArray, List.set_cons_zero, List.set_cons_succ]
  -- 13: Op.pick (Operand.tmp 62) (Operand.tmp 64) (Operand.const (Va
  refine' anyZ_pure (i := 13) (v := _) rfl (by rfl) (by kernel_rfl) (by kernel_rfl) (by kernel_rfl) hcl13 (fun _ _ _ h => h) (Or.inl ⟨by rfl, fun w _ => ?h14⟩) (fun _ => hHeld) (fun hcl14 => ?r14)
  case h14 => (simp only [List.getElem_toArray, List.getElem_cons_succ, List.getElem_cons_zero]; first | (go_simp; with_reducible rfl) | (go_simp; done) | rfl)
  simp only [List.getElem_toArray, List.getElem_cons_succ, List.getElem_cons_zero, Act.put, List.setIfInBounds_toArray, List.set_cons_zero, List.set_cons_succ]
  -- 14: Op.move (Operand.tmp 65)
  refine' anyZ_pure (i := 14) (v := _) rfl (by rfl) (by kernel_rfl) (by kernel_rfl) (by kernel_rfl) hcl14 (fun _ _ _ h => h) (Or.inl ⟨by rfl, fun w _ => ?h15⟩) (fun _ => hHeld) (fun hcl15 => ?r15)
  case h15 => (simp only [List.getElem_toArray, List.getElem_cons_succ, List.getElem_cons_zero]; first | (go_simp; with_reducible rfl) | (go_simp; done) | rfl)
  simp only [List.getElem_toArray, List.getElem_cons_succ, List.getElem_cons_zero, Act.put, List.setIfInBounds_toArray, List.set_cons_zero, List.set_cons_succ]
  -- 15: Op.move (Operand.tmp 11)
  refine' anyZ_pure (i := 15) (v := _) rfl (by rfl) (by kernel_rfl) (by kernel_rfl) (by kernel_rfl) hcl15 (fun _ _ _ h => h) (Or.inl ⟨by rfl, fun w _ => ?h16⟩) (fun _ => hHeld) (fun hcl16 => ?r16)
  case h16 => (simp only [List.getElem_toArray, List.getElem_cons_succ, List.getElem_cons_zero]; first | (go_simp; with_reducible rfl) | (go_simp; done) | rfl)
  simp only [List.getElem_toArray, List.getElem_cons_succ, List.getElem_cons_zero, Act.put, List.setIfInBounds_toArray, List.set_cons_zero, List.set_cons_succ]
  -- 16: Op.move (Operand.tmp 7)
  refine' anyZ_pure (i := 16) (v := _) rfl (by rfl) (by kernel_rfl) (by kernel_rfl) (by kernel_rfl) hcl16 (fun _ _ _ h => h) (Or.inl ⟨by rfl, fun w _ => ?h17⟩) (fun _ => hHeld) (fun hcl17 => ?r17)
  case h17 => (simp only [List.getElem_toArray, List.getElem_cons_succ, List.getElem_cons_zero]; first | (go_simp; with_reducible rfl) | (go_simp; done) | rfl)
  simp only [List.getElem_toArray, List.getElem_cons_succ, List.getElem_cons_zero, Act.put, List.setIfInBounds_toArray, List.set_cons_zero, List.set_cons_succ]
  -- 17: Op.binOp BinOp.add 3 (Operand.const (Value.int IntKind.i64 2
  refine' anyZ_pure (i := 17) (v := _) rfl (by rfl) (by kernel_rfl) (by kernel_rfl) (by kernel_rfl) hcl17 (fun _ _ _ h => h) (Or.inl ⟨by rfl, fun w _ => ?h18⟩) (fun _ => hHeld) (fun hcl18 => ?r18)
  case h18 => (simp only [List.getElem_toArray, List.getElem_cons_succ, List.getElem_cons_zero]; first | (go_simp; with_reducible rfl) | (go_simp; done) | rfl)
  simp only [List.getElem_toArray, List.getElem_cons_succ, List.getElem_cons_zero, Act.put, List.setIfInBounds_toArray, List.set_cons_zero, List.set_cons_succ]
  -- 18: Op.binOp BinOp.eql 3 (Operand.tmp 67) (Operand.tmp 69) 3
  refine' anyZ_pure (i := 18) (v := _) rfl (by rfl) (by kernel_rfl) (by kernel_rfl) (by kernel_rfl) hcl18 (fun _ _ _ h => h) (Or.inl ⟨by rfl, fun w _ => ?h19⟩) (fun _ => hHeld) (fun hcl19 => ?r19)
  case h19 => (simp only [List.getElem_toArray, List.getElem_cons_succ, List.getElem_cons_zero]; first | (go_simp; with_reducible rfl) | (go_simp; done) | rfl)
  simp only [List.getElem_toArray, List.getElem_cons_succ, List.getElem_cons_zero, Act.put, List.setIfInBounds_toArray, List.set_cons_zero, List.set_cons_succ]
  -- 19: Op.pick (Operand.tmp 66) (Operand.tmp 70) (Operand.const (Va
  refine' anyZ_pure (i := 19) (v := _) rfl (by rfl) (by kernel_rfl) (by kernel_rfl) (by kernel_rfl) hcl19 (fun _ _ _ h => h) (Or.inl ⟨by rfl, fun w _ => ?h20⟩) (fun _ => hHeld) (fun hcl20 => ?r20)
  case h20 => (simp only [List.getElem_toArray, List.getElem_cons_succ, List.getElem_cons_zero]; first | (go_simp; with_reducible rfl) | (go_simp; done) | rfl)
  simp only [List.getElem_toArray, List.getElem_cons_succ, List.getElem_cons_zero, Act.put, List.setIfInBounds_toArray, List.set_cons_zero, List.set_cons_succ]
  -- 20: Op.move (Operand.tmp 71)
  refine' anyZ_pure (i := 20) (v := _) rfl (by rfl) (by kernel_rfl) (by kernel_rfl) (by kernel_rfl) hcl20 (fun _ _ _ h => h) (Or.inl ⟨by rfl, fun w _ => ?h21⟩) (fun _ => hHeld) (fun hcl21 => ?r21)
  case h21 => (simp only [List.getElem_toArray, List.getElem_cons_succ, List.getElem_cons_zero]; first | (go_simp; with_reducible rfl) | (go_simp; done) | rfl)
  simp only [List.getElem_toArray, List.getElem_cons_succ, List.getElem_cons_zero, Act.put, List.setIfInBounds_toArray, List.set_cons_zero, List.set_cons_succ]
  -- 21: Op.move (Operand.tmp 11)
  refine' anyZ_pure (i := 21) (v := _) rfl (by rfl) (by kernel_rfl) (by kernel_rfl) (by kernel_rfl) hcl21 (fun _ _ _ h => h) (Or.inl ⟨by rfl, fun w _ => ?h22⟩) (fun _ => hHeld) (fun hcl22 => ?r22)
  case h22 => (simp only [List.getElem_toArray, List.getElem_cons_succ, List.getElem_cons_zero]; first | (go_simp; with_reducible rfl) | (go_simp; done) | rfl)
  simp only [List.getElem_toArray, List.getElem_cons_succ, List.getElem_cons_zero, Act.put, List.setIfInBounds_toArray, List.set_cons_zero, List.set_cons_succ]
  -- 22: Op.move (Operand.tmp 7)
  refine' anyZ_pure (i := 22) (v := _) rfl (by rfl) (by kernel_rfl) (by kernel_rfl) (by kernel_rfl) hcl22 (fun _ _ _ h => h) (Or.inl ⟨by rfl, fun w _ => ?h23⟩) (fun _ => hHeld) (fun hcl23 => ?r23)
  case h23 => (simp only [List.getElem_toArray, List.getElem_cons_succ, List.getElem_cons_zero]; first | (go_simp; with_reducible rfl) | (go_simp; done) | rfl)
  simp only [List.getElem_toArray, List.getElem_cons_succ, List.getElem_cons_zero, Act.put, List.setIfInBounds_toArray, List.set_cons_zero, List.set_cons_succ]
  -- 23: Op.binOp BinOp.add 3 (Operand.tmp 73) (Operand.tmp 74) 3
  refine' anyZ_pure (i := 23) (v := _) rfl (by rfl) (by kernel_rfl) (by kernel_rfl) (by kernel_rfl) hcl23 (fun _ _ _ h => h) (Or.inl ⟨by rfl, fun w _ => ?h24⟩) (fun _ => hHeld) (fun hcl24 => ?r24)
  case h24 => (simp only [List.getElem_toArray, List.getElem_cons_succ, List.getElem_cons_zero]; first | (go_simp; with_reducible rfl) | (go_simp; done) | rfl)
  simp only [List.getElem_toArray, List.getElem_cons_succ, List.getElem_cons_zero, Act.put, List.setIfInBounds_toArray, List.set_cons_zero, List.set_cons_succ]
  -- 24: Op.move (Operand.tmp 5)
  refine' anyZ_pure (i := 24) (v := _) rfl (by rfl) (by kernel_rfl) (by kernel_rfl) (by kernel_rfl) hcl24 (fun _ _ _ h => h) (Or.inl ⟨by rfl, fun w _ => ?h25⟩) (fun _ => hHeld) (fun hcl25 => ?r25)
  case h25 => (simp only [List.getElem_toArray, List.getElem_cons_succ, List.getElem_cons_zero]; first | (go_simp; with_reducible rfl) | (go_simp; done) | rfl)
  simp only [List.getElem_toArray, List.getElem_cons_succ, List.getElem_cons_zero, Act.put, List.setIfInBounds_toArray, List.set_cons_zero, List.set_cons_succ]
  -- 25: Op.binOp BinOp.leq 3 (Operand.tmp 75) (Operand.tmp 76) 3
  refine' anyZ_pure (i := 25) (v := _) rfl (by rfl) (by kernel_rfl) (by kernel_rfl) (by kernel_rfl) hcl25 (fun _ _ _ h => h) (Or.inl ⟨by rfl, fun w _ => ?h26⟩) (fun _ => hHeld) (fun hcl26 => ?r26)
  case h26 => (simp only [List.getElem_toArray, List.getElem_cons_succ, List.getElem_cons_zero]; first | (go_simp; with_reducible rfl) | (go_simp; done) | rfl)
  simp only [List.getElem_toArray, List.getElem_cons_succ, List.getElem_cons_zero, Act.put, List.setIfInBounds_toArray, List.set_cons_zero, List.set_cons_succ]
  -- 26: Op.pick (Operand.tmp 72) (Operand.tmp 77) (Operand.const (Va
  refine' anyZ_pure (i := 26) (v := _) rfl (by rfl) (by kernel_rfl) (by kernel_rfl) (by kernel_rfl) hcl26 (fun _ _ _ h => h) (Or.inl ⟨by rfl, fun w _ => ?h27⟩) (fun _ => hHeld) (fun hcl27 => ?r27)
  case h27 => (simp only [List.getElem_toArray, List.getElem_cons_succ, List.getElem_cons_zero]; first | (go_simp; with_reducible rfl) | (go_simp; done) | rfl)
  simp only [List.getElem_toArray, List.getElem_cons_succ, List.getElem_cons_zero, Act.put, List.setIfInBounds_toArray, List.set_cons_zero, List.set_cons_succ]
  -- 27: Op.move (Operand.tmp 78)
  refine' anyZ_pure (i := 27) (v := _) rfl (by rfl) (by kernel_rfl) (by kernel_rfl) (by kernel_rfl) hcl27 (fun _ _ _ h => h) (Or.inl ⟨by rfl, fun w _ => ?h28⟩) (fun _ => hHeld) (fun hcl28 => ?r28)
  case h28 => (simp only [List.getElem_toArray, List.getElem_cons_succ, List.getElem_cons_zero]; first | (go_simp; with_reducible rfl) | (go_simp; done) | rfl)
  simp only [List.getElem_toArray, List.getElem_cons_succ, List.getElem_cons_zero, Act.put, List.setIfInBounds_toArray, List.set_cons_zero, List.set_cons_succ]
  -- 28: Op.fieldAddr 24 (Operand.tmp 12) 1
  refine' anyZ_pure (i := 28) (v := _) rfl (by rfl) (by kernel_rfl) (by kernel_rfl) (by kernel_rfl) hcl28 (fun _ _ _ h => h) (Or.inl ⟨by rfl, fun w _ => ?h29⟩) (fun _ => hHeld) (fun hcl29 => ?r29)
  case h29 => (simp only [List.getElem_toArray, List.getElem_cons_succ, List.getElem_cons_zero]; first | (go_simp; with_reducible rfl) | (go_simp; done) | rfl)
  simp only [List.getElem_toArray, List.getElem_cons_succ, List.getElem_cons_zero, Act.put, List.setIfInBounds_toArray, List.set_cons_zero, List.set_cons_succ]
  -- 29: Op.load 5 (Operand.tmp 80)
  refine' anyZ_take (i := 29) (v := _) rfl (by rfl) (by kernel_rfl) (by kernel_rfl) (by kernel_rfl) hcl29 24 (by kernel_rfl) (by kernel_rfl) (fun _ _ _ h => h) (Or.inl ⟨by rfl, fun w hSw => ?h30⟩) hHeld (fun hcl30 => ?r30)
  case h30 => (simp only [List.getElem_toArray, List.getElem_cons_succ, List.getElem_cons_zero]; obtain ⟨hS1, hS2⟩ := hSw; have x0 := hS1.c0; have x1 := hS1.c1; have x2 := hS1.c2; have y0 := hS2.c0; have y1 := hS2.c1; have y2 := hS2.c2; first | (go_simp; with_reducible rfl) | (go_simp; done) | rfl)
  simp only [List.getElem_toArray, List.getElem_cons_succ, List.getElem_cons_zero, Act.put, List.setIfInBounds_toArray, List.set_cons_zero, List.set_cons_succ]
  -- 30: Op.fieldAddr 24 (Operand.tmp 2) 1
  refine' anyZ_pure (i := 30) (v := _) rfl (by rfl) (by kernel_rfl) (by kernel_rfl) (by kernel_rfl) hcl30 (fun _ _ _ h => h) (Or.inl ⟨by rfl, fun w _ => ?h31⟩) (fun _ => hHeld) (fun hcl31 => ?r31)
  case h31 => (simp only [List.getElem_toArray, List.getElem_cons_succ, List.getElem_cons_zero]; first | (go_simp; with_reducible rfl) | (go_simp; done) | rfl)
  simp only [List.getElem_toArray, List.getElem_cons_succ, List.getElem_cons_zero, Act.put, List.setIfInBounds_toArray, List.set_cons_zero, List.set_cons_succ]
  -- 31: Op.load 5 (Operand.tmp 82)
  refine' anyZ_take (i := 31) (v := _) rfl (by rfl) (by kernel_rfl) (by kernel_rfl) (by kernel_rfl) hcl31 24 (by kernel_rfl) (by kernel_rfl) (fun _ _ _ h => h) (Or.inl ⟨by rfl, fun w hSw => ?h32⟩) hHeld (fun hcl32 => ?r32)
  case h32 => (simp only [List.getElem_toArray, List.getElem_cons_succ, List.getElem_cons_zero]; obtain ⟨hS1, hS2⟩ := hSw; have x0 := hS1.c0; have x1 := hS1.c1; have x2 := hS1.c2; have y0 := hS2.c0; have y1 := hS2.c1; have y2 := hS2.c2; first | (go_simp; with_reducible rfl) | (go_simp; done) | rfl)
  simp only [List.getElem_toArray, List.getElem_cons_succ, List.getElem_cons_zero, Act.put, List.setIfInBounds_toArray, List.set_cons_zero, List.set_cons_succ]
  -- 32: Op.binOp BinOp.neq 5 (Operand.tmp 81) (Operand.tmp 83) 5
  refine' anyZ_pure (i := 32) (v := _) rfl (by rfl) (by kernel_rfl) (by kernel_rfl) (by kernel_rfl) hcl32 (fun _ _ _ h => h) (Or.inl ⟨by rfl, fun w _ => ?h33⟩) (fun _ => hHeld) (fun hcl33 => ?r33)
  case h33 => (simp only [List.getElem_toArray, List.getElem_cons_succ, List.getElem_cons_zero]; first | (go_simp; with_reducible rfl) | (go_simp; done) | rfl)
  simp only [List.getElem_toArray, List.getElem_cons_succ, List.getElem_cons_zero, Act.put, List.setIfInBounds_toArray, List.set_cons_zero, List.set_cons_succ]
  -- 33: Op.pick (Operand.tmp 79) (Operand.tmp 84) (Operand.const (Va
  refine' anyZ_pure (i := 33) (v := _) rfl (by rfl) (by kernel_rfl) (by kernel_rfl) (by kernel_rfl) hcl33 (fun _ _ _ h => h) (Or.inl ⟨by rfl, fun w _ => ?h34⟩) (fun _ => hHeld) (fun hcl34 => ?r34)
  case h34 => (simp only [List.getElem_toArray, List.getElem_cons_succ, List.getElem_cons_zero]; first | (go_simp; with_reducible rfl) | (go_simp; done) | rfl)
  simp only [List.getElem_toArray, List.getElem_cons_succ, List.getElem_cons_zero, Act.put, List.setIfInBounds_toArray, List.set_cons_zero, List.set_cons_succ]
  -- 34: Op.move (Operand.tmp 85)
  refine' anyZ_pure (i := 34) (v := _) rfl (by rfl) (by kernel_rfl) (by kernel_rfl) (by kernel_rfl) hcl34 (fun _ _ _ h => h) (Or.inl ⟨by rfl, fun w _ => ?h35⟩) (fun _ => hHeld) (fun hcl35 => ?r35)
  case h35 => (simp only [List.getElem_toArray, List.getElem_cons_succ, List.getElem_cons_zero]; first | (go_simp; with_reducible rfl) | (go_simp; done) | rfl)
  simp only [List.getElem_toArray, List.getElem_cons_succ, List.getElem_cons_zero, Act.put, List.setIfInBounds_toArray, List.set_cons_zero, List.set_cons_succ]
  -- 35: Op.fieldAddr 24 (Operand.tmp 12) 0
  refine' anyZ_pure (i := 35) (v := _) rfl (by rfl) (by kernel_rfl) (by kernel_rfl) (by kernel_rfl) hcl35 (fun _ _ _ h => h) (Or.inl ⟨by rfl, fun w _ => ?h36⟩) (fun _ => hHeld) (fun hcl36 => ?r36)
  case h36 => (simp only [List.getElem_toArray, List.getElem_cons_succ, List.getElem_cons_zero]; first | (go_simp; with_reducible rfl) | (go_simp; done) | rfl)
  simp only [List.getElem_toArray, List.getElem_cons_succ, List.getElem_cons_zero, Act.put, List.setIfInBounds_toArray, List.set_cons_zero, List.set_cons_succ]
  -- 36: Op.load 22 (Operand.tmp 87)
  refine' anyZ_take (i := 36) (v := _) rfl (by rfl) (by kernel_rfl) (by kernel_rfl) (by kernel_rfl) hcl36 24 (by kernel_rfl) (by kernel_rfl) (fun _ _ _ h => h) (Or.inl ⟨by rfl, fun w hSw => ?h37⟩) hHeld (fun hcl37 => ?r37)
  case h37 => (simp only [List.getElem_toArray, List.getElem_cons_succ, List.getElem_cons_zero]; obtain ⟨hS1, hS2⟩ := hSw; have x0 := hS1.c0; have x1 := hS1.c1; have x2 := hS1.c2; have y0 := hS2.c0; have y1 := hS2.c1; have y2 := hS2.c2; first | (go_simp; with_reducible rfl) | (go_simp; done) | rfl)
  simp only [List.getElem_toArray, List.getElem_cons_succ, List.getElem_cons_zero, Act.put, List.setIfInBounds_toArray, List.set_cons_zero, List.set_cons_succ]
  -- 37: Op.fieldAddr 24 (Operand.tmp 2) 0
  refine' anyZ_pure (i := 37) (v := _) rfl (by rfl) (by kernel_rfl) (by kernel_rfl) (by kernel_rfl) hcl37 (fun _ _ _ h => h) (Or.inl ⟨by rfl, fun w _ => ?h38⟩) (fun _ => hHeld) (fun hcl38 => ?r38)
  case h38 => (simp only [List.getElem_toArray, List.getElem_cons_succ, List.getElem_cons_zero]; first | (go_simp; with_reducible rfl) | (go_simp; done) | rfl)
  simp only [List.getElem_toArray, List.getElem_cons_succ, List.getElem_cons_zero, Act.put, List.setIfInBounds_toArray, List.set_cons_zero, List.set_cons_succ]
  -- 38: Op.load 22 (Operand.tmp 89)
  refine' anyZ_take (i := 38) (v := _) rfl (by rfl) (by kernel_rfl) (by kernel_rfl) (by kernel_rfl) hcl38 24 (by kernel_rfl) (by kernel_rfl) (fun _ _ _ h => h) (Or.inl ⟨by rfl, fun w hSw => ?h39⟩) hHeld (fun hcl39 => ?r39)
  case h39 => (simp only [List.getElem_toArray, List.getElem_cons_succ, List.getElem_cons_zero]; obtain ⟨hS1, hS2⟩ := hSw; have x0 := hS1.c0; have x1 := hS1.c1; have x2 := hS1.c2; have y0 := hS2.c0; have y1 := hS2.c1; have y2 := hS2.c2; first | (go_simp; with_reducible rfl) | (go_simp; done) | rfl)
  simp only [List.getElem_toArray, List.getElem_cons_succ, List.getElem_cons_zero, Act.put, List.setIfInBounds_toArray, List.set_cons_zero, List.set_cons_succ]
  -- 39: Op.binOp BinOp.add 22 (Operand.tmp 90) (Operand.const (Value
  refine' anyZ_pure (i := 39) (v := _) rfl (by rfl) (by kernel_rfl) (by kernel_rfl) (by kernel_rfl) hcl39 (fun _ _ _ h => h) (Or.inl ⟨by rfl, fun w _ => ?h40⟩) (fun _ => hHeld) (fun hcl40 => ?r40)
  case h40 => (simp only [List.getElem_toArray, List.getElem_cons_succ, List.getElem_cons_zero]; first | (go_simp; with_reducible rfl) | (go_simp; done) | rfl)
  simp only [List.getElem_toArray, List.getElem_cons_succ, List.getElem_cons_zero, Act.put, List.setIfInBounds_toArray, List.set_cons_zero, List.set_cons_succ]
  -- 40: Op.binOp BinOp.eql 22 (Operand.tmp 88) (Operand.tmp 91) 22
  refine' anyZ_pure (i := 40) (v := _) rfl (by rfl) (by kernel_rfl) (by kernel_rfl) (by kernel_rfl) hcl40 (fun _ _ _ h => h) (Or.inl ⟨by rfl, fun w _ => ?h41⟩) (fun _ => hHeld) (fun hcl41 => ?r41)
  case h41 => (simp only [List.getElem_toArray, List.getElem_cons_succ, List.getElem_cons_zero]; first | (go_simp; with_reducible rfl) | (go_simp; done) | rfl)
  simp only [List.getElem_toArray, List.getElem_cons_succ, List.getElem_cons_zero, Act.put, List.setIfInBounds_toArray, List.set_cons_zero, List.set_cons_succ]
  -- 41: Op.pick (Operand.tmp 86) (Operand.tmp 92) (Operand.const (Va
  refine' anyZ_pure (i := 41) (v := _) rfl (by rfl) (by kernel_rfl) (by kernel_rfl) (by kernel_rfl) hcl41 (fun _ _ _ h => h) (Or.inl ⟨by rfl, fun w _ => ?h42⟩) (fun _ => hHeld) (fun hcl42 => ?r42)
  case h42 => (simp only [List.getElem_toArray, List.getElem_cons_succ, List.getElem_cons_zero]; first | (go_simp; with_reducible rfl) | (go_simp; done) | rfl)
  simp only [List.getElem_toArray, List.getElem_cons_succ, List.getElem_cons_zero, Act.put, List.setIfInBounds_toArray, List.set_cons_zero, List.set_cons_succ]
  -- 42: Op.move (Operand.tmp 93)
  refine' anyZ_pure (i := 42) (v := _) rfl (by rfl) (by kernel_rfl) (by kernel_rfl) (by kernel_rfl) hcl42 (fun _ _ _ h => h) (Or.inl ⟨by rfl, fun w _ => ?h43⟩) (fun _ => hHeld) (fun hcl43 => ?r43)
  case h43 => (simp only [List.getElem_toArray, List.getElem_cons_succ, List.getElem_cons_zero]; first | (go_simp; with_reducible rfl) | (go_simp; done) | rfl)
  simp only [List.getElem_toArray, List.getElem_cons_succ, List.getElem_cons_zero, Act.put, List.setIfInBounds_toArray, List.set_cons_zero, List.set_cons_succ]
  -- 43: Op.fieldAddr 24 (Operand.tmp 12) 2
  refine' anyZ_pure (i := 43) (v := _) rfl (by rfl) (by kernel_rfl) (by kernel_rfl) (by kernel_rfl) hcl43 (fun _ _ _ h => h) (Or.inl ⟨by rfl, fun w _ => ?h44⟩) (fun _ => hHeld) (fun hcl44 => ?r44)
  case h44 => (simp only [List.getElem_toArray, List.getElem_cons_succ, List.getElem_cons_zero]; first | (go_simp; with_reducible rfl) | (go_simp; done) | rfl)
  simp only [List.getElem_toArray, List.getElem_cons_succ, List.getElem_cons_zero, Act.put, List.setIfInBounds_toArray, List.set_cons_zero, List.set_cons_succ]
  -- 44: Op.load 22 (Operand.tmp 95)
  refine' anyZ_take (i := 44) (v := _) rfl (by rfl) (by kernel_rfl) (by kernel_rfl) (by kernel_rfl) hcl44 24 (by kernel_rfl) (by kernel_rfl) (fun _ _ _ h => h) (Or.inl ⟨by rfl, fun w hSw => ?h45⟩) hHeld (fun hcl45 => ?r45)
  case h45 => (simp only [List.getElem_toArray, List.getElem_cons_succ, List.getElem_cons_zero]; obtain ⟨hS1, hS2⟩ := hSw; have x0 := hS1.c0; have x1 := hS1.c1; have x2 := hS1.c2; have y0 := hS2.c0; have y1 := hS2.c1; have y2 := hS2.c2; first | (go_simp; with_reducible rfl) | (go_simp; done) | rfl)
  simp only [List.getElem_toArray, List.getElem_cons_succ, List.getElem_cons_zero, Act.put, List.setIfInBounds_toArray, List.set_cons_zero, List.set_cons_succ]
  -- 45: Op.fieldAddr 24 (Operand.tmp 2) 2
  refine' anyZ_pure (i := 45) (v := _) rfl (by rfl) (by kernel_rfl) (by kernel_rfl) (by kernel_rfl) hcl45 (fun _ _ _ h => h) (Or.inl ⟨by rfl, fun w _ => ?h46⟩) (fun _ => hHeld) (fun hcl46 => ?r46)
  case h46 => (simp only [List.getElem_toArray, List.getElem_cons_succ, List.getElem_cons_zero]; first | (go_simp; with_reducible rfl) | (go_simp; done) | rfl)
  simp only [List.getElem_toArray, List.getElem_cons_succ, List.getElem_cons_zero, Act.put, List.setIfInBounds_toArray, List.set_cons_zero, List.set_cons_succ]
  -- 46: Op.load 22 (Operand.tmp 97)
  refine' anyZ_take (i := 46) (v := _) rfl (by rfl) (by kernel_rfl) (by kernel_rfl) (by kernel_rfl) hcl46 24 (by kernel_rfl) (by kernel_rfl) (fun _ _ _ h => h) (Or.inl ⟨by rfl, fun w hSw => ?h47⟩) hHeld (fun hcl47 => ?r47)
  case h47 => (simp only [List.getElem_toArray, List.getElem_cons_succ, List.getElem_cons_zero]; obtain ⟨hS1, hS2⟩ := hSw; have x0 := hS1.c0; have x1 := hS1.c1; have x2 := hS1.c2; have y0 := hS2.c0; have y1 := hS2.c1; have y2 := hS2.c2; first | (go_simp; with_reducible rfl) | (go_simp; done) | rfl)
  simp only [List.getElem_toArray, List.getElem_cons_succ, List.getElem_cons_zero, Act.put, List.setIfInBounds_toArray, List.set_cons_zero, List.set_cons_succ]
  -- 47: Op.binOp BinOp.add 22 (Operand.tmp 98) (Operand.const (Value
  refine' anyZ_pure (i := 47) (v := _) rfl (by rfl) (by kernel_rfl) (by kernel_rfl) (by kernel_rfl) hcl47 (fun _ _ _ h => h) (Or.inl ⟨by rfl, fun w _ => ?h48⟩) (fun _ => hHeld) (fun hcl48 => ?r48)
  case h48 => (simp only [List.getElem_toArray, List.getElem_cons_succ, List.getElem_cons_zero]; first | (go_simp; with_reducible rfl) | (go_simp; done) | rfl)
  simp only [List.getElem_toArray, List.getElem_cons_succ, List.getElem_cons_zero, Act.put, List.setIfInBounds_toArray, List.set_cons_zero, List.set_cons_succ]
  -- 48: Op.binOp BinOp.eql 22 (Operand.tmp 96) (Operand.tmp 99) 22
  refine' anyZ_pure (i := 48) (v := _) rfl (by rfl) (by kernel_rfl) (by kernel_rfl) (by kernel_rfl) hcl48 (fun _ _ _ h => h) (Or.inl ⟨by rfl, fun w _ => ?h49⟩) (fun _ => hHeld) (fun hcl49 => ?r49)
  case h49 => (simp only [List.getElem_toArray, List.getElem_cons_succ, List.getElem_cons_zero]; first | (go_simp; with_reducible rfl) | (go_simp; done) | rfl)
  simp only [List.getElem_toArray, List.getElem_cons_succ, List.getElem_cons_zero, Act.put, List.setIfInBounds_toArray, List.set_cons_zero, List.set_cons_succ]
  -- 49: Op.pick (Operand.tmp 94) (Operand.tmp 100) (Operand.const (V
  refine' anyZ_pure (i := 49) (v := _) rfl (by rfl) (by kernel_rfl) (by kernel_rfl) (by kernel_rfl) hcl49 (fun _ _ _ h => h) (Or.inl ⟨by rfl, fun w _ => ?h50⟩) (fun _ => hHeld) (fun hcl50 => ?r50)
  case h50 => (simp only [List.getElem_toArray, List.getElem_cons_succ, List.getElem_cons_zero]; first | (go_simp; with_reducible rfl) | (go_simp; done) | rfl)
  simp only [List.getElem_toArray, List.getElem_cons_succ, List.getElem_cons_zero, Act.put, List.setIfInBounds_toArray, List.set_cons_zero, List.set_cons_succ]
  -- 50: Op.move (Operand.tmp 101)
  refine' anyZ_pure (i := 50) (v := _) rfl (by rfl) (by kernel_rfl) (by kernel_rfl) (by kernel_rfl) hcl50 (fun _ _ _ h => h) (Or.inl ⟨by rfl, fun w _ => ?h51⟩) (fun _ => hHeld) (fun hcl51 => ?r51)
  case h51 => (simp only [List.getElem_toArray, List.getElem_cons_succ, List.getElem_cons_zero]; first | (go_simp; with_reducible rfl) | (go_simp; done) | rfl)
  simp only [List.getElem_toArray, List.getElem_cons_succ, List.getElem_cons_zero, Act.put, List.setIfInBounds_toArray, List.set_cons_zero, List.set_cons_succ]
  -- 51: Op.load 24 (Operand.tmp 12)
  refine' anyZ_take (i := 51) (v := _) rfl (by rfl) (by kernel_rfl) (by kernel_rfl) (by kernel_rfl) hcl51 24 (by kernel_rfl) (by kernel_rfl) (fun _ _ _ h => h) (Or.inl ⟨by rfl, fun w hSw => ?h52⟩) hHeld (fun hcl52 => ?r52)
  case h52 => (simp only [List.getElem_toArray, List.getElem_cons_succ, List.getElem_cons_zero]; obtain ⟨hS1, hS2⟩ := hSw; have x0 := hS1.c0; have x1 := hS1.c1; have x2 := hS1.c2; have y0 := hS2.c0; have y1 := hS2.c1; have y2 := hS2.c2; first | (go_simp; with_reducible rfl) | (go_simp; done) | rfl)
  simp only [List.getElem_toArray, List.getElem_cons_succ, List.getElem_cons_zero, Act.put, List.setIfInBounds_toArray, List.set_cons_zero, List.set_cons_succ]
  -- 54: Op.fieldAddr 24 (Operand.tmp 2) 1
  refine' anyZ_pure (i := 54) (v := _) rfl (by rfl) (by kernel_rfl) (by kernel_rfl) (by kernel_rfl) hcl52 (fun _ _ _ h => h) (Or.inl ⟨by rfl, fun w _ => ?h53⟩) (fun _ => hHeld) (fun hcl53 => ?r53)
  case h53 => (simp only [List.getElem_toArray, List.getElem_cons_succ, List.getElem_cons_zero]; first | (go_simp; with_reducible rfl) | (go_simp; done) | rfl)
  simp only [List.getElem_toArray, List.getElem_cons_succ, List.getElem_cons_zero, Act.put, List.setIfInBounds_toArray, List.set_cons_zero, List.set_cons_succ]
  -- 55: Op.load 5 (Operand.tmp 106)
  refine' anyZ_take (i := 55) (v := _) rfl (by rfl) (by kernel_rfl) (by kernel_rfl) (by kernel_rfl) hcl53 24 (by kernel_rfl) (by kernel_rfl) (fun _ _ _ h => h) (Or.inl ⟨by rfl, fun w hSw => ?h54⟩) hHeld (fun hcl54 => ?r54)
  case h54 => (simp only [List.getElem_toArray, List.getElem_cons_succ, List.getElem_cons_zero]; obtain ⟨hS1, hS2⟩ := hSw; have x0 := hS1.c0; have x1 := hS1.c1; have x2 := hS1.c2; have y0 := hS2.c0; have y1 := hS2.c1; have y2 := hS2.c2; first | (go_simp; with_reducible rfl) | (go_simp; done) | rfl)
  simp only [List.getElem_toArray, List.getElem_cons_succ, List.getElem_cons_zero, Act.put, List.setIfInBounds_toArray, List.set_cons_zero, List.set_cons_succ]
  -- 52: Op.call { callee := Callee.value (Operand.func 17), args := 
  refine anyZ_oneG (i := 52) hcl54 (by kernel_rfl) (by simp only [List.getElem?_toArray, List.getElem?_cons_succ, List.getElem?_cons_zero]; rfl) (by rfl) (fun hcl55 K hK => ?_)
  go_simp
  refine (HNEXT.out _ (bdr (bre w7))).mono ?_
  rintro e w8 ⟨rfl, hb8⟩
  have hbb1 := btr (bdr (bre w7)) hb8
  refine hK _ _ (fun _ => ?_) ?_
  · exact ⟨HR7.out.below hbb1, HX7.out.below hbb1⟩
  clear hK K hHeld
  have hHeld := (show Row3 w8 n2 c ∧ Row3 w8 n12 nx from ⟨HR7.out.below hbb1, HX7.out.below hbb1⟩)
  try simp only [Act.put, List.setIfInBounds_toArray, List.set_cons_zero, List.set_cons_succ]
  -- 53: Op.field 24 (Operand.tmp 104) 1
  refine' anyZ_pure (i := 53) (v := _) rfl (by rfl) (by kernel_rfl) (by kernel_rfl) (by kernel_rfl) hcl55 (fun _ _ _ h => h) (Or.inl ⟨by rfl, fun w _ => ?h56⟩) (fun _ => hHeld) (fun hcl56 => ?r56)
  case h56 => (simp only [List.getElem_toArray, List.getElem_cons_succ, List.getElem_cons_zero]; first | (go_simp; with_reducible rfl) | (go_simp; done) | rfl)
  simp only [List.getElem_toArray, List.getElem_cons_succ, List.getElem_cons_zero, Act.put, List.setIfInBounds_toArray, List.set_cons_zero, List.set_cons_succ]
  -- 56: Op.binOp BinOp.eql 5 (Operand.tmp 105) (Operand.tmp 107) 5
  refine' anyZ_pure (i := 56) (v := _) rfl (by rfl) (by kernel_rfl) (by kernel_rfl) (by kernel_rfl) hcl56 (fun _ _ _ h => h) (Or.inl ⟨by rfl, fun w _ => ?h57⟩) (fun _ => hHeld) (fun hcl57 => ?r57)
  case h57 => (simp only [List.getElem_toArray, List.getElem_cons_succ, List.getElem_cons_zero]; first | (go_simp; with_reducible rfl) | (go_simp; done) | rfl)
  simp only [List.getElem_toArray, List.getElem_cons_succ, List.getElem_cons_zero, Act.put, List.setIfInBounds_toArray, List.set_cons_zero, List.set_cons_succ]
  -- 57: Op.pick (Operand.tmp 102) (Operand.tmp 108) (Operand.const (
  refine' anyZ_pure (i := 57) (v := _) rfl (by rfl) (by kernel_rfl) (by kernel_rfl) (by kernel_rfl) hcl57 (fun _ _ _ h => h) (Or.inl ⟨by rfl, fun w _ => ?h58⟩) (fun _ => hHeld) (fun hcl58 => ?r58)
  case h58 => (simp only [List.getElem_toArray, List.getElem_cons_succ, List.getElem_cons_zero]; first | (go_simp; with_reducible rfl) | (go_simp; done) | rfl)
  simp only [List.getElem_toArray, List.getElem_cons_succ, List.getElem_cons_zero, Act.put, List.setIfInBounds_toArray, List.set_cons_zero, List.set_cons_succ]
  -- 58: Op.move (Operand.tmp 109)
  refine' anyZ_pure (i := 58) (v := _) rfl (by rfl) (by kernel_rfl) (by kernel_rfl) (by kernel_rfl) hcl58 (fun _ _ _ h => h) (Or.inl ⟨by rfl, fun w _ => ?h59⟩) (fun _ => hHeld) (fun hcl59 => ?r59)
  case h59 => (simp only [List.getElem_toArray, List.getElem_cons_succ, List.getElem_cons_zero]; first | (go_simp; with_reducible rfl) | (go_simp; done) | rfl)
  simp only [List.getElem_toArray, List.getElem_cons_succ, List.getElem_cons_zero, Act.put, List.setIfInBounds_toArray, List.set_cons_zero, List.set_cons_succ]
  -- 60: Op.build 24 #[(0, Operand.const (Value.int IntKind.u32 1))]
  refine' anyZ_pure (i := 60) (v := _) rfl (by rfl) (by kernel_rfl) (by kernel_rfl) (by kernel_rfl) hcl59 (fun _ _ _ h => h) (Or.inl ⟨by rfl, fun w _ => ?h60⟩) (fun _ => hHeld) (fun hcl60 => ?r60)
  case h60 => (simp only [List.getElem_toArray, List.getElem_cons_succ, List.getElem_cons_zero]; first | (go_simp; with_reducible rfl) | (go_simp; done) | rfl)
  simp only [List.getElem_toArray, List.getElem_cons_succ, List.getElem_cons_zero, Act.put, List.setIfInBounds_toArray, List.set_cons_zero, List.set_cons_succ]
  -- 59: Op.call { callee := Callee.value (Operand.func 18), args := 
  refine anyZ_oneG (i := 59) hcl60 (by kernel_rfl) (by simp only [List.getElem?_toArray, List.getElem?_cons_succ, List.getElem?_cons_zero]; rfl) (by rfl) (fun hcl61 K hK => ?_)
  go_simp
  refine (HFIRST.out _).mono ?_
  rintro e w9 ⟨rfl, hb9⟩
  have hbb2 := btr hbb1 hb9
  refine hK _ _ (fun _ => ?_) ?_
  · exact ⟨HR7.out.below hbb2, HX7.out.below hbb2⟩
  clear hK K hHeld
  try simp only [Act.put, List.setIfInBounds_toArray, List.set_cons_zero, List.set_cons_succ]
  refine anyZ_chain_at (by kernel_rfl) ?_
  simp only [List.drop_succ_cons, List.drop_zero]
  have HF := Lib.hid (HB7.out.trans (hbb2.mono HB7.out.size))
  clear HR7 HX7 HB7 HNEXT HFIRST
  go_wp2_with fail
  go_ret
  exact ⟨rfl, HF.out⟩
end Go.Proofs.YtejdlgfiiagcmaaDoor
