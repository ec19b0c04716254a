/- Walk: partialInsertionSortOrdered. -/
import Derived.Test.YtnbncjebmlicgaaPreC
namespace Go.Proofs.Ytnbncjebmlicgaa
open Go.RowKit Go.Sort

set_option linter.unusedSimpArgs false in
set_option maxRecDepth 20000 in
set_option maxHeartbeats 6400000 in
theorem srtpis_any (B g n c a b : Nat) (d : Array Nat) (w : World) (h : SRow B w g n c d) (hab : a < b) (hbn : b ≤ n) (hn : n ≤ 1000000000) :
    Calls Try.prog 83 #[.slice (some ⟨g, 0, none⟩) n c, .int .i64 a, .int .i64 b] w fun e w' => e = .returned (.bool (partialInsertionSort ltN d a b).2) ∧ SRow B w' g n c (partialInsertionSort ltN d a b).1 ∧ Only w w' (fun q => q = g) := by
  obtain ⟨P1, P2, hR⟩ : ∃ P1 P2, partialInsertionSort ltN d a b = (P1, P2) := ⟨_, _, rfl⟩
  rw [hR]
  have HQ0 : Hid (partialIns ltN a b 5 (a + 1) d = (P1, P2)) := Lib.hid hR
  have HROW := Lib.hid h
  have HON := Lib.hid (Only.refl w (fun q => q = g))
  clear h hR
  go_enter Try.func83, Try.ntmps83
  go_wp2_with fail
  go_loopw [7, 8, 9, 10] (fun i j _ _ wr => ∃ (k s : Nat) (d' : Array Nat), a < k ∧ k ≤ b ∧ s ≤ 5 ∧ i = .int .i64 k ∧ j = .int .i64 (s : Nat) ∧ Hid (partialIns ltN a b (5 - s) k d' = (P1, P2) ∧ SRow B wr g n c d' ∧ Only w wr (fun q => q = g))) (fun _ j _ _ _ => 6 - (intOf j).toNat)
  case atStart => exact ⟨a + 1, 0, d, by omega, by omega, by omega, by first | rfl | (congr 1; omega), rfl, Lib.hid ⟨HQ0.out, HROW.out, HON.out⟩⟩
  case round =>
    clear HQ0 HROW HON
    obtain ⟨k, s, d', hk1, hk2, hs5, rfl, rfl, hin⟩ := hrel
    by_cases hs : s < 5
    · have e1 : decide ((s : Int) < 5) = true := decide_eq_true (by omega)
      have e1n : decide (s < 5) = true := decide_eq_true hs
      have hq := hin.out.1
      rw [show 5 - s = (4 - s) + 1 by omega, partialIns_succ] at hq
      obtain ⟨I, hI⟩ : ∃ I, scanSorted ltN d' b k = I := ⟨_, rfl⟩
      rw [hI] at hq
      have hIr := ss_range b d' _ k rfl hk2
      rw [hI] at hIr
      have HQ := Lib.hid hq
      have HI := Lib.hid hI
      have HROW := Lib.hid hin.out.2.1
      have HON := Lib.hid hin.out.2.2
      clear hq hI hin
      go_upto_block 2 with fail
      go_cut [7] from 17 to 34 (fun t w' => t = .int .i64 (I : Nat) ∧ Hid (SRow B w' g n c d' ∧ Only w w' (fun q => q = g)))
      case first =>
        go_wp2_with fail
        go_loopw [7] (fun i ws => ∃ q : Nat, a < q ∧ q ≤ b ∧ i = .int .i64 q ∧ Hid (scanSorted ltN d' b q = I ∧ SRow B ws g n c d' ∧ Only w ws (fun q => q = g))) (fun i _ => b + 1 - (intOf i).toNat)
        case atStart => exact ⟨k, by omega, by omega, rfl, Lib.hid ⟨HI.out, HROW.out, HON.out⟩⟩
        case round =>
          clear HROW HON HI
          obtain ⟨q, hq1, hq2, rfl, hin⟩ := hrel
          have HSC := Lib.hid hin.out.1
          have HRW := Lib.hid hin.out.2.1
          have HOW := Lib.hid hin.out.2.2
          clear hin
          by_cases hle : q < b
          · have d1 : decide ((q : Int) < (b : Int)) = true := decide_eq_true (by omega)
            have d1n : decide (q < b) = true := decide_eq_true hle
            obtain ⟨m, hm⟩ : ∃ m, m = q - 1 := ⟨_, rfl⟩
            have hmi : (q : Int) - 1 = (m : Int) := by omega
            have HM := Lib.hid hm
            have hmn : m < n := by omega
            clear hm
            have qa : (0 : Int) ≤ (q : Int) := by omega
            have qb : (q : Int) < (n : Int) := by omega
            have qc : q < n := by omega
            have qe : IntKind.i64.wrap (q : Int) = (q : Int) := by rw [IntKind.wrap_i64]; omega
            have ma : (0 : Int) ≤ (m : Int) := by omega
            have mb : (m : Int) < (n : Int) := by omega
            have mc : m < n := by omega
            have me : IntKind.i64.wrap (m : Int) = (m : Int) := by rw [IntKind.wrap_i64]; omega
            obtain ⟨kq, fq⟩ := HRW.out.get (i := q) (by omega)
            obtain ⟨km, fm⟩ := HRW.out.get (i := m) (by omega)
            obtain ⟨x, hx⟩ : ∃ x, x = d'[q]! := ⟨_, rfl⟩
            obtain ⟨y, hy⟩ : ∃ x, x = d'[m]! := ⟨_, rfl⟩
            rw [← hx] at kq
            rw [← hy] at km
            have HX := Lib.hid hx
            have HY := Lib.hid hy
            clear hx hy
            go_upto_region 5 with fail
            go_quiet ((go_at_call 84; with_reducible exact Calls.quiet_of_same (less_any x y _)))
            have HRW2 : Hid (SRow B (wr.drewN nq) g n c d') := HRW
            have HOW2 := Lib.hid (HOW.out.drewN nq)
            clear HRW HOW kq fq km fm
            cases hxy : ltN x y
            · have HSC2 : Hid (scanSorted ltN d' b (q + 1) = I) := Lib.hid (by rw [← HSC.out, ss_go hle HX.out (by rw [← HM.out]; exact HY.out) hxy])
              clear hxy HSC HX HY HM
              generalize wr.drewN nq = W2 at *
              go_wp2_with fail
              exact ⟨⟨q + 1, by omega, by omega, by go_num, Lib.hid ⟨HSC2.out, HRW2.out, HOW2.out⟩⟩, by simp [intOf]; omega⟩
            · have HKI : Hid (q = I) := Lib.hid (by rw [← HSC.out, ss_stop HX.out (by rw [← HM.out]; exact HY.out) hxy])
              clear hxy HSC HX HY HM
              generalize wr.drewN nq = W2 at *
              go_wp2_with fail
              go_meet
              case rel => exact ⟨by rw [HKI.out], Lib.hid ⟨HRW2.out, HOW2.out⟩⟩
          · have d1 : decide ((q : Int) < (b : Int)) = false := decide_eq_false (by omega)
            have d1n : decide (q < b) = false := decide_eq_false hle
            have HKI : Hid (q = I) := Lib.hid (by rw [← HSC.out, ss_end hle])
            go_upto_region 5 with fail
            go_quiet (fail)
            have HRW2 : Hid (SRow B (wr.drewN nq) g n c d') := HRW
            have HOW2 := Lib.hid (HOW.out.drewN nq)
            clear HRW HOW HSC
            generalize wr.drewN nq = W2 at *
            go_wp2_with fail
            go_meet
            case rel => exact ⟨by rw [HKI.out], Lib.hid ⟨HRW2.out, HOW2.out⟩⟩
      case rest =>
      rename World => w1
      obtain ⟨rfl, hcut2⟩ := hcut
      have HROW1 := Lib.hid hcut2.out.1
      have HON1 := Lib.hid hcut2.out.2
      clear hcut2 HROW HON HI
      by_cases hIb : I = b
      · have e2 : decide ((I : Int) = (b : Int)) = true := decide_eq_true (by omega)
        have e2n : decide (I = b) = true := decide_eq_true hIb
        have e2b : ((I : Int) == (b : Int)) = true := beq_iff_eq.2 (by omega)
        have e2c : (I == b) = true := beq_iff_eq.2 hIb
        have hq := HQ.out
        rw [if_pos hIb] at hq
        obtain ⟨q1, q2⟩ := Prod.mk.inj hq
        have Q1 := Lib.hid q1
        have Q2 := Lib.hid q2
        clear hIb hq q1 q2 HQ
        go_wp2_with fail
        go_ret
        exact ⟨by rw [← Q2.out]; rfl, by rw [← Q1.out]; exact HROW1.out, HON1.out⟩
      have e2 : decide ((I : Int) = (b : Int)) = false := decide_eq_false (by omega)
      have e2n : decide (I = b) = false := decide_eq_false hIb
      have e2b : ((I : Int) == (b : Int)) = false := beq_eq_false_iff_ne.2 (by omega)
      have e2c : (I == b) = false := beq_eq_false_iff_ne.2 hIb
      have hq := HQ.out
      rw [if_neg hIb] at hq
      obtain ⟨L, hL⟩ : ∃ L, L = b - a := ⟨_, rfl⟩
      have hLi : (b : Int) - (a : Int) = (L : Int) := by omega
      rw [← hL] at hq
      have HLL := Lib.hid hL
      clear hL HQ
      by_cases hL50 : L < 50
      · have e3 : decide ((L : Int) < 50) = true := decide_eq_true (by omega)
        have e3n : decide (L < 50) = true := decide_eq_true hL50
        rw [if_pos hL50] at hq
        obtain ⟨q1, q2⟩ := Prod.mk.inj hq
        have Q1 := Lib.hid q1
        have Q2 := Lib.hid q2
        clear hq q1 q2
        go_wp2_with fail
        go_ret
        exact ⟨by rw [← Q2.out]; rfl, by rw [← Q1.out]; exact HROW1.out, HON1.out⟩
      have e3 : decide ((L : Int) < 50) = false := decide_eq_false (by omega)
      have e3n : decide (L < 50) = false := decide_eq_false hL50
      rw [if_neg hL50] at hq
      obtain ⟨I1, hI1⟩ : ∃ I1, I1 = I - 1 := ⟨_, rfl⟩
      have hI1i : (I : Int) - 1 = (I1 : Int) := by omega
      rw [← hI1] at hq
      have hIlt : I < b := by omega
      have HI1 := Lib.hid hI1
      have hI1lt : I1 < I := by omega
      obtain ⟨D2, hD2⟩ : ∃ D, fixDown ltN a I (swp d' I I1) = D := ⟨_, rfl⟩
      obtain ⟨D3, hD3⟩ : ∃ D, fixUp ltN b I D2 = D := ⟨_, rfl⟩
      rw [hD2, hD3] at hq
      have HQ := Lib.hid hq
      have HD2 := Lib.hid hD2
      have HD3 := Lib.hid hD3
      have hIr1 := hIr.1
      clear hq hD2 hD3 hI1 hIr hIb
      go_upto_region 11 with fail
      go_cut [] from 42 to 57 (fun w' => Hid (SRow B w' g n c (swp d' I I1) ∧ Only w w' (fun q => q = g)))
      case first =>
        have hne : ¬ I = I1 := by omega
        have hne2 : ¬ I1 = I := by omega
        have Ia : (0 : Int) ≤ (I : Int) := by omega
        have Ib : (I : Int) < (n : Int) := by omega
        have Ic : I < n := by omega
        have Ie : IntKind.i64.wrap (I : Int) = (I : Int) := by rw [IntKind.wrap_i64]; omega
        have I1a : (0 : Int) ≤ (I1 : Int) := by omega
        have I1b : (I1 : Int) < (n : Int) := by omega
        have I1c : I1 < n := by omega
        have I1e : IntKind.i64.wrap (I1 : Int) = (I1 : Int) := by rw [IntKind.wrap_i64]; omega
        obtain ⟨hk1, hf1⟩ := HROW1.out.get (i := I) (by omega)
        obtain ⟨hk0, hf0⟩ := HROW1.out.get (i := I1) (by omega)
        have HRB := Lib.hid (HROW1.out.swp (i := I) (j := I1) (by omega) (by omega))
        have HOB := Lib.hid (one_only HON1.out (swp_only w1 g I I1 (.int .u64 d'[I1]!) (.int .u64 d'[I]!)))
        obtain ⟨adx, hadx⟩ : ∃ x, x = d'[I]! := ⟨_, rfl⟩
        rw [← hadx] at hk1 HRB HOB
        clear hadx
        obtain ⟨ady, hady⟩ : ∃ x, x = d'[I1]! := ⟨_, rfl⟩
        rw [← hady] at hk0 HRB HOB
        clear hady
        clear HROW1 HON1
        have hd1ad : w1.drew.cell? ⟨g, I, none⟩ = some (.int .u64 adx) := hk1
        have hd0ad : w1.drew.cell? ⟨g, I1, none⟩ = some (.int .u64 ady) := hk0
        refine region_anyZ (z := 14) (S := fun w' => w'.cell? ⟨g, I, none⟩ = some (.int .u64 adx) ∧ w'.cell? ⟨g, I1, none⟩ = some (.int .u64 ady)) (by kernel_rfl) ?_
        refine anyZ_begin (fun hcl0 => ?_)
        refine anyZ_held (by exact ⟨hd1ad, hd0ad⟩) (fun hHeld => ?_)
        -- 0: Op.move (Operand.tmp 0)
        refine' anyZ_pure (i := 0) (v := _) rfl (by rfl) (by kernel_rfl) (by kernel_rfl) (by kernel_rfl) hcl0 (fun _ _ _ h => h) (Or.inl ⟨by rfl, fun w _ => ?had1⟩) (fun _ => hHeld) (fun hcl1 => ?rad1)
        case had1 => (simp only [List.getElem_toArray, List.getElem_cons_zero]; first | (go_simp; with_reducible rfl) | (go_simp; done) | rfl)
        simp only [List.getElem_toArray, List.getElem_cons_zero, Act.put, List.setIfInBounds_toArray, List.set_cons_zero, List.set_cons_succ]
        -- 1: Op.move (Operand.tmp 7)
        refine' anyZ_pure (i := 1) (v := _) rfl (by rfl) (by kernel_rfl) (by kernel_rfl) (by kernel_rfl) hcl1 (fun _ _ _ h => h) (Or.inl ⟨by rfl, fun w _ => ?had2⟩) (fun _ => hHeld) (fun hcl2 => ?rad2)
        case had2 => (simp only [List.getElem_toArray, List.getElem_cons_succ, List.getElem_cons_zero]; first | (go_simp; with_reducible rfl) | (go_simp; done) | rfl)
        simp only [List.getElem_toArray, List.getElem_cons_succ, List.getElem_cons_zero, Act.put, List.setIfInBounds_toArray, List.set_cons_zero, List.set_cons_succ]
        -- 2: Op.move (Operand.tmp 0)
        refine' anyZ_pure (i := 2) (v := _) rfl (by rfl) (by kernel_rfl) (by kernel_rfl) (by kernel_rfl) hcl2 (fun _ _ _ h => h) (Or.inl ⟨by rfl, fun w _ => ?had3⟩) (fun _ => hHeld) (fun hcl3 => ?rad3)
        case had3 => (simp only [List.getElem_toArray, List.getElem_cons_succ, List.getElem_cons_zero]; first | (go_simp; with_reducible rfl) | (go_simp; done) | rfl)
        simp only [List.getElem_toArray, List.getElem_cons_succ, List.getElem_cons_zero, Act.put, List.setIfInBounds_toArray, List.set_cons_zero, List.set_cons_succ]
        -- 3: Op.move (Operand.tmp 7)
        refine' anyZ_pure (i := 3) (v := _) rfl (by rfl) (by kernel_rfl) (by kernel_rfl) (by kernel_rfl) hcl3 (fun _ _ _ h => h) (Or.inl ⟨by rfl, fun w _ => ?had4⟩) (fun _ => hHeld) (fun hcl4 => ?rad4)
        case had4 => (simp only [List.getElem_toArray, List.getElem_cons_succ, List.getElem_cons_zero]; first | (go_simp; with_reducible rfl) | (go_simp; done) | rfl)
        simp only [List.getElem_toArray, List.getElem_cons_succ, List.getElem_cons_zero, Act.put, List.setIfInBounds_toArray, List.set_cons_zero, List.set_cons_succ]
        -- 4: Op.binOp BinOp.sub 3 (Operand.tmp 45) (Operand.const (Value.
        refine' anyZ_pure (i := 4) (v := _) rfl (by rfl) (by kernel_rfl) (by kernel_rfl) (by kernel_rfl) hcl4 (fun _ _ _ h => h) (Or.inl ⟨by rfl, fun w _ => ?had5⟩) (fun _ => hHeld) (fun hcl5 => ?rad5)
        case had5 => (simp only [List.getElem_toArray, List.getElem_cons_succ, List.getElem_cons_zero]; first | (go_simp; with_reducible rfl) | (go_simp; done) | rfl)
        simp only [List.getElem_toArray, List.getElem_cons_succ, List.getElem_cons_zero, Act.put, List.setIfInBounds_toArray, List.set_cons_zero, List.set_cons_succ]
        -- 5: Op.move (Operand.tmp 0)
        refine' anyZ_pure (i := 5) (v := _) rfl (by rfl) (by kernel_rfl) (by kernel_rfl) (by kernel_rfl) hcl5 (fun _ _ _ h => h) (Or.inl ⟨by rfl, fun w _ => ?had6⟩) (fun _ => hHeld) (fun hcl6 => ?rad6)
        case had6 => (simp only [List.getElem_toArray, List.getElem_cons_succ, List.getElem_cons_zero]; first | (go_simp; with_reducible rfl) | (go_simp; done) | rfl)
        simp only [List.getElem_toArray, List.getElem_cons_succ, List.getElem_cons_zero, Act.put, List.setIfInBounds_toArray, List.set_cons_zero, List.set_cons_succ]
        -- 6: Op.move (Operand.tmp 7)
        refine' anyZ_pure (i := 6) (v := _) rfl (by rfl) (by kernel_rfl) (by kernel_rfl) (by kernel_rfl) hcl6 (fun _ _ _ h => h) (Or.inl ⟨by rfl, fun w _ => ?had7⟩) (fun _ => hHeld) (fun hcl7 => ?rad7)
        case had7 => (simp only [List.getElem_toArray, List.getElem_cons_succ, List.getElem_cons_zero]; first | (go_simp; with_reducible rfl) | (go_simp; done) | rfl)
        simp only [List.getElem_toArray, List.getElem_cons_succ, List.getElem_cons_zero, Act.put, List.setIfInBounds_toArray, List.set_cons_zero, List.set_cons_succ]
        -- 7: Op.binOp BinOp.sub 3 (Operand.tmp 48) (Operand.const (Value.
        refine' anyZ_pure (i := 7) (v := _) rfl (by rfl) (by kernel_rfl) (by kernel_rfl) (by kernel_rfl) hcl7 (fun _ _ _ h => h) (Or.inl ⟨by rfl, fun w _ => ?had8⟩) (fun _ => hHeld) (fun hcl8 => ?rad8)
        case had8 => (simp only [List.getElem_toArray, List.getElem_cons_succ, List.getElem_cons_zero]; first | (go_simp; with_reducible rfl) | (go_simp; done) | rfl)
        simp only [List.getElem_toArray, List.getElem_cons_succ, List.getElem_cons_zero, Act.put, List.setIfInBounds_toArray, List.set_cons_zero, List.set_cons_succ]
        -- 8: Op.indexAddr 27 (Operand.tmp 47) (Operand.tmp 49)
        refine' anyZ_pure (i := 8) (v := _) rfl (by rfl) (by kernel_rfl) (by kernel_rfl) (by kernel_rfl) hcl8 (fun _ _ _ h => h) (Or.inl ⟨by rfl, fun w _ => ?had9⟩) (fun _ => hHeld) (fun hcl9 => ?rad9)
        case had9 => (simp only [List.getElem_toArray, List.getElem_cons_succ, List.getElem_cons_zero]; first | (go_simp; with_reducible rfl) | (go_simp; done) | rfl)
        simp only [List.getElem_toArray, List.getElem_cons_succ, List.getElem_cons_zero, Act.put, List.setIfInBounds_toArray, List.set_cons_zero, List.set_cons_succ]
        -- 9: Op.load 26 (Operand.tmp 50)
        refine' anyZ_take (i := 9) (v := _) rfl (by rfl) (by kernel_rfl) (by kernel_rfl) (by kernel_rfl) hcl9 16 (by kernel_rfl) (by kernel_rfl) (fun _ _ _ h => h) (Or.inl ⟨by rfl, fun w hSw => ?had10⟩) hHeld (fun hcl10 => ?rad10)
        case had10 => (simp only [List.getElem_toArray, List.getElem_cons_succ, List.getElem_cons_zero]; obtain ⟨hS1, hS2⟩ := hSw; first | (go_simp; with_reducible rfl) | (go_simp; done) | rfl)
        simp only [List.getElem_toArray, List.getElem_cons_succ, List.getElem_cons_zero, Act.put, List.setIfInBounds_toArray, List.set_cons_zero, List.set_cons_succ]
        -- 10: Op.move (Operand.tmp 0)
        refine' anyZ_pure (i := 10) (v := _) rfl (by rfl) (by kernel_rfl) (by kernel_rfl) (by kernel_rfl) hcl10 (fun _ _ _ h => h) (Or.inl ⟨by rfl, fun w _ => ?had11⟩) (fun _ => hHeld) (fun hcl11 => ?rad11)
        case had11 => (simp only [List.getElem_toArray, List.getElem_cons_succ, List.getElem_cons_zero]; first | (go_simp; with_reducible rfl) | (go_simp; done) | rfl)
        simp only [List.getElem_toArray, List.getElem_cons_succ, List.getElem_cons_zero, Act.put, List.setIfInBounds_toArray, List.set_cons_zero, List.set_cons_succ]
        -- 11: Op.move (Operand.tmp 7)
        refine' anyZ_pure (i := 11) (v := _) rfl (by rfl) (by kernel_rfl) (by kernel_rfl) (by kernel_rfl) hcl11 (fun _ _ _ h => h) (Or.inl ⟨by rfl, fun w _ => ?had12⟩) (fun _ => hHeld) (fun hcl12 => ?rad12)
        case had12 => (simp only [List.getElem_toArray, List.getElem_cons_succ, List.getElem_cons_zero]; first | (go_simp; with_reducible rfl) | (go_simp; done) | rfl)
        simp only [List.getElem_toArray, List.getElem_cons_succ, List.getElem_cons_zero, Act.put, List.setIfInBounds_toArray, List.set_cons_zero, List.set_cons_succ]
        -- 12: Op.indexAddr 27 (Operand.tmp 52) (Operand.tmp 53)
        refine' anyZ_pure (i := 12) (v := _) rfl (by rfl) (by kernel_rfl) (by kernel_rfl) (by kernel_rfl) hcl12 (fun _ _ _ h => h) (Or.inl ⟨by rfl, fun w _ => ?had13⟩) (fun _ => hHeld) (fun hcl13 => ?rad13)
        case had13 => (simp only [List.getElem_toArray, List.getElem_cons_succ, List.getElem_cons_zero]; first | (go_simp; with_reducible rfl) | (go_simp; done) | rfl)
        simp only [List.getElem_toArray, List.getElem_cons_succ, List.getElem_cons_zero, Act.put, List.setIfInBounds_toArray, List.set_cons_zero, List.set_cons_succ]
        -- 13: Op.load 26 (Operand.tmp 54)
        refine' anyZ_take (i := 13) (v := _) rfl (by rfl) (by kernel_rfl) (by kernel_rfl) (by kernel_rfl) hcl13 16 (by kernel_rfl) (by kernel_rfl) (fun _ _ _ h => h) (Or.inl ⟨by rfl, fun w hSw => ?had14⟩) hHeld (fun hcl14 => ?rad14)
        case had14 => (simp only [List.getElem_toArray, List.getElem_cons_succ, List.getElem_cons_zero]; obtain ⟨hS1, hS2⟩ := hSw; first | (go_simp; with_reducible rfl) | (go_simp; done) | rfl)
        simp only [List.getElem_toArray, List.getElem_cons_succ, List.getElem_cons_zero, Act.put, List.setIfInBounds_toArray, List.set_cons_zero, List.set_cons_succ]
        clear hHeld
        refine anyZ_chain_at (by kernel_rfl) ?_
        simp only [List.drop_succ_cons, List.drop_zero]
        go_wp2_with fail
        go_meet
        case rel => exact Lib.hid ⟨HRB.out, HOB.out.drew⟩
      case rest =>
      rename World => w2
      have HROW2 := Lib.hid hcut.out.1
      have HON2 := Lib.hid hcut.out.2
      clear hcut HROW1 HON1
      go_upto_if 61 with fail
      go_cut [] from 58 to 94 (fun w' => Hid (SRow B w' g n c D2 ∧ Only w w' (fun q => q = g)))
      case first =>
        obtain ⟨M, hM⟩ : ∃ M, M = I - a := ⟨_, rfl⟩
        have hMi : (I : Int) - (a : Int) = (M : Int) := by omega
        by_cases h2 : 2 ≤ M
        · have e4 : decide ((2 : Int) ≤ (M : Int)) = true := decide_eq_true (by omega)
          have e4n : decide (2 ≤ M) = true := decide_eq_true h2
          have HSD : Hid (shiftDown ltN I1 (swp d' I I1) = D2) := Lib.hid (by rw [← HD2.out, HI1.out]; unfold fixDown; rw [if_pos (by omega)])
          clear hM
          go_wp2_with fail
          go_loopw [9] (fun i ws => ∃ (q : Nat) (e : Array Nat), q < n ∧ i = .int .i64 q ∧ Hid (shiftDown ltN q e = D2 ∧ SRow B ws g n c e ∧ Only w ws (fun q => q = g))) (fun i _ => (intOf i).toNat)
          case atStart => exact ⟨I1, swp d' I I1, by omega, by first | rfl | (congr 1; omega), Lib.hid ⟨HSD.out, HROW2.out, HON2.out⟩⟩
          case round =>
            clear HROW2 HON2 HSD
            obtain ⟨q, e, hqn, rfl, hin⟩ := hrel
            cases q with
            | zero =>
              have hz : e = D2 := hin.out.1
              have HZ := Lib.hid hz
              clear hz
              go_wp2_with fail
              go_meet
              case rel => exact Lib.hid ⟨by rw [← HZ.out]; exact hin.out.2.1, hin.out.2.2⟩
            | succ m =>
              obtain ⟨q, hq⟩ : ∃ q, q = m + 1 := ⟨_, rfl⟩
              rw [← hq] at hin hqn ⊢
              have hmi : (q : Int) - 1 = (m : Int) := by omega
              have hq1 : decide ((1 : Int) ≤ (q : Int)) = true := decide_eq_true (by omega)
              have hq1n : decide (1 ≤ q) = true := decide_eq_true (by omega)
              have hmn : m < n := by omega
              have hmq : m < q := by omega
              have HQM := Lib.hid hq
              have HSC := Lib.hid hin.out.1
              have HRW := Lib.hid hin.out.2.1
              have HOW := Lib.hid hin.out.2.2
              clear hin hq
              have qa : (0 : Int) ≤ (q : Int) := by omega
              have qb : (q : Int) < (n : Int) := by omega
              have qc : q < n := by omega
              have qe : IntKind.i64.wrap (q : Int) = (q : Int) := by rw [IntKind.wrap_i64]; omega
              have ma : (0 : Int) ≤ (m : Int) := by omega
              have mb : (m : Int) < (n : Int) := by omega
              have mc : m < n := by omega
              have me : IntKind.i64.wrap (m : Int) = (m : Int) := by rw [IntKind.wrap_i64]; omega
              obtain ⟨kq, fq⟩ := HRW.out.get (i := q) (by omega)
              obtain ⟨km, fm⟩ := HRW.out.get (i := m) (by omega)
              obtain ⟨x, hx⟩ : ∃ x, x = e[q]! := ⟨_, rfl⟩
              obtain ⟨y, hy⟩ : ∃ x, x = e[m]! := ⟨_, rfl⟩
              rw [← hx] at kq
              rw [← hy] at km
              have HX := Lib.hid hx
              have HY := Lib.hid hy
              clear hx hy
              go_upto_region 16 with fail
              go_quiet ((go_at_call 84; with_reducible exact Calls.quiet_of_same (less_any x y _)))
              have HRW2 : Hid (SRow B (wr.drewN nq) g n c e) := HRW
              have HOW2 := Lib.hid (HOW.out.drewN nq)
              clear HRW HOW kq fq km fm
              cases hxy : ltN x y
              · have HZ : Hid (e = D2) := Lib.hid (by have h1 := HSC.out; rw [HQM.out, sd_stop (by rw [← HQM.out]; exact HX.out) HY.out hxy] at h1; exact h1)
                clear hxy HSC HX HY HQM
                generalize wr.drewN nq = W2 at *
                go_wp2_with fail
                go_meet
                case rel => exact Lib.hid ⟨by rw [← HZ.out]; exact HRW2.out, HOW2.out⟩
              · have HZ : Hid (shiftDown ltN m (swp e q m) = D2) := Lib.hid (by have h1 := HSC.out; rw [HQM.out, sd_go (by rw [← HQM.out]; exact HX.out) HY.out hxy, ← HQM.out] at h1; exact h1)
                clear hxy HSC HX HY
                generalize wr.drewN nq = W2 at *
                have hne : ¬ q = m := by omega
                have hne2 : ¬ m = q := by omega
                have qa : (0 : Int) ≤ (q : Int) := by omega
                have qb : (q : Int) < (n : Int) := by omega
                have qc : q < n := by omega
                have qe : IntKind.i64.wrap (q : Int) = (q : Int) := by rw [IntKind.wrap_i64]; omega
                have ma : (0 : Int) ≤ (m : Int) := by omega
                have mb : (m : Int) < (n : Int) := by omega
                have mc : m < n := by omega
                have me : IntKind.i64.wrap (m : Int) = (m : Int) := by rw [IntKind.wrap_i64]; omega
                obtain ⟨hk1, hf1⟩ := HRW2.out.get (i := q) (by omega)
                obtain ⟨hk0, hf0⟩ := HRW2.out.get (i := m) (by omega)
                have HROW6 := Lib.hid (HRW2.out.swp (i := q) (j := m) (by omega) (by omega))
                have HON6 := Lib.hid (one_only HOW2.out (swp_only W2 g q m (.int .u64 e[m]!) (.int .u64 e[q]!)))
                obtain ⟨vx, hvx⟩ : ∃ x, x = e[q]! := ⟨_, rfl⟩
                rw [← hvx] at hk1 HROW6 HON6
                clear hvx
                obtain ⟨vy, hvy⟩ : ∃ x, x = e[m]! := ⟨_, rfl⟩
                rw [← hvy] at hk0 HROW6 HON6
                clear hvy HRW2 HOW2
                go_upto_region 17 with fail
                have hd1v : W2.drew.cell? ⟨g, q, none⟩ = some (.int .u64 vx) := hk1
                have hd0v : W2.drew.cell? ⟨g, m, none⟩ = some (.int .u64 vy) := hk0
                refine region_anyZ (z := 14) (S := fun w' => w'.cell? ⟨g, q, none⟩ = some (.int .u64 vx) ∧ w'.cell? ⟨g, m, none⟩ = some (.int .u64 vy)) (by kernel_rfl) ?_
                refine anyZ_begin (fun hcl0 => ?_)
                refine anyZ_held (by exact ⟨hd1v, hd0v⟩) (fun hHeld => ?_)
                -- 0: Op.move (Operand.tmp 0)
                refine' anyZ_pure (i := 0) (v := _) rfl (by rfl) (by kernel_rfl) (by kernel_rfl) (by kernel_rfl) hcl0 (fun _ _ _ h => h) (Or.inl ⟨by rfl, fun w _ => ?hv1⟩) (fun _ => hHeld) (fun hcl1 => ?rv1)
                case hv1 => (simp only [List.getElem_toArray, List.getElem_cons_zero]; first | (go_simp; with_reducible rfl) | (go_simp; done) | rfl)
                simp only [List.getElem_toArray, List.getElem_cons_zero, Act.put, List.setIfInBounds_toArray, List.set_cons_zero, List.set_cons_succ]
                -- 1: Op.move (Operand.tmp 9)
                refine' anyZ_pure (i := 1) (v := _) rfl (by rfl) (by kernel_rfl) (by kernel_rfl) (by kernel_rfl) hcl1 (fun _ _ _ h => h) (Or.inl ⟨by rfl, fun w _ => ?hv2⟩) (fun _ => hHeld) (fun hcl2 => ?rv2)
                case hv2 => (simp only [List.getElem_toArray, List.getElem_cons_succ, List.getElem_cons_zero]; first | (go_simp; with_reducible rfl) | (go_simp; done) | rfl)
                simp only [List.getElem_toArray, List.getElem_cons_succ, List.getElem_cons_zero, Act.put, List.setIfInBounds_toArray, List.set_cons_zero, List.set_cons_succ]
                -- 2: Op.move (Operand.tmp 0)
                refine' anyZ_pure (i := 2) (v := _) rfl (by rfl) (by kernel_rfl) (by kernel_rfl) (by kernel_rfl) hcl2 (fun _ _ _ h => h) (Or.inl ⟨by rfl, fun w _ => ?hv3⟩) (fun _ => hHeld) (fun hcl3 => ?rv3)
                case hv3 => (simp only [List.getElem_toArray, List.getElem_cons_succ, List.getElem_cons_zero]; first | (go_simp; with_reducible rfl) | (go_simp; done) | rfl)
                simp only [List.getElem_toArray, List.getElem_cons_succ, List.getElem_cons_zero, Act.put, List.setIfInBounds_toArray, List.set_cons_zero, List.set_cons_succ]
                -- 3: Op.move (Operand.tmp 9)
                refine' anyZ_pure (i := 3) (v := _) rfl (by rfl) (by kernel_rfl) (by kernel_rfl) (by kernel_rfl) hcl3 (fun _ _ _ h => h) (Or.inl ⟨by rfl, fun w _ => ?hv4⟩) (fun _ => hHeld) (fun hcl4 => ?rv4)
                case hv4 => (simp only [List.getElem_toArray, List.getElem_cons_succ, List.getElem_cons_zero]; first | (go_simp; with_reducible rfl) | (go_simp; done) | rfl)
                simp only [List.getElem_toArray, List.getElem_cons_succ, List.getElem_cons_zero, Act.put, List.setIfInBounds_toArray, List.set_cons_zero, List.set_cons_succ]
                -- 4: Op.binOp BinOp.sub 3 (Operand.tmp 82) (Operand.const (Value.
                refine' anyZ_pure (i := 4) (v := _) rfl (by rfl) (by kernel_rfl) (by kernel_rfl) (by kernel_rfl) hcl4 (fun _ _ _ h => h) (Or.inl ⟨by rfl, fun w _ => ?hv5⟩) (fun _ => hHeld) (fun hcl5 => ?rv5)
                case hv5 => (simp only [List.getElem_toArray, List.getElem_cons_succ, List.getElem_cons_zero]; first | (go_simp; with_reducible rfl) | (go_simp; done) | rfl)
                simp only [List.getElem_toArray, List.getElem_cons_succ, List.getElem_cons_zero, Act.put, List.setIfInBounds_toArray, List.set_cons_zero, List.set_cons_succ]
                -- 5: Op.move (Operand.tmp 0)
                refine' anyZ_pure (i := 5) (v := _) rfl (by rfl) (by kernel_rfl) (by kernel_rfl) (by kernel_rfl) hcl5 (fun _ _ _ h => h) (Or.inl ⟨by rfl, fun w _ => ?hv6⟩) (fun _ => hHeld) (fun hcl6 => ?rv6)
                case hv6 => (simp only [List.getElem_toArray, List.getElem_cons_succ, List.getElem_cons_zero]; first | (go_simp; with_reducible rfl) | (go_simp; done) | rfl)
                simp only [List.getElem_toArray, List.getElem_cons_succ, List.getElem_cons_zero, Act.put, List.setIfInBounds_toArray, List.set_cons_zero, List.set_cons_succ]
                -- 6: Op.move (Operand.tmp 9)
                refine' anyZ_pure (i := 6) (v := _) rfl (by rfl) (by kernel_rfl) (by kernel_rfl) (by kernel_rfl) hcl6 (fun _ _ _ h => h) (Or.inl ⟨by rfl, fun w _ => ?hv7⟩) (fun _ => hHeld) (fun hcl7 => ?rv7)
                case hv7 => (simp only [List.getElem_toArray, List.getElem_cons_succ, List.getElem_cons_zero]; first | (go_simp; with_reducible rfl) | (go_simp; done) | rfl)
                simp only [List.getElem_toArray, List.getElem_cons_succ, List.getElem_cons_zero, Act.put, List.setIfInBounds_toArray, List.set_cons_zero, List.set_cons_succ]
                -- 7: Op.binOp BinOp.sub 3 (Operand.tmp 85) (Operand.const (Value.
                refine' anyZ_pure (i := 7) (v := _) rfl (by rfl) (by kernel_rfl) (by kernel_rfl) (by kernel_rfl) hcl7 (fun _ _ _ h => h) (Or.inl ⟨by rfl, fun w _ => ?hv8⟩) (fun _ => hHeld) (fun hcl8 => ?rv8)
                case hv8 => (simp only [List.getElem_toArray, List.getElem_cons_succ, List.getElem_cons_zero]; first | (go_simp; with_reducible rfl) | (go_simp; done) | rfl)
                simp only [List.getElem_toArray, List.getElem_cons_succ, List.getElem_cons_zero, Act.put, List.setIfInBounds_toArray, List.set_cons_zero, List.set_cons_succ]
                -- 8: Op.indexAddr 27 (Operand.tmp 84) (Operand.tmp 86)
                refine' anyZ_pure (i := 8) (v := _) rfl (by rfl) (by kernel_rfl) (by kernel_rfl) (by kernel_rfl) hcl8 (fun _ _ _ h => h) (Or.inl ⟨by rfl, fun w _ => ?hv9⟩) (fun _ => hHeld) (fun hcl9 => ?rv9)
                case hv9 => (simp only [List.getElem_toArray, List.getElem_cons_succ, List.getElem_cons_zero]; first | (go_simp; with_reducible rfl) | (go_simp; done) | rfl)
                simp only [List.getElem_toArray, List.getElem_cons_succ, List.getElem_cons_zero, Act.put, List.setIfInBounds_toArray, List.set_cons_zero, List.set_cons_succ]
                -- 9: Op.load 26 (Operand.tmp 87)
                refine' anyZ_take (i := 9) (v := _) rfl (by rfl) (by kernel_rfl) (by kernel_rfl) (by kernel_rfl) hcl9 16 (by kernel_rfl) (by kernel_rfl) (fun _ _ _ h => h) (Or.inl ⟨by rfl, fun w hSw => ?hv10⟩) hHeld (fun hcl10 => ?rv10)
                case hv10 => (simp only [List.getElem_toArray, List.getElem_cons_succ, List.getElem_cons_zero]; obtain ⟨hS1, hS2⟩ := hSw; first | (go_simp; with_reducible rfl) | (go_simp; done) | rfl)
                simp only [List.getElem_toArray, List.getElem_cons_succ, List.getElem_cons_zero, Act.put, List.setIfInBounds_toArray, List.set_cons_zero, List.set_cons_succ]
                -- 10: Op.move (Operand.tmp 0)
                refine' anyZ_pure (i := 10) (v := _) rfl (by rfl) (by kernel_rfl) (by kernel_rfl) (by kernel_rfl) hcl10 (fun _ _ _ h => h) (Or.inl ⟨by rfl, fun w _ => ?hv11⟩) (fun _ => hHeld) (fun hcl11 => ?rv11)
                case hv11 => (simp only [List.getElem_toArray, List.getElem_cons_succ, List.getElem_cons_zero]; first | (go_simp; with_reducible rfl) | (go_simp; done) | rfl)
                simp only [List.getElem_toArray, List.getElem_cons_succ, List.getElem_cons_zero, Act.put, List.setIfInBounds_toArray, List.set_cons_zero, List.set_cons_succ]
                -- 11: Op.move (Operand.tmp 9)
                refine' anyZ_pure (i := 11) (v := _) rfl (by rfl) (by kernel_rfl) (by kernel_rfl) (by kernel_rfl) hcl11 (fun _ _ _ h => h) (Or.inl ⟨by rfl, fun w _ => ?hv12⟩) (fun _ => hHeld) (fun hcl12 => ?rv12)
                case hv12 => (simp only [List.getElem_toArray, List.getElem_cons_succ, List.getElem_cons_zero]; first | (go_simp; with_reducible rfl) | (go_simp; done) | rfl)
                simp only [List.getElem_toArray, List.getElem_cons_succ, List.getElem_cons_zero, Act.put, List.setIfInBounds_toArray, List.set_cons_zero, List.set_cons_succ]
                -- 12: Op.indexAddr 27 (Operand.tmp 89) (Operand.tmp 90)
                refine' anyZ_pure (i := 12) (v := _) rfl (by rfl) (by kernel_rfl) (by kernel_rfl) (by kernel_rfl) hcl12 (fun _ _ _ h => h) (Or.inl ⟨by rfl, fun w _ => ?hv13⟩) (fun _ => hHeld) (fun hcl13 => ?rv13)
                case hv13 => (simp only [List.getElem_toArray, List.getElem_cons_succ, List.getElem_cons_zero]; first | (go_simp; with_reducible rfl) | (go_simp; done) | rfl)
                simp only [List.getElem_toArray, List.getElem_cons_succ, List.getElem_cons_zero, Act.put, List.setIfInBounds_toArray, List.set_cons_zero, List.set_cons_succ]
                -- 13: Op.load 26 (Operand.tmp 91)
                refine' anyZ_take (i := 13) (v := _) rfl (by rfl) (by kernel_rfl) (by kernel_rfl) (by kernel_rfl) hcl13 16 (by kernel_rfl) (by kernel_rfl) (fun _ _ _ h => h) (Or.inl ⟨by rfl, fun w hSw => ?hv14⟩) hHeld (fun hcl14 => ?rv14)
                case hv14 => (simp only [List.getElem_toArray, List.getElem_cons_succ, List.getElem_cons_zero]; obtain ⟨hS1, hS2⟩ := hSw; first | (go_simp; with_reducible rfl) | (go_simp; done) | rfl)
                simp only [List.getElem_toArray, List.getElem_cons_succ, List.getElem_cons_zero, Act.put, List.setIfInBounds_toArray, List.set_cons_zero, List.set_cons_succ]
                clear hHeld
                refine anyZ_chain_at (by kernel_rfl) ?_
                simp only [List.drop_succ_cons, List.drop_zero]
                go_wp2_with fail
                go_roundw
                case rel => exact ⟨m, _, by omega, by first | rfl | (congr 1; omega), Lib.hid ⟨HZ.out, HROW6.out, HON6.out.drew⟩⟩
                case measure => (simp [intOf]; try omega)
        · have e4 : decide ((2 : Int) ≤ (M : Int)) = false := decide_eq_false (by omega)
          have e4n : decide (2 ≤ M) = false := decide_eq_false h2
          have HZ : Hid (swp d' I I1 = D2) := Lib.hid (by rw [← HD2.out]; unfold fixDown; rw [if_neg (by omega)])
          clear hM
          go_wp2_with fail
          go_meet
          case rel => exact Lib.hid ⟨by rw [← HZ.out]; exact HROW2.out, HON2.out⟩
      case rest =>
      rename World => w3
      have HROW3 := Lib.hid hcut.out.1
      have HON3 := Lib.hid hcut.out.2
      clear hcut HROW2 HON2 HD2
      have HQ5 : Hid (partialIns ltN a b (5 - (s + 1)) I D3 = (P1, P2)) := Lib.hid (by rw [show 5 - (s + 1) = 4 - s by omega]; exact HQ.out)
      clear HQ
      · skip
        obtain ⟨M, hM⟩ : ∃ M, M = b - I := ⟨_, rfl⟩
        have hMi : (b : Int) - (I : Int) = (M : Int) := by omega
        by_cases h2 : 2 ≤ M
        · have e4 : decide ((2 : Int) ≤ (M : Int)) = true := decide_eq_true (by omega)
          have e4n : decide (2 ≤ M) = true := decide_eq_true h2
          have HSD : Hid (shiftUp ltN b (I + 1) D2 = D3) := Lib.hid (by rw [← HD3.out]; unfold fixUp; rw [if_pos (by omega)])
          clear hM
          go_wp2_with fail
          go_loopw [10] (fun i ws => ∃ (q : Nat) (e : Array Nat), 0 < q ∧ q ≤ b ∧ i = .int .i64 q ∧ Hid (shiftUp ltN b q e = D3 ∧ SRow B ws g n c e ∧ Only w ws (fun q => q = g))) (fun i _ => b + 1 - (intOf i).toNat)
          case atStart => exact ⟨I + 1, D2, by omega, by omega, by first | rfl | go_num | (congr 1; omega), Lib.hid ⟨HSD.out, HROW3.out, HON3.out⟩⟩
          case round =>
            clear HROW3 HON3 HSD
            obtain ⟨q, e, hq0, hqb, rfl, hin⟩ := hrel
            have HSC := Lib.hid hin.out.1
            have HRW := Lib.hid hin.out.2.1
            have HOW := Lib.hid hin.out.2.2
            clear hin
            by_cases hle : q < b
            · have d1 : decide ((q : Int) < (b : Int)) = true := decide_eq_true (by omega)
              have d1n : decide (q < b) = true := decide_eq_true hle
              obtain ⟨m, hm⟩ : ∃ m, m = q - 1 := ⟨_, rfl⟩
              have hmi : (q : Int) - 1 = (m : Int) := by omega
              have hmn : m < n := by omega
              have hmq : m < q := by omega
              have HQM : Hid (q = m + 1) := Lib.hid (by omega)
              clear hm
              have qa : (0 : Int) ≤ (q : Int) := by omega
              have qb : (q : Int) < (n : Int) := by omega
              have qc : q < n := by omega
              have qe : IntKind.i64.wrap (q : Int) = (q : Int) := by rw [IntKind.wrap_i64]; omega
              have ma : (0 : Int) ≤ (m : Int) := by omega
              have mb : (m : Int) < (n : Int) := by omega
              have mc : m < n := by omega
              have me : IntKind.i64.wrap (m : Int) = (m : Int) := by rw [IntKind.wrap_i64]; omega
              obtain ⟨kq, fq⟩ := HRW.out.get (i := q) (by omega)
              obtain ⟨km, fm⟩ := HRW.out.get (i := m) (by omega)
              obtain ⟨x, hx⟩ : ∃ x, x = e[q]! := ⟨_, rfl⟩
              obtain ⟨y, hy⟩ : ∃ x, x = e[m]! := ⟨_, rfl⟩
              rw [← hx] at kq
              rw [← hy] at km
              have HX := Lib.hid hx
              have HY := Lib.hid hy
              clear hx hy
              go_upto_region 22 with fail
              go_quiet ((go_at_call 84; with_reducible exact Calls.quiet_of_same (less_any x y _)))
              have HRW2 : Hid (SRow B (wr.drewN nq) g n c e) := HRW
              have HOW2 := Lib.hid (HOW.out.drewN nq)
              clear HRW HOW kq fq km fm
              cases hxy : ltN x y
              · have HZ : Hid (e = D3) := Lib.hid (by rw [← HSC.out, su_stop HQM.out HX.out HY.out hxy])
                clear hxy HSC HX HY HQM
                generalize wr.drewN nq = W2 at *
                go_wp2_with fail
                go_roundw
                case rel => first | exact ⟨I, s + 1, D3, by omega, by omega, by omega, rfl, by first | rfl | go_num | (congr 1; omega), Lib.hid ⟨HQ5.out, by rw [← HZ.out]; exact HRW2.out, HOW2.out⟩⟩ | ((repeat apply Exists.intro); exact ⟨⟨I, s + 1, D3, by omega, by omega, by omega, rfl, by first | rfl | go_num | (congr 1; omega), Lib.hid ⟨HQ5.out, by rw [← HZ.out]; exact HRW2.out, HOW2.out⟩⟩, rfl⟩)
                case measure => (simp [intOf]; try omega)
              · have HZ : Hid (shiftUp ltN b (q + 1) (swp e q m) = D3) := Lib.hid (by rw [← HSC.out, su_go hle HQM.out HX.out HY.out hxy])
                clear hxy HSC HX HY
                generalize wr.drewN nq = W2 at *
                have hne : ¬ q = m := by omega
                have hne2 : ¬ m = q := by omega
                have qa : (0 : Int) ≤ (q : Int) := by omega
                have qb : (q : Int) < (n : Int) := by omega
                have qc : q < n := by omega
                have qe : IntKind.i64.wrap (q : Int) = (q : Int) := by rw [IntKind.wrap_i64]; omega
                have ma : (0 : Int) ≤ (m : Int) := by omega
                have mb : (m : Int) < (n : Int) := by omega
                have mc : m < n := by omega
                have me : IntKind.i64.wrap (m : Int) = (m : Int) := by rw [IntKind.wrap_i64]; omega
                obtain ⟨hk1, hf1⟩ := HRW2.out.get (i := q) (by omega)
                obtain ⟨hk0, hf0⟩ := HRW2.out.get (i := m) (by omega)
                have HROW6 := Lib.hid (HRW2.out.swp (i := q) (j := m) (by omega) (by omega))
                have HON6 := Lib.hid (one_only HOW2.out (swp_only W2 g q m (.int .u64 e[m]!) (.int .u64 e[q]!)))
                obtain ⟨tx, htx⟩ : ∃ x, x = e[q]! := ⟨_, rfl⟩
                rw [← htx] at hk1 HROW6 HON6
                clear htx
                obtain ⟨ty, hty⟩ : ∃ x, x = e[m]! := ⟨_, rfl⟩
                rw [← hty] at hk0 HROW6 HON6
                clear hty HRW2 HOW2
                go_upto_region 23 with fail
                have hd1t : W2.drew.cell? ⟨g, q, none⟩ = some (.int .u64 tx) := hk1
                have hd0t : W2.drew.cell? ⟨g, m, none⟩ = some (.int .u64 ty) := hk0
                refine region_anyZ (z := 14) (S := fun w' => w'.cell? ⟨g, q, none⟩ = some (.int .u64 tx) ∧ w'.cell? ⟨g, m, none⟩ = some (.int .u64 ty)) (by kernel_rfl) ?_
                refine anyZ_begin (fun hcl0 => ?_)
                refine anyZ_held (by exact ⟨hd1t, hd0t⟩) (fun hHeld => ?_)
                -- 0: Op.move (Operand.tmp 0)
                refine' anyZ_pure (i := 0) (v := _) rfl (by rfl) (by kernel_rfl) (by kernel_rfl) (by kernel_rfl) hcl0 (fun _ _ _ h => h) (Or.inl ⟨by rfl, fun w _ => ?ht1⟩) (fun _ => hHeld) (fun hcl1 => ?rt1)
                case ht1 => (simp only [List.getElem_toArray, List.getElem_cons_zero]; first | (go_simp; with_reducible rfl) | (go_simp; done) | rfl)
                simp only [List.getElem_toArray, List.getElem_cons_zero, Act.put, List.setIfInBounds_toArray, List.set_cons_zero, List.set_cons_succ]
                -- 1: Op.move (Operand.tmp 10)
                refine' anyZ_pure (i := 1) (v := _) rfl (by rfl) (by kernel_rfl) (by kernel_rfl) (by kernel_rfl) hcl1 (fun _ _ _ h => h) (Or.inl ⟨by rfl, fun w _ => ?ht2⟩) (fun _ => hHeld) (fun hcl2 => ?rt2)
                case ht2 => (simp only [List.getElem_toArray, List.getElem_cons_succ, List.getElem_cons_zero]; first | (go_simp; with_reducible rfl) | (go_simp; done) | rfl)
                simp only [List.getElem_toArray, List.getElem_cons_succ, List.getElem_cons_zero, Act.put, List.setIfInBounds_toArray, List.set_cons_zero, List.set_cons_succ]
                -- 2: Op.move (Operand.tmp 0)
                refine' anyZ_pure (i := 2) (v := _) rfl (by rfl) (by kernel_rfl) (by kernel_rfl) (by kernel_rfl) hcl2 (fun _ _ _ h => h) (Or.inl ⟨by rfl, fun w _ => ?ht3⟩) (fun _ => hHeld) (fun hcl3 => ?rt3)
                case ht3 => (simp only [List.getElem_toArray, List.getElem_cons_succ, List.getElem_cons_zero]; first | (go_simp; with_reducible rfl) | (go_simp; done) | rfl)
                simp only [List.getElem_toArray, List.getElem_cons_succ, List.getElem_cons_zero, Act.put, List.setIfInBounds_toArray, List.set_cons_zero, List.set_cons_succ]
                -- 3: Op.move (Operand.tmp 10)
                refine' anyZ_pure (i := 3) (v := _) rfl (by rfl) (by kernel_rfl) (by kernel_rfl) (by kernel_rfl) hcl3 (fun _ _ _ h => h) (Or.inl ⟨by rfl, fun w _ => ?ht4⟩) (fun _ => hHeld) (fun hcl4 => ?rt4)
                case ht4 => (simp only [List.getElem_toArray, List.getElem_cons_succ, List.getElem_cons_zero]; first | (go_simp; with_reducible rfl) | (go_simp; done) | rfl)
                simp only [List.getElem_toArray, List.getElem_cons_succ, List.getElem_cons_zero, Act.put, List.setIfInBounds_toArray, List.set_cons_zero, List.set_cons_succ]
                -- 4: Op.binOp BinOp.sub 3 (Operand.tmp 120) (Operand.const (Value
                refine' anyZ_pure (i := 4) (v := _) rfl (by rfl) (by kernel_rfl) (by kernel_rfl) (by kernel_rfl) hcl4 (fun _ _ _ h => h) (Or.inl ⟨by rfl, fun w _ => ?ht5⟩) (fun _ => hHeld) (fun hcl5 => ?rt5)
                case ht5 => (simp only [List.getElem_toArray, List.getElem_cons_succ, List.getElem_cons_zero]; first | (go_simp; with_reducible rfl) | (go_simp; done) | rfl)
                simp only [List.getElem_toArray, List.getElem_cons_succ, List.getElem_cons_zero, Act.put, List.setIfInBounds_toArray, List.set_cons_zero, List.set_cons_succ]
                -- 5: Op.move (Operand.tmp 0)
                refine' anyZ_pure (i := 5) (v := _) rfl (by rfl) (by kernel_rfl) (by kernel_rfl) (by kernel_rfl) hcl5 (fun _ _ _ h => h) (Or.inl ⟨by rfl, fun w _ => ?ht6⟩) (fun _ => hHeld) (fun hcl6 => ?rt6)
                case ht6 => (simp only [List.getElem_toArray, List.getElem_cons_succ, List.getElem_cons_zero]; first | (go_simp; with_reducible rfl) | (go_simp; done) | rfl)
                simp only [List.getElem_toArray, List.getElem_cons_succ, List.getElem_cons_zero, Act.put, List.setIfInBounds_toArray, List.set_cons_zero, List.set_cons_succ]
                -- 6: Op.move (Operand.tmp 10)
                refine' anyZ_pure (i := 6) (v := _) rfl (by rfl) (by kernel_rfl) (by kernel_rfl) (by kernel_rfl) hcl6 (fun _ _ _ h => h) (Or.inl ⟨by rfl, fun w _ => ?ht7⟩) (fun _ => hHeld) (fun hcl7 => ?rt7)
                case ht7 => (simp only [List.getElem_toArray, List.getElem_cons_succ, List.getElem_cons_zero]; first | (go_simp; with_reducible rfl) | (go_simp; done) | rfl)
                simp only [List.getElem_toArray, List.getElem_cons_succ, List.getElem_cons_zero, Act.put, List.setIfInBounds_toArray, List.set_cons_zero, List.set_cons_succ]
                -- 7: Op.binOp BinOp.sub 3 (Operand.tmp 123) (Operand.const (Value
                refine' anyZ_pure (i := 7) (v := _) rfl (by rfl) (by kernel_rfl) (by kernel_rfl) (by kernel_rfl) hcl7 (fun _ _ _ h => h) (Or.inl ⟨by rfl, fun w _ => ?ht8⟩) (fun _ => hHeld) (fun hcl8 => ?rt8)
                case ht8 => (simp only [List.getElem_toArray, List.getElem_cons_succ, List.getElem_cons_zero]; first | (go_simp; with_reducible rfl) | (go_simp; done) | rfl)
                simp only [List.getElem_toArray, List.getElem_cons_succ, List.getElem_cons_zero, Act.put, List.setIfInBounds_toArray, List.set_cons_zero, List.set_cons_succ]
                -- 8: Op.indexAddr 27 (Operand.tmp 122) (Operand.tmp 124)
                refine' anyZ_pure (i := 8) (v := _) rfl (by rfl) (by kernel_rfl) (by kernel_rfl) (by kernel_rfl) hcl8 (fun _ _ _ h => h) (Or.inl ⟨by rfl, fun w _ => ?ht9⟩) (fun _ => hHeld) (fun hcl9 => ?rt9)
                case ht9 => (simp only [List.getElem_toArray, List.getElem_cons_succ, List.getElem_cons_zero]; first | (go_simp; with_reducible rfl) | (go_simp; done) | rfl)
                simp only [List.getElem_toArray, List.getElem_cons_succ, List.getElem_cons_zero, Act.put, List.setIfInBounds_toArray, List.set_cons_zero, List.set_cons_succ]
                -- 9: Op.load 26 (Operand.tmp 125)
                refine' anyZ_take (i := 9) (v := _) rfl (by rfl) (by kernel_rfl) (by kernel_rfl) (by kernel_rfl) hcl9 16 (by kernel_rfl) (by kernel_rfl) (fun _ _ _ h => h) (Or.inl ⟨by rfl, fun w hSw => ?ht10⟩) hHeld (fun hcl10 => ?rt10)
                case ht10 => (simp only [List.getElem_toArray, List.getElem_cons_succ, List.getElem_cons_zero]; obtain ⟨hS1, hS2⟩ := hSw; first | (go_simp; with_reducible rfl) | (go_simp; done) | rfl)
                simp only [List.getElem_toArray, List.getElem_cons_succ, List.getElem_cons_zero, Act.put, List.setIfInBounds_toArray, List.set_cons_zero, List.set_cons_succ]
                -- 10: Op.move (Operand.tmp 0)
                refine' anyZ_pure (i := 10) (v := _) rfl (by rfl) (by kernel_rfl) (by kernel_rfl) (by kernel_rfl) hcl10 (fun _ _ _ h => h) (Or.inl ⟨by rfl, fun w _ => ?ht11⟩) (fun _ => hHeld) (fun hcl11 => ?rt11)
                case ht11 => (simp only [List.getElem_toArray, List.getElem_cons_succ, List.getElem_cons_zero]; first | (go_simp; with_reducible rfl) | (go_simp; done) | rfl)
                simp only [List.getElem_toArray, List.getElem_cons_succ, List.getElem_cons_zero, Act.put, List.setIfInBounds_toArray, List.set_cons_zero, List.set_cons_succ]
                -- 11: Op.move (Operand.tmp 10)
                refine' anyZ_pure (i := 11) (v := _) rfl (by rfl) (by kernel_rfl) (by kernel_rfl) (by kernel_rfl) hcl11 (fun _ _ _ h => h) (Or.inl ⟨by rfl, fun w _ => ?ht12⟩) (fun _ => hHeld) (fun hcl12 => ?rt12)
                case ht12 => (simp only [List.getElem_toArray, List.getElem_cons_succ, List.getElem_cons_zero]; first | (go_simp; with_reducible rfl) | (go_simp; done) | rfl)
                simp only [List.getElem_toArray, List.getElem_cons_succ, List.getElem_cons_zero, Act.put, List.setIfInBounds_toArray, List.set_cons_zero, List.set_cons_succ]
                -- 12: Op.indexAddr 27 (Operand.tmp 127) (Operand.tmp 128)
                refine' anyZ_pure (i := 12) (v := _) rfl (by rfl) (by kernel_rfl) (by kernel_rfl) (by kernel_rfl) hcl12 (fun _ _ _ h => h) (Or.inl ⟨by rfl, fun w _ => ?ht13⟩) (fun _ => hHeld) (fun hcl13 => ?rt13)
                case ht13 => (simp only [List.getElem_toArray, List.getElem_cons_succ, List.getElem_cons_zero]; first | (go_simp; with_reducible rfl) | (go_simp; done) | rfl)
                simp only [List.getElem_toArray, List.getElem_cons_succ, List.getElem_cons_zero, Act.put, List.setIfInBounds_toArray, List.set_cons_zero, List.set_cons_succ]
                -- 13: Op.load 26 (Operand.tmp 129)
                refine' anyZ_take (i := 13) (v := _) rfl (by rfl) (by kernel_rfl) (by kernel_rfl) (by kernel_rfl) hcl13 16 (by kernel_rfl) (by kernel_rfl) (fun _ _ _ h => h) (Or.inl ⟨by rfl, fun w hSw => ?ht14⟩) hHeld (fun hcl14 => ?rt14)
                case ht14 => (simp only [List.getElem_toArray, List.getElem_cons_succ, List.getElem_cons_zero]; obtain ⟨hS1, hS2⟩ := hSw; first | (go_simp; with_reducible rfl) | (go_simp; done) | rfl)
                simp only [List.getElem_toArray, List.getElem_cons_succ, List.getElem_cons_zero, Act.put, List.setIfInBounds_toArray, List.set_cons_zero, List.set_cons_succ]
                clear hHeld
                refine anyZ_chain_at (by kernel_rfl) ?_
                simp only [List.drop_succ_cons, List.drop_zero]
                go_wp2_with fail
                go_roundw
                case rel => exact ⟨q + 1, _, by omega, by omega, by first | rfl | go_num | (congr 1; omega), Lib.hid ⟨HZ.out, HROW6.out, HON6.out.drew⟩⟩
                case measure => (simp [intOf]; try omega)
            · have d1 : decide ((q : Int) < (b : Int)) = false := decide_eq_false (by omega)
              have d1n : decide (q < b) = false := decide_eq_false hle
              have HZ : Hid (e = D3) := Lib.hid (by rw [← HSC.out, su_end hle])
              clear HSC
              go_wp2_with fail
              go_roundw
              case rel => first | exact ⟨I, s + 1, D3, by omega, by omega, by omega, rfl, by first | rfl | go_num | (congr 1; omega), Lib.hid ⟨HQ5.out, by rw [← HZ.out]; exact HRW.out, HOW.out⟩⟩ | ((repeat apply Exists.intro); exact ⟨⟨I, s + 1, D3, by omega, by omega, by omega, rfl, by first | rfl | go_num | (congr 1; omega), Lib.hid ⟨HQ5.out, by rw [← HZ.out]; exact HRW.out, HOW.out⟩⟩, rfl⟩)
              case measure => (simp [intOf]; try omega)
        · have e4 : decide ((2 : Int) ≤ (M : Int)) = false := decide_eq_false (by omega)
          have e4n : decide (2 ≤ M) = false := decide_eq_false h2
          have HZ : Hid (D2 = D3) := Lib.hid (by rw [← HD3.out]; unfold fixUp; rw [if_neg (by omega)])
          clear hM
          go_wp2_with fail
          go_roundw
          case rel => first | exact ⟨I, s + 1, D3, by omega, by omega, by omega, rfl, by first | rfl | go_num | (congr 1; omega), Lib.hid ⟨HQ5.out, by rw [← HZ.out]; exact HROW3.out, HON3.out⟩⟩ | ((repeat apply Exists.intro); exact ⟨⟨I, s + 1, D3, by omega, by omega, by omega, rfl, by first | rfl | go_num | (congr 1; omega), Lib.hid ⟨HQ5.out, by rw [← HZ.out]; exact HROW3.out, HON3.out⟩⟩, rfl⟩)
          case measure => (simp [intOf]; try omega)
    · have e1 : decide ((s : Int) < 5) = false := decide_eq_false (by omega)
      have e1n : decide (s < 5) = false := decide_eq_false hs
      have hq := hin.out.1
      rw [show 5 - s = 0 by omega] at hq
      obtain ⟨q1, q2⟩ := Prod.mk.inj (show (d', false) = (P1, P2) from hq)
      have Q1 := Lib.hid q1
      have Q2 := Lib.hid q2
      clear hq q1 q2
      go_wp2_with fail
      go_ret
      exact ⟨by rw [← Q2.out]; rfl, by rw [← Q1.out]; exact hin.out.2.1, hin.out.2.2⟩
end Go.Proofs.Ytnbncjebmlicgaa
