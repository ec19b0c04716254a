/- Walk: partitionEqualOrdered. -/
import Derived.Test.YtnbncjebmlicgaaPreC
namespace Go.Proofs.Ytnbncjebmlicgaa
open Go.RowKit Go.Sort

set_option linter.unusedSimpArgs false in
set_option maxRecDepth 20000 in
set_option maxHeartbeats 6400000 in
theorem srtpeq_any (B g n c a b p : Nat) (d : Array Nat) (w : World) (h : SRow B w g n c d) (hap : a ≤ p) (hpb : p < b) (hbn : b ≤ n) (hn : n ≤ 1000000000) :
    Calls Try.prog 85 #[.slice (some ⟨g, 0, none⟩) n c, .int .i64 a, .int .i64 b, .int .i64 p] w fun e w' => e = .returned (.int .i64 (partitionEqual ltN d a b p).1) ∧ SRow B w' g n c (partitionEqual ltN d a b p).2 ∧ Only w w' (fun q => q = g) := by
  obtain ⟨P1, P2, hR⟩ : ∃ P1 P2, partitionEqual ltN d a b p = (P1, P2) := ⟨_, _, rfl⟩
  rw [hR]
  obtain ⟨D, hD⟩ : ∃ D, D = swp d a p := ⟨_, rfl⟩
  obtain ⟨pv, hpv⟩ : ∃ pv, D[a]! = pv := ⟨_, rfl⟩
  obtain ⟨jb, hjb⟩ : ∃ jb, jb = b - 1 := ⟨_, rfl⟩
  have HP : Hid (partEqLoop ltN a (a + 1) jb D = (P1, P2)) := Lib.hid (by rw [← hR, hD, hjb]; rfl)
  have HPV4 := Lib.hid hpv
  have HROW := Lib.hid h
  have HON := Lib.hid (Only.refl w (fun q => q = g))
  have hsz : Hid (d.size = n) := Lib.hid h.size.1
  have hjbi : (b : Int) - 1 = (jb : Int) := by omega
  have hjb2 : jb < b := by omega
  have hjb3 : a ≤ jb := by omega
  have HD := Lib.hid hD
  clear hpv h hR hD hjb
  go_enter Try.func85, Try.ntmps85
  go_upto_region 1 with fail
  go_cut [] from 11 to 24 (fun w' => Hid (SRow B w' g n c (swp d a p) ∧ Only w w' (fun q => q = g)))
  case first =>
    by_cases hij : a = p
    · subst hij
      have aa : (0 : Int) ≤ (a : Int) := by omega
      have ab : (a : Int) < (n : Int) := by omega
      have ac : a < n := by omega
      have ae : IntKind.i64.wrap (a : Int) = (a : Int) := by rw [IntKind.wrap_i64]; omega
      obtain ⟨hk1, hf1⟩ := HROW.out.get (i := a) (by omega)
      obtain ⟨hk0, hf0⟩ := HROW.out.get (i := a) (by omega)
      have HRB := Lib.hid (HROW.out.swp (i := a) (j := a) (by omega) (by omega))
      have HOB := Lib.hid (one_only HON.out (swp_only w g a a (.int .u64 d[a]!) (.int .u64 d[a]!)))
      obtain ⟨asx, hasx⟩ : ∃ x, x = d[a]! := ⟨_, rfl⟩
      rw [← hasx] at hk1 HRB HOB hk0
      clear hasx
      clear HROW HON
      have hd1as : w.drew.cell? ⟨g, a, none⟩ = some (.int .u64 asx) := hk1
      have hd0as : w.drew.cell? ⟨g, a, none⟩ = some (.int .u64 asx) := hk0
      refine region_anyZ (z := 12) (S := fun w' => w'.cell? ⟨g, a, none⟩ = some (.int .u64 asx) ∧ w'.cell? ⟨g, a, none⟩ = some (.int .u64 asx)) (by kernel_rfl) ?_
      refine anyZ_begin (fun hcl0 => ?_)
      refine anyZ_held (by exact ⟨hd1as, hd0as⟩) (fun hHeld => ?_)
      -- 0: Op.move (Operand.tmp 0)
      refine' anyZ_pure (i := 0) (v := _) rfl (by rfl) (by kernel_rfl) (by kernel_rfl) (by kernel_rfl) hcl0 (fun _ _ _ h => h) (Or.inl ⟨by rfl, fun w _ => ?has1⟩) (fun _ => hHeld) (fun hcl1 => ?ras1)
      case has1 => (simp only [List.getElem_toArray, List.getElem_cons_zero]; first | (go_simp; with_reducible rfl) | (go_simp; done) | rfl)
      simp only [List.getElem_toArray, List.getElem_cons_zero, Act.put, List.setIfInBounds_toArray, List.set_cons_zero, List.set_cons_succ]
      -- 1: Op.move (Operand.tmp 1)
      refine' anyZ_pure (i := 1) (v := _) rfl (by rfl) (by kernel_rfl) (by kernel_rfl) (by kernel_rfl) hcl1 (fun _ _ _ h => h) (Or.inl ⟨by rfl, fun w _ => ?has2⟩) (fun _ => hHeld) (fun hcl2 => ?ras2)
      case has2 => (simp only [List.getElem_toArray, List.getElem_cons_succ, List.getElem_cons_zero]; first | (go_simp; with_reducible rfl) | (go_simp; done) | rfl)
      simp only [List.getElem_toArray, List.getElem_cons_succ, List.getElem_cons_zero, Act.put, List.setIfInBounds_toArray, List.set_cons_zero, List.set_cons_succ]
      -- 2: Op.move (Operand.tmp 0)
      refine' anyZ_pure (i := 2) (v := _) rfl (by rfl) (by kernel_rfl) (by kernel_rfl) (by kernel_rfl) hcl2 (fun _ _ _ h => h) (Or.inl ⟨by rfl, fun w _ => ?has3⟩) (fun _ => hHeld) (fun hcl3 => ?ras3)
      case has3 => (simp only [List.getElem_toArray, List.getElem_cons_succ, List.getElem_cons_zero]; first | (go_simp; with_reducible rfl) | (go_simp; done) | rfl)
      simp only [List.getElem_toArray, List.getElem_cons_succ, List.getElem_cons_zero, Act.put, List.setIfInBounds_toArray, List.set_cons_zero, List.set_cons_succ]
      -- 3: Op.move (Operand.tmp 3)
      refine' anyZ_pure (i := 3) (v := _) rfl (by rfl) (by kernel_rfl) (by kernel_rfl) (by kernel_rfl) hcl3 (fun _ _ _ h => h) (Or.inl ⟨by rfl, fun w _ => ?has4⟩) (fun _ => hHeld) (fun hcl4 => ?ras4)
      case has4 => (simp only [List.getElem_toArray, List.getElem_cons_succ, List.getElem_cons_zero]; first | (go_simp; with_reducible rfl) | (go_simp; done) | rfl)
      simp only [List.getElem_toArray, List.getElem_cons_succ, List.getElem_cons_zero, Act.put, List.setIfInBounds_toArray, List.set_cons_zero, List.set_cons_succ]
      -- 4: Op.move (Operand.tmp 0)
      refine' anyZ_pure (i := 4) (v := _) rfl (by rfl) (by kernel_rfl) (by kernel_rfl) (by kernel_rfl) hcl4 (fun _ _ _ h => h) (Or.inl ⟨by rfl, fun w _ => ?has5⟩) (fun _ => hHeld) (fun hcl5 => ?ras5)
      case has5 => (simp only [List.getElem_toArray, List.getElem_cons_succ, List.getElem_cons_zero]; first | (go_simp; with_reducible rfl) | (go_simp; done) | rfl)
      simp only [List.getElem_toArray, List.getElem_cons_succ, List.getElem_cons_zero, Act.put, List.setIfInBounds_toArray, List.set_cons_zero, List.set_cons_succ]
      -- 5: Op.move (Operand.tmp 3)
      refine' anyZ_pure (i := 5) (v := _) rfl (by rfl) (by kernel_rfl) (by kernel_rfl) (by kernel_rfl) hcl5 (fun _ _ _ h => h) (Or.inl ⟨by rfl, fun w _ => ?has6⟩) (fun _ => hHeld) (fun hcl6 => ?ras6)
      case has6 => (simp only [List.getElem_toArray, List.getElem_cons_succ, List.getElem_cons_zero]; first | (go_simp; with_reducible rfl) | (go_simp; done) | rfl)
      simp only [List.getElem_toArray, List.getElem_cons_succ, List.getElem_cons_zero, Act.put, List.setIfInBounds_toArray, List.set_cons_zero, List.set_cons_succ]
      -- 6: Op.indexAddr 27 (Operand.tmp 15) (Operand.tmp 16)
      refine' anyZ_pure (i := 6) (v := _) rfl (by rfl) (by kernel_rfl) (by kernel_rfl) (by kernel_rfl) hcl6 (fun _ _ _ h => h) (Or.inl ⟨by rfl, fun w _ => ?has7⟩) (fun _ => hHeld) (fun hcl7 => ?ras7)
      case has7 => (simp only [List.getElem_toArray, List.getElem_cons_succ, List.getElem_cons_zero]; first | (go_simp; with_reducible rfl) | (go_simp; done) | rfl)
      simp only [List.getElem_toArray, List.getElem_cons_succ, List.getElem_cons_zero, Act.put, List.setIfInBounds_toArray, List.set_cons_zero, List.set_cons_succ]
      -- 7: Op.load 26 (Operand.tmp 17)
      refine' anyZ_take (i := 7) (v := _) rfl (by rfl) (by kernel_rfl) (by kernel_rfl) (by kernel_rfl) hcl7 14 (by kernel_rfl) (by kernel_rfl) (fun _ _ _ h => h) (Or.inl ⟨by rfl, fun w hSw => ?has8⟩) hHeld (fun hcl8 => ?ras8)
      case has8 => (simp only [List.getElem_toArray, List.getElem_cons_succ, List.getElem_cons_zero]; obtain ⟨hS1, hS2⟩ := hSw; first | (go_simp; with_reducible rfl) | (go_simp; done) | rfl)
      simp only [List.getElem_toArray, List.getElem_cons_succ, List.getElem_cons_zero, Act.put, List.setIfInBounds_toArray, List.set_cons_zero, List.set_cons_succ]
      -- 8: Op.move (Operand.tmp 0)
      refine' anyZ_pure (i := 8) (v := _) rfl (by rfl) (by kernel_rfl) (by kernel_rfl) (by kernel_rfl) hcl8 (fun _ _ _ h => h) (Or.inl ⟨by rfl, fun w _ => ?has9⟩) (fun _ => hHeld) (fun hcl9 => ?ras9)
      case has9 => (simp only [List.getElem_toArray, List.getElem_cons_succ, List.getElem_cons_zero]; first | (go_simp; with_reducible rfl) | (go_simp; done) | rfl)
      simp only [List.getElem_toArray, List.getElem_cons_succ, List.getElem_cons_zero, Act.put, List.setIfInBounds_toArray, List.set_cons_zero, List.set_cons_succ]
      -- 9: Op.move (Operand.tmp 1)
      refine' anyZ_pure (i := 9) (v := _) rfl (by rfl) (by kernel_rfl) (by kernel_rfl) (by kernel_rfl) hcl9 (fun _ _ _ h => h) (Or.inl ⟨by rfl, fun w _ => ?has10⟩) (fun _ => hHeld) (fun hcl10 => ?ras10)
      case has10 => (simp only [List.getElem_toArray, List.getElem_cons_succ, List.getElem_cons_zero]; first | (go_simp; with_reducible rfl) | (go_simp; done) | rfl)
      simp only [List.getElem_toArray, List.getElem_cons_succ, List.getElem_cons_zero, Act.put, List.setIfInBounds_toArray, List.set_cons_zero, List.set_cons_succ]
      -- 10: Op.indexAddr 27 (Operand.tmp 19) (Operand.tmp 20)
      refine' anyZ_pure (i := 10) (v := _) rfl (by rfl) (by kernel_rfl) (by kernel_rfl) (by kernel_rfl) hcl10 (fun _ _ _ h => h) (Or.inl ⟨by rfl, fun w _ => ?has11⟩) (fun _ => hHeld) (fun hcl11 => ?ras11)
      case has11 => (simp only [List.getElem_toArray, List.getElem_cons_succ, List.getElem_cons_zero]; first | (go_simp; with_reducible rfl) | (go_simp; done) | rfl)
      simp only [List.getElem_toArray, List.getElem_cons_succ, List.getElem_cons_zero, Act.put, List.setIfInBounds_toArray, List.set_cons_zero, List.set_cons_succ]
      -- 11: Op.load 26 (Operand.tmp 21)
      refine' anyZ_take (i := 11) (v := _) rfl (by rfl) (by kernel_rfl) (by kernel_rfl) (by kernel_rfl) hcl11 14 (by kernel_rfl) (by kernel_rfl) (fun _ _ _ h => h) (Or.inl ⟨by rfl, fun w hSw => ?has12⟩) hHeld (fun hcl12 => ?ras12)
      case has12 => (simp only [List.getElem_toArray, List.getElem_cons_succ, List.getElem_cons_zero]; obtain ⟨hS1, hS2⟩ := hSw; first | (go_simp; with_reducible rfl) | (go_simp; done) | rfl)
      simp only [List.getElem_toArray, List.getElem_cons_succ, List.getElem_cons_zero, Act.put, List.setIfInBounds_toArray, List.set_cons_zero, List.set_cons_succ]
      clear hHeld
      refine anyZ_chain_at (by kernel_rfl) ?_
      simp only [List.drop_succ_cons, List.drop_zero]
      go_wp2_with fail
      go_meet
      case rel => exact Lib.hid ⟨HRB.out, HOB.out.drew⟩
    · have hne : ¬ a = p := hij
      have hne2 : ¬ p = a := fun h => hij h.symm
      have aa : (0 : Int) ≤ (a : Int) := by omega
      have ab : (a : Int) < (n : Int) := by omega
      have ac : a < n := by omega
      have ae : IntKind.i64.wrap (a : Int) = (a : Int) := by rw [IntKind.wrap_i64]; omega
      have pa : (0 : Int) ≤ (p : Int) := by omega
      have pb : (p : Int) < (n : Int) := by omega
      have pc : p < n := by omega
      have pe : IntKind.i64.wrap (p : Int) = (p : Int) := by rw [IntKind.wrap_i64]; omega
      obtain ⟨hk1, hf1⟩ := HROW.out.get (i := a) (by omega)
      obtain ⟨hk0, hf0⟩ := HROW.out.get (i := p) (by omega)
      have HRB := Lib.hid (HROW.out.swp (i := a) (j := p) (by omega) (by omega))
      have HOB := Lib.hid (one_only HON.out (swp_only w g a p (.int .u64 d[p]!) (.int .u64 d[a]!)))
      obtain ⟨adx, hadx⟩ : ∃ x, x = d[a]! := ⟨_, rfl⟩
      rw [← hadx] at hk1 HRB HOB
      clear hadx
      obtain ⟨ady, hady⟩ : ∃ x, x = d[p]! := ⟨_, rfl⟩
      rw [← hady] at hk0 HRB HOB
      clear hady
      clear HROW HON
      have hd1ad : w.drew.cell? ⟨g, a, none⟩ = some (.int .u64 adx) := hk1
      have hd0ad : w.drew.cell? ⟨g, p, none⟩ = some (.int .u64 ady) := hk0
      refine region_anyZ (z := 12) (S := fun w' => w'.cell? ⟨g, a, none⟩ = some (.int .u64 adx) ∧ w'.cell? ⟨g, p, none⟩ = some (.int .u64 ady)) (by kernel_rfl) ?_
      refine anyZ_begin (fun hcl0 => ?_)
      refine anyZ_held (by exact ⟨hd1ad, hd0ad⟩) (fun hHeld => ?_)
      -- 0: Op.move (Operand.tmp 0)
      refine' anyZ_pure (i := 0) (v := _) rfl (by rfl) (by kernel_rfl) (by kernel_rfl) (by kernel_rfl) hcl0 (fun _ _ _ h => h) (Or.inl ⟨by rfl, fun w _ => ?had1⟩) (fun _ => hHeld) (fun hcl1 => ?rad1)
      case had1 => (simp only [List.getElem_toArray, List.getElem_cons_zero]; first | (go_simp; with_reducible rfl) | (go_simp; done) | rfl)
      simp only [List.getElem_toArray, List.getElem_cons_zero, Act.put, List.setIfInBounds_toArray, List.set_cons_zero, List.set_cons_succ]
      -- 1: Op.move (Operand.tmp 1)
      refine' anyZ_pure (i := 1) (v := _) rfl (by rfl) (by kernel_rfl) (by kernel_rfl) (by kernel_rfl) hcl1 (fun _ _ _ h => h) (Or.inl ⟨by rfl, fun w _ => ?had2⟩) (fun _ => hHeld) (fun hcl2 => ?rad2)
      case had2 => (simp only [List.getElem_toArray, List.getElem_cons_succ, List.getElem_cons_zero]; first | (go_simp; with_reducible rfl) | (go_simp; done) | rfl)
      simp only [List.getElem_toArray, List.getElem_cons_succ, List.getElem_cons_zero, Act.put, List.setIfInBounds_toArray, List.set_cons_zero, List.set_cons_succ]
      -- 2: Op.move (Operand.tmp 0)
      refine' anyZ_pure (i := 2) (v := _) rfl (by rfl) (by kernel_rfl) (by kernel_rfl) (by kernel_rfl) hcl2 (fun _ _ _ h => h) (Or.inl ⟨by rfl, fun w _ => ?had3⟩) (fun _ => hHeld) (fun hcl3 => ?rad3)
      case had3 => (simp only [List.getElem_toArray, List.getElem_cons_succ, List.getElem_cons_zero]; first | (go_simp; with_reducible rfl) | (go_simp; done) | rfl)
      simp only [List.getElem_toArray, List.getElem_cons_succ, List.getElem_cons_zero, Act.put, List.setIfInBounds_toArray, List.set_cons_zero, List.set_cons_succ]
      -- 3: Op.move (Operand.tmp 3)
      refine' anyZ_pure (i := 3) (v := _) rfl (by rfl) (by kernel_rfl) (by kernel_rfl) (by kernel_rfl) hcl3 (fun _ _ _ h => h) (Or.inl ⟨by rfl, fun w _ => ?had4⟩) (fun _ => hHeld) (fun hcl4 => ?rad4)
      case had4 => (simp only [List.getElem_toArray, List.getElem_cons_succ, List.getElem_cons_zero]; first | (go_simp; with_reducible rfl) | (go_simp; done) | rfl)
      simp only [List.getElem_toArray, List.getElem_cons_succ, List.getElem_cons_zero, Act.put, List.setIfInBounds_toArray, List.set_cons_zero, List.set_cons_succ]
      -- 4: Op.move (Operand.tmp 0)
      refine' anyZ_pure (i := 4) (v := _) rfl (by rfl) (by kernel_rfl) (by kernel_rfl) (by kernel_rfl) hcl4 (fun _ _ _ h => h) (Or.inl ⟨by rfl, fun w _ => ?had5⟩) (fun _ => hHeld) (fun hcl5 => ?rad5)
      case had5 => (simp only [List.getElem_toArray, List.getElem_cons_succ, List.getElem_cons_zero]; first | (go_simp; with_reducible rfl) | (go_simp; done) | rfl)
      simp only [List.getElem_toArray, List.getElem_cons_succ, List.getElem_cons_zero, Act.put, List.setIfInBounds_toArray, List.set_cons_zero, List.set_cons_succ]
      -- 5: Op.move (Operand.tmp 3)
      refine' anyZ_pure (i := 5) (v := _) rfl (by rfl) (by kernel_rfl) (by kernel_rfl) (by kernel_rfl) hcl5 (fun _ _ _ h => h) (Or.inl ⟨by rfl, fun w _ => ?had6⟩) (fun _ => hHeld) (fun hcl6 => ?rad6)
      case had6 => (simp only [List.getElem_toArray, List.getElem_cons_succ, List.getElem_cons_zero]; first | (go_simp; with_reducible rfl) | (go_simp; done) | rfl)
      simp only [List.getElem_toArray, List.getElem_cons_succ, List.getElem_cons_zero, Act.put, List.setIfInBounds_toArray, List.set_cons_zero, List.set_cons_succ]
      -- 6: Op.indexAddr 27 (Operand.tmp 15) (Operand.tmp 16)
      refine' anyZ_pure (i := 6) (v := _) rfl (by rfl) (by kernel_rfl) (by kernel_rfl) (by kernel_rfl) hcl6 (fun _ _ _ h => h) (Or.inl ⟨by rfl, fun w _ => ?had7⟩) (fun _ => hHeld) (fun hcl7 => ?rad7)
      case had7 => (simp only [List.getElem_toArray, List.getElem_cons_succ, List.getElem_cons_zero]; first | (go_simp; with_reducible rfl) | (go_simp; done) | rfl)
      simp only [List.getElem_toArray, List.getElem_cons_succ, List.getElem_cons_zero, Act.put, List.setIfInBounds_toArray, List.set_cons_zero, List.set_cons_succ]
      -- 7: Op.load 26 (Operand.tmp 17)
      refine' anyZ_take (i := 7) (v := _) rfl (by rfl) (by kernel_rfl) (by kernel_rfl) (by kernel_rfl) hcl7 14 (by kernel_rfl) (by kernel_rfl) (fun _ _ _ h => h) (Or.inl ⟨by rfl, fun w hSw => ?had8⟩) hHeld (fun hcl8 => ?rad8)
      case had8 => (simp only [List.getElem_toArray, List.getElem_cons_succ, List.getElem_cons_zero]; obtain ⟨hS1, hS2⟩ := hSw; first | (go_simp; with_reducible rfl) | (go_simp; done) | rfl)
      simp only [List.getElem_toArray, List.getElem_cons_succ, List.getElem_cons_zero, Act.put, List.setIfInBounds_toArray, List.set_cons_zero, List.set_cons_succ]
      -- 8: Op.move (Operand.tmp 0)
      refine' anyZ_pure (i := 8) (v := _) rfl (by rfl) (by kernel_rfl) (by kernel_rfl) (by kernel_rfl) hcl8 (fun _ _ _ h => h) (Or.inl ⟨by rfl, fun w _ => ?had9⟩) (fun _ => hHeld) (fun hcl9 => ?rad9)
      case had9 => (simp only [List.getElem_toArray, List.getElem_cons_succ, List.getElem_cons_zero]; first | (go_simp; with_reducible rfl) | (go_simp; done) | rfl)
      simp only [List.getElem_toArray, List.getElem_cons_succ, List.getElem_cons_zero, Act.put, List.setIfInBounds_toArray, List.set_cons_zero, List.set_cons_succ]
      -- 9: Op.move (Operand.tmp 1)
      refine' anyZ_pure (i := 9) (v := _) rfl (by rfl) (by kernel_rfl) (by kernel_rfl) (by kernel_rfl) hcl9 (fun _ _ _ h => h) (Or.inl ⟨by rfl, fun w _ => ?had10⟩) (fun _ => hHeld) (fun hcl10 => ?rad10)
      case had10 => (simp only [List.getElem_toArray, List.getElem_cons_succ, List.getElem_cons_zero]; first | (go_simp; with_reducible rfl) | (go_simp; done) | rfl)
      simp only [List.getElem_toArray, List.getElem_cons_succ, List.getElem_cons_zero, Act.put, List.setIfInBounds_toArray, List.set_cons_zero, List.set_cons_succ]
      -- 10: Op.indexAddr 27 (Operand.tmp 19) (Operand.tmp 20)
      refine' anyZ_pure (i := 10) (v := _) rfl (by rfl) (by kernel_rfl) (by kernel_rfl) (by kernel_rfl) hcl10 (fun _ _ _ h => h) (Or.inl ⟨by rfl, fun w _ => ?had11⟩) (fun _ => hHeld) (fun hcl11 => ?rad11)
      case had11 => (simp only [List.getElem_toArray, List.getElem_cons_succ, List.getElem_cons_zero]; first | (go_simp; with_reducible rfl) | (go_simp; done) | rfl)
      simp only [List.getElem_toArray, List.getElem_cons_succ, List.getElem_cons_zero, Act.put, List.setIfInBounds_toArray, List.set_cons_zero, List.set_cons_succ]
      -- 11: Op.load 26 (Operand.tmp 21)
      refine' anyZ_take (i := 11) (v := _) rfl (by rfl) (by kernel_rfl) (by kernel_rfl) (by kernel_rfl) hcl11 14 (by kernel_rfl) (by kernel_rfl) (fun _ _ _ h => h) (Or.inl ⟨by rfl, fun w hSw => ?had12⟩) hHeld (fun hcl12 => ?rad12)
      case had12 => (simp only [List.getElem_toArray, List.getElem_cons_succ, List.getElem_cons_zero]; obtain ⟨hS1, hS2⟩ := hSw; first | (go_simp; with_reducible rfl) | (go_simp; done) | rfl)
      simp only [List.getElem_toArray, List.getElem_cons_succ, List.getElem_cons_zero, Act.put, List.setIfInBounds_toArray, List.set_cons_zero, List.set_cons_succ]
      clear hHeld
      refine anyZ_chain_at (by kernel_rfl) ?_
      simp only [List.drop_succ_cons, List.drop_zero]
      go_wp2_with fail
      go_meet
      case rel => exact Lib.hid ⟨HRB.out, HOB.out.drew⟩
  case rest =>
  rename World => w1
  have HROW1 := Lib.hid hcut.out.1
  have HON1 := Lib.hid hcut.out.2
  clear hcut HROW HON
  rw [← HD.out] at HROW1
  go_upto_block 0 with fail
  go_cut [9, 10] from 29 to 82 (fun t _ w' => t = .int .i64 (P1 : Nat) ∧ Hid (SRow B w' g n c P2 ∧ Only w w' (fun q => q = g)))
  case first =>
    go_wp2_with fail
    go_loopw [9, 10] (fun i j wr => ∃ (u v : Nat) (d' : Array Nat), a < u ∧ u ≤ v + 1 ∧ v < b ∧ i = .int .i64 u ∧ j = .int .i64 v ∧ Hid (partEqLoop ltN a u v d' = (P1, P2) ∧ d'[a]! = pv ∧ SRow B wr g n c d' ∧ Only w wr (fun q => q = g))) (fun i j _ => (intOf j + 2 - intOf i).toNat)
    case atStart => exact ⟨a + 1, jb, D, by omega, by omega, by omega, by first | rfl | (congr 1; omega), by first | rfl | (congr 1; omega), Lib.hid ⟨HP.out, HPV4.out, HROW1.out, HON1.out⟩⟩
    case round =>
      clear HP HPV4 HROW1 HON1
      obtain ⟨u, v, d', hu1, huv, hvb, rfl, rfl, hin⟩ := hrel
      have HQ := Lib.hid hin.out.1
      have HPV := Lib.hid hin.out.2.1
      have HROW := Lib.hid hin.out.2.2.1
      have HON := Lib.hid hin.out.2.2.2
      obtain ⟨I2, hI⟩ : ∃ I, scanUp (fun x => !ltN pv x) d' v u = I := ⟨_, rfl⟩
      obtain ⟨J2, hJ⟩ : ∃ J, scanDown (fun x => ltN pv x) d' I2 v = J := ⟨_, rfl⟩
      obtain ⟨t1, t2, t3, t4, t5⟩ := scans (q := fun x => ltN pv x) (fun x => (Bool.not_not (ltN pv x)).symm) hI hJ (by omega) (by omega)
      have HT5 := Lib.hid t5
      have HI := Lib.hid hI
      have HJ := Lib.hid hJ
      have HI0 := Lib.hid hI
      have HJ0 := Lib.hid hJ
      clear hin hI hJ t5
      go_upto_block 2 with fail
      go_cut [9] from 29 to 45 (fun t w' => t = .int .i64 (I2 : Nat) ∧ Hid (SRow B w' g n c d' ∧ Only w w' (fun q => q = g)))
      case first =>
        go_wp2_with fail
        go_loopw [9] (fun i ws => ∃ k : Nat, u ≤ k ∧ k ≤ v + 1 ∧ i = .int .i64 k ∧ Hid (scanUp (fun x => !ltN pv x) d' v k = I2 ∧ SRow B ws g n c d' ∧ Only w ws (fun q => q = g))) (fun i _ => v + 2 - (intOf i).toNat)
        case atStart => exact ⟨u, by omega, by omega, by first | rfl | (congr 1; omega), Lib.hid ⟨HI.out, HROW.out, HON.out⟩⟩
        case round =>
          clear HROW HON HI
          obtain ⟨k, hk1, hk2, rfl, hin⟩ := hrel
          have HSC := Lib.hid hin.out.1
          have HRW := Lib.hid hin.out.2.1
          have HOW := Lib.hid hin.out.2.2
          clear hin
          by_cases hle : k ≤ v
          · have d1 : decide ((k : Int) ≤ (v : Int)) = true := decide_eq_true (by omega)
            have d1n : decide (k ≤ v) = true := decide_eq_true hle
            have ka : (0 : Int) ≤ (k : Int) := by omega
            have kb : (k : Int) < (n : Int) := by omega
            have kc : k < n := by omega
            have ke : IntKind.i64.wrap (k : Int) = (k : Int) := by rw [IntKind.wrap_i64]; omega
            have aa : (0 : Int) ≤ (a : Int) := by omega
            have ab : (a : Int) < (n : Int) := by omega
            have ac : a < n := by omega
            have ae : IntKind.i64.wrap (a : Int) = (a : Int) := by rw [IntKind.wrap_i64]; omega
            obtain ⟨kk, fk⟩ := HRW.out.get (i := k) (by omega)
            obtain ⟨ka, fa⟩ := HRW.out.get (i := a) (by omega)
            rw [HPV.out] at ka
            obtain ⟨x, hx⟩ : ∃ x, x = d'[k]! := ⟨_, rfl⟩
            rw [← hx] at kk
            have HX := Lib.hid hx
            clear hx
            go_upto_region 3 with fail
            go_quiet ((go_at_call 84; with_reducible exact Calls.quiet_of_same (less_any pv x _)))
            have HRW2 : Hid (SRow B (wr.drewN nq) g n c d') := HRW
            have HOW2 := Lib.hid (HOW.out.drewN nq)
            clear HRW HOW kk fk ka fa
            cases hxy : ltN pv x
            · skip
              have HSC2 : Hid (scanUp (fun x => !ltN pv x) d' v (k + 1) = I2) := Lib.hid (by rw [← HSC.out, up_go (p := (fun x => !ltN pv x)) hle HX.out (by show (!ltN pv x) = true; rw [hxy]; rfl)])
              clear hxy HSC HX
              generalize wr.drewN nq = W2 at *
              go_wp2_with fail
              exact ⟨⟨k + 1, by omega, by omega, by go_num, Lib.hid ⟨HSC2.out, HRW2.out, HOW2.out⟩⟩, by simp [intOf]; omega⟩
            · skip
              have HKI : Hid (k = I2) := Lib.hid (by rw [← HSC.out, up_stop (p := (fun x => !ltN pv x)) HX.out (by show (!ltN pv x) = false; rw [hxy]; rfl)])
              clear hxy HSC HX
              generalize wr.drewN nq = W2 at *
              go_wp2_with fail
              go_meet
              case rel => exact ⟨by rw [HKI.out], Lib.hid ⟨HRW2.out, HOW2.out⟩⟩
          · have d1 : decide ((k : Int) ≤ (v : Int)) = false := decide_eq_false (by omega)
            have d1n : decide (k ≤ v) = false := decide_eq_false hle
            have HKI : Hid (k = I2) := Lib.hid (by rw [← HSC.out, up_end hle])
            go_upto_region 3 with fail
            go_quiet (fail)
            have HRW2 : Hid (SRow B (wr.drewN nq) g n c d') := HRW
            have HOW2 := Lib.hid (HOW.out.drewN nq)
            clear HRW HOW HSC
            generalize wr.drewN nq = W2 at *
            go_wp2_with fail
            go_meet
            case rel => exact ⟨by rw [HKI.out], Lib.hid ⟨HRW2.out, HOW2.out⟩⟩
      case rest =>
      rename World => w5
      obtain ⟨rfl, hcut2⟩ := hcut
      have HROW5 := Lib.hid hcut2.out.1
      have HON5 := Lib.hid hcut2.out.2
      clear hcut2 HROW HON HI
      go_upto_block 4 with fail
      go_cut [10] from 46 to 61 (fun t w' => t = .int .i64 (J2 : Nat) ∧ Hid (SRow B w' g n c d' ∧ Only w w' (fun q => q = g)))
      case first =>
        go_wp2_with fail
        go_loopw [10] (fun i ws => ∃ k : Nat, k ≤ v ∧ I2 ≤ k + 1 ∧ i = .int .i64 k ∧ Hid (scanDown (fun x => ltN pv x) d' I2 k = J2 ∧ SRow B ws g n c d' ∧ Only w ws (fun q => q = g))) (fun i _ => (intOf i).toNat)
        case atStart => exact ⟨v, by omega, by omega, by first | rfl | (congr 1; omega), Lib.hid ⟨HJ.out, HROW5.out, HON5.out⟩⟩
        case round =>
          clear HROW5 HON5 HJ
          obtain ⟨k, hk1, hk2, rfl, hin⟩ := hrel
          have HSC := Lib.hid hin.out.1
          have HRW := Lib.hid hin.out.2.1
          have HOW := Lib.hid hin.out.2.2
          clear hin
          by_cases hle : I2 ≤ k
          · have d1 : decide ((I2 : Int) ≤ (k : Int)) = true := decide_eq_true (by omega)
            have d1n : decide (I2 ≤ k) = true := decide_eq_true hle
            have ka : (0 : Int) ≤ (k : Int) := by omega
            have kb : (k : Int) < (n : Int) := by omega
            have kc : k < n := by omega
            have ke : IntKind.i64.wrap (k : Int) = (k : Int) := by rw [IntKind.wrap_i64]; omega
            have aa : (0 : Int) ≤ (a : Int) := by omega
            have ab : (a : Int) < (n : Int) := by omega
            have ac : a < n := by omega
            have ae : IntKind.i64.wrap (a : Int) = (a : Int) := by rw [IntKind.wrap_i64]; omega
            obtain ⟨kk, fk⟩ := HRW.out.get (i := k) (by omega)
            obtain ⟨ka, fa⟩ := HRW.out.get (i := a) (by omega)
            rw [HPV.out] at ka
            obtain ⟨x, hx⟩ : ∃ x, x = d'[k]! := ⟨_, rfl⟩
            rw [← hx] at kk
            have HX := Lib.hid hx
            clear hx
            go_upto_region 5 with fail
            go_quiet ((go_at_call 84; with_reducible exact Calls.quiet_of_same (less_any pv x _)))
            have HRW2 : Hid (SRow B (wr.drewN nq) g n c d') := HRW
            have HOW2 := Lib.hid (HOW.out.drewN nq)
            clear HRW HOW kk fk ka fa
            cases hxy : ltN pv x
            · skip
              have HKI : Hid (k = J2) := Lib.hid (by rw [← HSC.out, down_stop (p := (fun x => ltN pv x)) HX.out (by show (ltN pv x) = false; rw [hxy])])
              clear hxy HSC HX
              generalize wr.drewN nq = W2 at *
              go_wp2_with fail
              go_meet
              case rel => exact ⟨by rw [HKI.out], Lib.hid ⟨HRW2.out, HOW2.out⟩⟩
            · skip
              obtain ⟨k, rfl⟩ : ∃ m, k = m + 1 := ⟨k - 1, by omega⟩
              have HSC2 : Hid (scanDown (fun x => ltN pv x) d' I2 k = J2) := Lib.hid (by rw [← HSC.out, down_go (p := (fun x => ltN pv x)) hle HX.out (by show (ltN pv x) = true; rw [hxy])])
              have hk1' : ((k + 1 : Nat) : Int) - 1 = (k : Int) := by omega
              clear hxy HSC HX
              generalize wr.drewN nq = W2 at *
              go_wp2_with fail
              exact ⟨⟨k, by omega, by omega, by first | rfl | (congr 1; omega), Lib.hid ⟨HSC2.out, HRW2.out, HOW2.out⟩⟩, by simp [intOf]; try omega⟩
          · have d1 : decide ((I2 : Int) ≤ (k : Int)) = false := decide_eq_false (by omega)
            have d1n : decide (I2 ≤ k) = false := decide_eq_false hle
            have HKI : Hid (k = J2) := Lib.hid (by rw [← HSC.out, down_end hle])
            go_upto_region 5 with fail
            go_quiet (fail)
            have HRW2 : Hid (SRow B (wr.drewN nq) g n c d') := HRW
            have HOW2 := Lib.hid (HOW.out.drewN nq)
            clear HRW HOW HSC
            generalize wr.drewN nq = W2 at *
            go_wp2_with fail
            go_meet
            case rel => exact ⟨by rw [HKI.out], Lib.hid ⟨HRW2.out, HOW2.out⟩⟩
      case rest =>
      rename World => w6
      obtain ⟨rfl, hcut2⟩ := hcut
      have HROW6 := Lib.hid hcut2.out.1
      have HON6 := Lib.hid hcut2.out.2
      clear hcut2 HROW5 HON5 HJ
      by_cases hJ2 : J2 < I2
      · have d1 : decide ((J2 : Int) < (I2 : Int)) = true := decide_eq_true (by omega)
        have d1n : decide (J2 < I2) = true := decide_eq_true hJ2
        have hq := HQ.out
        rw [parteq_stop HPV.out HI0.out HJ0.out hJ2] at hq
        obtain ⟨e1, e2⟩ := Prod.mk.inj hq
        have E1 := Lib.hid e1
        have E2 := Lib.hid e2
        clear HQ hq e1 e2
        go_wp2_with fail
        go_meet
        case rel => exact ⟨by rw [E1.out], Lib.hid ⟨by rw [← E2.out]; exact HROW6.out, HON6.out⟩⟩
      · have d1 : decide ((J2 : Int) < (I2 : Int)) = false := decide_eq_false (by omega)
        have d1n : decide (J2 < I2) = false := decide_eq_false hJ2
        have hlt := HT5.out hJ2
        have HQ2 : Hid (partEqLoop ltN a (I2 + 1) (J2 - 1) (swp d' I2 J2) = (P1, P2)) := Lib.hid (by rw [← HQ.out]; exact (parteq_go HPV.out HI0.out HJ0.out hJ2).symm)
        have HPV2 : Hid ((swp d' I2 J2)[a]! = pv) := Lib.hid (by rw [swp_other d' I2 J2 a (by omega) (by omega)]; exact HPV.out)
        clear HQ HPV HI0 HJ0 HT5
        go_upto_region 8 with fail
        go_cut [] from 65 to 78 (fun w' => Hid (SRow B w' g n c (swp d' I2 J2) ∧ Only w w' (fun q => q = g)))
        case first =>
          have hne : ¬ I2 = J2 := by omega
          have hne2 : ¬ J2 = I2 := by omega
          have I2a : (0 : Int) ≤ (I2 : Int) := by omega
          have I2b : (I2 : Int) < (n : Int) := by omega
          have I2c : I2 < n := by omega
          have I2e : IntKind.i64.wrap (I2 : Int) = (I2 : Int) := by rw [IntKind.wrap_i64]; omega
          have J2a : (0 : Int) ≤ (J2 : Int) := by omega
          have J2b : (J2 : Int) < (n : Int) := by omega
          have J2c : J2 < n := by omega
          have J2e : IntKind.i64.wrap (J2 : Int) = (J2 : Int) := by rw [IntKind.wrap_i64]; omega
          obtain ⟨hk1, hf1⟩ := HROW6.out.get (i := I2) (by omega)
          obtain ⟨hk0, hf0⟩ := HROW6.out.get (i := J2) (by omega)
          have HRB := Lib.hid (HROW6.out.swp (i := I2) (j := J2) (by omega) (by omega))
          have HOB := Lib.hid (one_only HON6.out (swp_only w6 g I2 J2 (.int .u64 d'[J2]!) (.int .u64 d'[I2]!)))
          obtain ⟨ddx, hddx⟩ : ∃ x, x = d'[I2]! := ⟨_, rfl⟩
          rw [← hddx] at hk1 HRB HOB
          clear hddx
          obtain ⟨ddy, hddy⟩ : ∃ x, x = d'[J2]! := ⟨_, rfl⟩
          rw [← hddy] at hk0 HRB HOB
          clear hddy
          clear HROW6 HON6
          have hd1dd : w6.drew.cell? ⟨g, I2, none⟩ = some (.int .u64 ddx) := hk1
          have hd0dd : w6.drew.cell? ⟨g, J2, none⟩ = some (.int .u64 ddy) := hk0
          refine region_anyZ (z := 12) (S := fun w' => w'.cell? ⟨g, I2, none⟩ = some (.int .u64 ddx) ∧ w'.cell? ⟨g, J2, none⟩ = some (.int .u64 ddy)) (by kernel_rfl) ?_
          refine anyZ_begin (fun hcl0 => ?_)
          refine anyZ_held (by exact ⟨hd1dd, hd0dd⟩) (fun hHeld => ?_)
          -- 0: Op.move (Operand.tmp 0)
          refine' anyZ_pure (i := 0) (v := _) rfl (by rfl) (by kernel_rfl) (by kernel_rfl) (by kernel_rfl) hcl0 (fun _ _ _ h => h) (Or.inl ⟨by rfl, fun w _ => ?hdd1⟩) (fun _ => hHeld) (fun hcl1 => ?rdd1)
          case hdd1 => (simp only [List.getElem_toArray, List.getElem_cons_zero]; first | (go_simp; with_reducible rfl) | (go_simp; done) | rfl)
          simp only [List.getElem_toArray, List.getElem_cons_zero, Act.put, List.setIfInBounds_toArray, List.set_cons_zero, List.set_cons_succ]
          -- 1: Op.move (Operand.tmp 9)
          refine' anyZ_pure (i := 1) (v := _) rfl (by rfl) (by kernel_rfl) (by kernel_rfl) (by kernel_rfl) hcl1 (fun _ _ _ h => h) (Or.inl ⟨by rfl, fun w _ => ?hdd2⟩) (fun _ => hHeld) (fun hcl2 => ?rdd2)
          case hdd2 => (simp only [List.getElem_toArray, List.getElem_cons_succ, List.getElem_cons_zero]; first | (go_simp; with_reducible rfl) | (go_simp; done) | rfl)
          simp only [List.getElem_toArray, List.getElem_cons_succ, List.getElem_cons_zero, Act.put, List.setIfInBounds_toArray, List.set_cons_zero, List.set_cons_succ]
          -- 2: Op.move (Operand.tmp 0)
          refine' anyZ_pure (i := 2) (v := _) rfl (by rfl) (by kernel_rfl) (by kernel_rfl) (by kernel_rfl) hcl2 (fun _ _ _ h => h) (Or.inl ⟨by rfl, fun w _ => ?hdd3⟩) (fun _ => hHeld) (fun hcl3 => ?rdd3)
          case hdd3 => (simp only [List.getElem_toArray, List.getElem_cons_succ, List.getElem_cons_zero]; first | (go_simp; with_reducible rfl) | (go_simp; done) | rfl)
          simp only [List.getElem_toArray, List.getElem_cons_succ, List.getElem_cons_zero, Act.put, List.setIfInBounds_toArray, List.set_cons_zero, List.set_cons_succ]
          -- 3: Op.move (Operand.tmp 10)
          refine' anyZ_pure (i := 3) (v := _) rfl (by rfl) (by kernel_rfl) (by kernel_rfl) (by kernel_rfl) hcl3 (fun _ _ _ h => h) (Or.inl ⟨by rfl, fun w _ => ?hdd4⟩) (fun _ => hHeld) (fun hcl4 => ?rdd4)
          case hdd4 => (simp only [List.getElem_toArray, List.getElem_cons_succ, List.getElem_cons_zero]; first | (go_simp; with_reducible rfl) | (go_simp; done) | rfl)
          simp only [List.getElem_toArray, List.getElem_cons_succ, List.getElem_cons_zero, Act.put, List.setIfInBounds_toArray, List.set_cons_zero, List.set_cons_succ]
          -- 4: Op.move (Operand.tmp 0)
          refine' anyZ_pure (i := 4) (v := _) rfl (by rfl) (by kernel_rfl) (by kernel_rfl) (by kernel_rfl) hcl4 (fun _ _ _ h => h) (Or.inl ⟨by rfl, fun w _ => ?hdd5⟩) (fun _ => hHeld) (fun hcl5 => ?rdd5)
          case hdd5 => (simp only [List.getElem_toArray, List.getElem_cons_succ, List.getElem_cons_zero]; first | (go_simp; with_reducible rfl) | (go_simp; done) | rfl)
          simp only [List.getElem_toArray, List.getElem_cons_succ, List.getElem_cons_zero, Act.put, List.setIfInBounds_toArray, List.set_cons_zero, List.set_cons_succ]
          -- 5: Op.move (Operand.tmp 10)
          refine' anyZ_pure (i := 5) (v := _) rfl (by rfl) (by kernel_rfl) (by kernel_rfl) (by kernel_rfl) hcl5 (fun _ _ _ h => h) (Or.inl ⟨by rfl, fun w _ => ?hdd6⟩) (fun _ => hHeld) (fun hcl6 => ?rdd6)
          case hdd6 => (simp only [List.getElem_toArray, List.getElem_cons_succ, List.getElem_cons_zero]; first | (go_simp; with_reducible rfl) | (go_simp; done) | rfl)
          simp only [List.getElem_toArray, List.getElem_cons_succ, List.getElem_cons_zero, Act.put, List.setIfInBounds_toArray, List.set_cons_zero, List.set_cons_succ]
          -- 6: Op.indexAddr 27 (Operand.tmp 69) (Operand.tmp 70)
          refine' anyZ_pure (i := 6) (v := _) rfl (by rfl) (by kernel_rfl) (by kernel_rfl) (by kernel_rfl) hcl6 (fun _ _ _ h => h) (Or.inl ⟨by rfl, fun w _ => ?hdd7⟩) (fun _ => hHeld) (fun hcl7 => ?rdd7)
          case hdd7 => (simp only [List.getElem_toArray, List.getElem_cons_succ, List.getElem_cons_zero]; first | (go_simp; with_reducible rfl) | (go_simp; done) | rfl)
          simp only [List.getElem_toArray, List.getElem_cons_succ, List.getElem_cons_zero, Act.put, List.setIfInBounds_toArray, List.set_cons_zero, List.set_cons_succ]
          -- 7: Op.load 26 (Operand.tmp 71)
          refine' anyZ_take (i := 7) (v := _) rfl (by rfl) (by kernel_rfl) (by kernel_rfl) (by kernel_rfl) hcl7 14 (by kernel_rfl) (by kernel_rfl) (fun _ _ _ h => h) (Or.inl ⟨by rfl, fun w hSw => ?hdd8⟩) hHeld (fun hcl8 => ?rdd8)
          case hdd8 => (simp only [List.getElem_toArray, List.getElem_cons_succ, List.getElem_cons_zero]; obtain ⟨hS1, hS2⟩ := hSw; first | (go_simp; with_reducible rfl) | (go_simp; done) | rfl)
          simp only [List.getElem_toArray, List.getElem_cons_succ, List.getElem_cons_zero, Act.put, List.setIfInBounds_toArray, List.set_cons_zero, List.set_cons_succ]
          -- 8: Op.move (Operand.tmp 0)
          refine' anyZ_pure (i := 8) (v := _) rfl (by rfl) (by kernel_rfl) (by kernel_rfl) (by kernel_rfl) hcl8 (fun _ _ _ h => h) (Or.inl ⟨by rfl, fun w _ => ?hdd9⟩) (fun _ => hHeld) (fun hcl9 => ?rdd9)
          case hdd9 => (simp only [List.getElem_toArray, List.getElem_cons_succ, List.getElem_cons_zero]; first | (go_simp; with_reducible rfl) | (go_simp; done) | rfl)
          simp only [List.getElem_toArray, List.getElem_cons_succ, List.getElem_cons_zero, Act.put, List.setIfInBounds_toArray, List.set_cons_zero, List.set_cons_succ]
          -- 9: Op.move (Operand.tmp 9)
          refine' anyZ_pure (i := 9) (v := _) rfl (by rfl) (by kernel_rfl) (by kernel_rfl) (by kernel_rfl) hcl9 (fun _ _ _ h => h) (Or.inl ⟨by rfl, fun w _ => ?hdd10⟩) (fun _ => hHeld) (fun hcl10 => ?rdd10)
          case hdd10 => (simp only [List.getElem_toArray, List.getElem_cons_succ, List.getElem_cons_zero]; first | (go_simp; with_reducible rfl) | (go_simp; done) | rfl)
          simp only [List.getElem_toArray, List.getElem_cons_succ, List.getElem_cons_zero, Act.put, List.setIfInBounds_toArray, List.set_cons_zero, List.set_cons_succ]
          -- 10: Op.indexAddr 27 (Operand.tmp 73) (Operand.tmp 74)
          refine' anyZ_pure (i := 10) (v := _) rfl (by rfl) (by kernel_rfl) (by kernel_rfl) (by kernel_rfl) hcl10 (fun _ _ _ h => h) (Or.inl ⟨by rfl, fun w _ => ?hdd11⟩) (fun _ => hHeld) (fun hcl11 => ?rdd11)
          case hdd11 => (simp only [List.getElem_toArray, List.getElem_cons_succ, List.getElem_cons_zero]; first | (go_simp; with_reducible rfl) | (go_simp; done) | rfl)
          simp only [List.getElem_toArray, List.getElem_cons_succ, List.getElem_cons_zero, Act.put, List.setIfInBounds_toArray, List.set_cons_zero, List.set_cons_succ]
          -- 11: Op.load 26 (Operand.tmp 75)
          refine' anyZ_take (i := 11) (v := _) rfl (by rfl) (by kernel_rfl) (by kernel_rfl) (by kernel_rfl) hcl11 14 (by kernel_rfl) (by kernel_rfl) (fun _ _ _ h => h) (Or.inl ⟨by rfl, fun w hSw => ?hdd12⟩) hHeld (fun hcl12 => ?rdd12)
          case hdd12 => (simp only [List.getElem_toArray, List.getElem_cons_succ, List.getElem_cons_zero]; obtain ⟨hS1, hS2⟩ := hSw; first | (go_simp; with_reducible rfl) | (go_simp; done) | rfl)
          simp only [List.getElem_toArray, List.getElem_cons_succ, List.getElem_cons_zero, Act.put, List.setIfInBounds_toArray, List.set_cons_zero, List.set_cons_succ]
          clear hHeld
          refine anyZ_chain_at (by kernel_rfl) ?_
          simp only [List.drop_succ_cons, List.drop_zero]
          go_wp2_with fail
          go_meet
          case rel => exact Lib.hid ⟨HRB.out, HOB.out.drew⟩
        case rest =>
        rename World => w7
        have HROW7 := Lib.hid hcut.out.1
        have HON7 := Lib.hid hcut.out.2
        clear hcut HROW6 HON6
        go_wp2_with fail
        go_roundw
        case rel => exact ⟨I2 + 1, J2 - 1, _, by omega, by omega, by omega, by first | rfl | (congr 1; omega), by first | rfl | (congr 1; omega), Lib.hid ⟨HQ2.out, HPV2.out, HROW7.out, HON7.out⟩⟩
        case measure => (simp [intOf]; try omega)
  case rest =>
  rename World => w8
  obtain ⟨rfl, hcut2⟩ := hcut
  go_wp2_with fail
  go_ret
  exact ⟨rfl, hcut2.out.1, hcut2.out.2⟩
end Go.Proofs.Ytnbncjebmlicgaa
