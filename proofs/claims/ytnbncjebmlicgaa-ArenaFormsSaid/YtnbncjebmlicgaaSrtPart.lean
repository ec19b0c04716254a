/- Walk: partitionOrdered. -/
import Derived.Test.YtnbncjebmlicgaaPreC
namespace Go.Proofs.Ytnbncjebmlicgaa
open Go.RowKit Go.Sort

set_option linter.unusedSimpArgs false in
set_option maxRecDepth 20000 in
set_option maxHeartbeats 6400000 in
theorem srtpart_any (B g n c a b p : Nat) (d : Array Nat) (w : World) (h : SRow B w g n c d) (hap : a ≤ p) (hpb : p < b) (hbn : b ≤ n) (hn : n ≤ 1000000000) :
    Calls Try.prog 86 #[.slice (some ⟨g, 0, none⟩) n c, .int .i64 a, .int .i64 b, .int .i64 p] w fun e w' => e = .returned (.tuple #[.int .i64 (partition ltN d a b p).1, .bool (partition ltN d a b p).2.1]) ∧ SRow B w' g n c (partition ltN d a b p).2.2 ∧ Only w w' (fun q => q = g) := by
  obtain ⟨R1, R2, R3, hR⟩ : ∃ R1 R2 R3, partition ltN d a b p = (R1, R2, R3) := ⟨_, _, _, rfl⟩
  rw [hR]
  obtain ⟨D, hD⟩ : ∃ D, D = swp d a p := ⟨_, rfl⟩
  obtain ⟨pv, hpv⟩ : ∃ pv, D[a]! = pv := ⟨_, rfl⟩
  obtain ⟨jb, hjb⟩ : ∃ jb, jb = b - 1 := ⟨_, rfl⟩
  obtain ⟨I, hI⟩ : ∃ I, scanUp (fun x => ltN x pv) D jb (a + 1) = I := ⟨_, rfl⟩
  obtain ⟨J, hJ⟩ : ∃ J, scanDown (fun x => !ltN x pv) D I jb = J := ⟨_, rfl⟩
  have HR : Hid ((if J < I then (J, true, swp D J a) else ((partLoop ltN a (I + 1) (J - 1) (swp D I J)).1, false, swp (partLoop ltN a (I + 1) (J - 1) (swp D I J)).2 (partLoop ltN a (I + 1) (J - 1) (swp D I J)).1 a)) = (R1, R2, R3)) := Lib.hid (by rw [← hR]; exact (part_first hD hpv (by rw [← hjb]; exact hI) (by rw [← hjb]; exact hJ)).symm)
  obtain ⟨s1, s2, s3, s4, s5⟩ := scans (q := fun x => !ltN x pv) (fun _ => rfl) hI hJ (by omega) (by omega)
  have HPV := Lib.hid hpv
  have HI := Lib.hid hI
  have HJ := Lib.hid hJ
  have HS5 := Lib.hid s5
  have HROW := Lib.hid h
  have HON := Lib.hid (Only.refl w (fun q => q = g))
  have hsz : Hid (d.size = n) := Lib.hid h.size.1
  have hjbi : (b : Int) - 1 = (jb : Int) := by omega
  have HD := Lib.hid hD
  clear hpv hI hJ s5 h hR hD hjb
  go_enter Try.func86, Try.ntmps86
  go_upto_region 1 with fail
  go_cut [] from 12 to 25 (fun w' => Hid (SRow B w' g n c (swp d a p) ∧ Only w w' (fun q => q = g)))
  case first =>
    by_cases hij : a = p
    · subst hij
      have aa : (0 : Int) ≤ (a : Int) := by omega
      have ab : (a : Int) < (n : Int) := by omega
      have ac : a < n := by omega
      have ae : IntKind.i64.wrap (a : Int) = (a : Int) := by rw [IntKind.wrap_i64]; omega
      obtain ⟨hk1, hf1⟩ := HROW.out.get (i := a) (by omega)
      obtain ⟨hk0, hf0⟩ := HROW.out.get (i := a) (by omega)
      have HRB := Lib.hid (HROW.out.swp (i := a) (j := a) (by omega) (by omega))
      have HOB := Lib.hid (one_only HON.out (swp_only w g a a (.int .u64 d[a]!) (.int .u64 d[a]!)))
      obtain ⟨asx, hasx⟩ : ∃ x, x = d[a]! := ⟨_, rfl⟩
      rw [← hasx] at hk1 HRB HOB hk0
      clear hasx
      clear HROW HON
      have hd1as : w.drew.cell? ⟨g, a, none⟩ = some (.int .u64 asx) := hk1
      have hd0as : w.drew.cell? ⟨g, a, none⟩ = some (.int .u64 asx) := hk0
      refine region_anyZ (z := 12) (S := fun w' => w'.cell? ⟨g, a, none⟩ = some (.int .u64 asx) ∧ w'.cell? ⟨g, a, none⟩ = some (.int .u64 asx)) (by kernel_rfl) ?_
      refine anyZ_begin (fun hcl0 => ?_)
      refine anyZ_held (by exact ⟨hd1as, hd0as⟩) (fun hHeld => ?_)
      -- 0: Op.move (Operand.tmp 0)
      refine' anyZ_pure (i := 0) (v := _) rfl (by rfl) (by kernel_rfl) (by kernel_rfl) (by kernel_rfl) hcl0 (fun _ _ _ h => h) (Or.inl ⟨by rfl, fun w _ => ?has1⟩) (fun _ => hHeld) (fun hcl1 => ?ras1)
      case has1 => (simp only [List.getElem_toArray, List.getElem_cons_zero]; first | (go_simp; with_reducible rfl) | (go_simp; done) | rfl)
      simp only [List.getElem_toArray, List.getElem_cons_zero, Act.put, List.setIfInBounds_toArray, List.set_cons_zero, List.set_cons_succ]
      -- 1: Op.move (Operand.tmp 1)
      refine' anyZ_pure (i := 1) (v := _) rfl (by rfl) (by kernel_rfl) (by kernel_rfl) (by kernel_rfl) hcl1 (fun _ _ _ h => h) (Or.inl ⟨by rfl, fun w _ => ?has2⟩) (fun _ => hHeld) (fun hcl2 => ?ras2)
      case has2 => (simp only [List.getElem_toArray, List.getElem_cons_succ, List.getElem_cons_zero]; first | (go_simp; with_reducible rfl) | (go_simp; done) | rfl)
      simp only [List.getElem_toArray, List.getElem_cons_succ, List.getElem_cons_zero, Act.put, List.setIfInBounds_toArray, List.set_cons_zero, List.set_cons_succ]
      -- 2: Op.move (Operand.tmp 0)
      refine' anyZ_pure (i := 2) (v := _) rfl (by rfl) (by kernel_rfl) (by kernel_rfl) (by kernel_rfl) hcl2 (fun _ _ _ h => h) (Or.inl ⟨by rfl, fun w _ => ?has3⟩) (fun _ => hHeld) (fun hcl3 => ?ras3)
      case has3 => (simp only [List.getElem_toArray, List.getElem_cons_succ, List.getElem_cons_zero]; first | (go_simp; with_reducible rfl) | (go_simp; done) | rfl)
      simp only [List.getElem_toArray, List.getElem_cons_succ, List.getElem_cons_zero, Act.put, List.setIfInBounds_toArray, List.set_cons_zero, List.set_cons_succ]
      -- 3: Op.move (Operand.tmp 3)
      refine' anyZ_pure (i := 3) (v := _) rfl (by rfl) (by kernel_rfl) (by kernel_rfl) (by kernel_rfl) hcl3 (fun _ _ _ h => h) (Or.inl ⟨by rfl, fun w _ => ?has4⟩) (fun _ => hHeld) (fun hcl4 => ?ras4)
      case has4 => (simp only [List.getElem_toArray, List.getElem_cons_succ, List.getElem_cons_zero]; first | (go_simp; with_reducible rfl) | (go_simp; done) | rfl)
      simp only [List.getElem_toArray, List.getElem_cons_succ, List.getElem_cons_zero, Act.put, List.setIfInBounds_toArray, List.set_cons_zero, List.set_cons_succ]
      -- 4: Op.move (Operand.tmp 0)
      refine' anyZ_pure (i := 4) (v := _) rfl (by rfl) (by kernel_rfl) (by kernel_rfl) (by kernel_rfl) hcl4 (fun _ _ _ h => h) (Or.inl ⟨by rfl, fun w _ => ?has5⟩) (fun _ => hHeld) (fun hcl5 => ?ras5)
      case has5 => (simp only [List.getElem_toArray, List.getElem_cons_succ, List.getElem_cons_zero]; first | (go_simp; with_reducible rfl) | (go_simp; done) | rfl)
      simp only [List.getElem_toArray, List.getElem_cons_succ, List.getElem_cons_zero, Act.put, List.setIfInBounds_toArray, List.set_cons_zero, List.set_cons_succ]
      -- 5: Op.move (Operand.tmp 3)
      refine' anyZ_pure (i := 5) (v := _) rfl (by rfl) (by kernel_rfl) (by kernel_rfl) (by kernel_rfl) hcl5 (fun _ _ _ h => h) (Or.inl ⟨by rfl, fun w _ => ?has6⟩) (fun _ => hHeld) (fun hcl6 => ?ras6)
      case has6 => (simp only [List.getElem_toArray, List.getElem_cons_succ, List.getElem_cons_zero]; first | (go_simp; with_reducible rfl) | (go_simp; done) | rfl)
      simp only [List.getElem_toArray, List.getElem_cons_succ, List.getElem_cons_zero, Act.put, List.setIfInBounds_toArray, List.set_cons_zero, List.set_cons_succ]
      -- 6: Op.indexAddr 27 (Operand.tmp 16) (Operand.tmp 17)
      refine' anyZ_pure (i := 6) (v := _) rfl (by rfl) (by kernel_rfl) (by kernel_rfl) (by kernel_rfl) hcl6 (fun _ _ _ h => h) (Or.inl ⟨by rfl, fun w _ => ?has7⟩) (fun _ => hHeld) (fun hcl7 => ?ras7)
      case has7 => (simp only [List.getElem_toArray, List.getElem_cons_succ, List.getElem_cons_zero]; first | (go_simp; with_reducible rfl) | (go_simp; done) | rfl)
      simp only [List.getElem_toArray, List.getElem_cons_succ, List.getElem_cons_zero, Act.put, List.setIfInBounds_toArray, List.set_cons_zero, List.set_cons_succ]
      -- 7: Op.load 26 (Operand.tmp 18)
      refine' anyZ_take (i := 7) (v := _) rfl (by rfl) (by kernel_rfl) (by kernel_rfl) (by kernel_rfl) hcl7 14 (by kernel_rfl) (by kernel_rfl) (fun _ _ _ h => h) (Or.inl ⟨by rfl, fun w hSw => ?has8⟩) hHeld (fun hcl8 => ?ras8)
      case has8 => (simp only [List.getElem_toArray, List.getElem_cons_succ, List.getElem_cons_zero]; obtain ⟨hS1, hS2⟩ := hSw; first | (go_simp; with_reducible rfl) | (go_simp; done) | rfl)
      simp only [List.getElem_toArray, List.getElem_cons_succ, List.getElem_cons_zero, Act.put, List.setIfInBounds_toArray, List.set_cons_zero, List.set_cons_succ]
      -- 8: Op.move (Operand.tmp 0)
      refine' anyZ_pure (i := 8) (v := _) rfl (by rfl) (by kernel_rfl) (by kernel_rfl) (by kernel_rfl) hcl8 (fun _ _ _ h => h) (Or.inl ⟨by rfl, fun w _ => ?has9⟩) (fun _ => hHeld) (fun hcl9 => ?ras9)
      case has9 => (simp only [List.getElem_toArray, List.getElem_cons_succ, List.getElem_cons_zero]; first | (go_simp; with_reducible rfl) | (go_simp; done) | rfl)
      simp only [List.getElem_toArray, List.getElem_cons_succ, List.getElem_cons_zero, Act.put, List.setIfInBounds_toArray, List.set_cons_zero, List.set_cons_succ]
      -- 9: Op.move (Operand.tmp 1)
      refine' anyZ_pure (i := 9) (v := _) rfl (by rfl) (by kernel_rfl) (by kernel_rfl) (by kernel_rfl) hcl9 (fun _ _ _ h => h) (Or.inl ⟨by rfl, fun w _ => ?has10⟩) (fun _ => hHeld) (fun hcl10 => ?ras10)
      case has10 => (simp only [List.getElem_toArray, List.getElem_cons_succ, List.getElem_cons_zero]; first | (go_simp; with_reducible rfl) | (go_simp; done) | rfl)
      simp only [List.getElem_toArray, List.getElem_cons_succ, List.getElem_cons_zero, Act.put, List.setIfInBounds_toArray, List.set_cons_zero, List.set_cons_succ]
      -- 10: Op.indexAddr 27 (Operand.tmp 20) (Operand.tmp 21)
      refine' anyZ_pure (i := 10) (v := _) rfl (by rfl) (by kernel_rfl) (by kernel_rfl) (by kernel_rfl) hcl10 (fun _ _ _ h => h) (Or.inl ⟨by rfl, fun w _ => ?has11⟩) (fun _ => hHeld) (fun hcl11 => ?ras11)
      case has11 => (simp only [List.getElem_toArray, List.getElem_cons_succ, List.getElem_cons_zero]; first | (go_simp; with_reducible rfl) | (go_simp; done) | rfl)
      simp only [List.getElem_toArray, List.getElem_cons_succ, List.getElem_cons_zero, Act.put, List.setIfInBounds_toArray, List.set_cons_zero, List.set_cons_succ]
      -- 11: Op.load 26 (Operand.tmp 22)
      refine' anyZ_take (i := 11) (v := _) rfl (by rfl) (by kernel_rfl) (by kernel_rfl) (by kernel_rfl) hcl11 14 (by kernel_rfl) (by kernel_rfl) (fun _ _ _ h => h) (Or.inl ⟨by rfl, fun w hSw => ?has12⟩) hHeld (fun hcl12 => ?ras12)
      case has12 => (simp only [List.getElem_toArray, List.getElem_cons_succ, List.getElem_cons_zero]; obtain ⟨hS1, hS2⟩ := hSw; first | (go_simp; with_reducible rfl) | (go_simp; done) | rfl)
      simp only [List.getElem_toArray, List.getElem_cons_succ, List.getElem_cons_zero, Act.put, List.setIfInBounds_toArray, List.set_cons_zero, List.set_cons_succ]
      clear hHeld
      refine anyZ_chain_at (by kernel_rfl) ?_
      simp only [List.drop_succ_cons, List.drop_zero]
      go_wp2_with fail
      go_meet
      case rel => exact Lib.hid ⟨HRB.out, HOB.out.drew⟩
    · have hne : ¬ a = p := hij
      have hne2 : ¬ p = a := fun h => hij h.symm
      have aa : (0 : Int) ≤ (a : Int) := by omega
      have ab : (a : Int) < (n : Int) := by omega
      have ac : a < n := by omega
      have ae : IntKind.i64.wrap (a : Int) = (a : Int) := by rw [IntKind.wrap_i64]; omega
      have pa : (0 : Int) ≤ (p : Int) := by omega
      have pb : (p : Int) < (n : Int) := by omega
      have pc : p < n := by omega
      have pe : IntKind.i64.wrap (p : Int) = (p : Int) := by rw [IntKind.wrap_i64]; omega
      obtain ⟨hk1, hf1⟩ := HROW.out.get (i := a) (by omega)
      obtain ⟨hk0, hf0⟩ := HROW.out.get (i := p) (by omega)
      have HRB := Lib.hid (HROW.out.swp (i := a) (j := p) (by omega) (by omega))
      have HOB := Lib.hid (one_only HON.out (swp_only w g a p (.int .u64 d[p]!) (.int .u64 d[a]!)))
      obtain ⟨adx, hadx⟩ : ∃ x, x = d[a]! := ⟨_, rfl⟩
      rw [← hadx] at hk1 HRB HOB
      clear hadx
      obtain ⟨ady, hady⟩ : ∃ x, x = d[p]! := ⟨_, rfl⟩
      rw [← hady] at hk0 HRB HOB
      clear hady
      clear HROW HON
      have hd1ad : w.drew.cell? ⟨g, a, none⟩ = some (.int .u64 adx) := hk1
      have hd0ad : w.drew.cell? ⟨g, p, none⟩ = some (.int .u64 ady) := hk0
      refine region_anyZ (z := 12) (S := fun w' => w'.cell? ⟨g, a, none⟩ = some (.int .u64 adx) ∧ w'.cell? ⟨g, p, none⟩ = some (.int .u64 ady)) (by kernel_rfl) ?_
      refine anyZ_begin (fun hcl0 => ?_)
      refine anyZ_held (by exact ⟨hd1ad, hd0ad⟩) (fun hHeld => ?_)
      -- 0: Op.move (Operand.tmp 0)
      refine' anyZ_pure (i := 0) (v := _) rfl (by rfl) (by kernel_rfl) (by kernel_rfl) (by kernel_rfl) hcl0 (fun _ _ _ h => h) (Or.inl ⟨by rfl, fun w _ => ?had1⟩) (fun _ => hHeld) (fun hcl1 => ?rad1)
      case had1 => (simp only [List.getElem_toArray, List.getElem_cons_zero]; first | (go_simp; with_reducible rfl) | (go_simp; done) | rfl)
      simp only [List.getElem_toArray, List.getElem_cons_zero, Act.put, List.setIfInBounds_toArray, List.set_cons_zero, List.set_cons_succ]
      -- 1: Op.move (Operand.tmp 1)
      refine' anyZ_pure (i := 1) (v := _) rfl (by rfl) (by kernel_rfl) (by kernel_rfl) (by kernel_rfl) hcl1 (fun _ _ _ h => h) (Or.inl ⟨by rfl, fun w _ => ?had2⟩) (fun _ => hHeld) (fun hcl2 => ?rad2)
      case had2 => (simp only [List.getElem_toArray, List.getElem_cons_succ, List.getElem_cons_zero]; first | (go_simp; with_reducible rfl) | (go_simp; done) | rfl)
      simp only [List.getElem_toArray, List.getElem_cons_succ, List.getElem_cons_zero, Act.put, List.setIfInBounds_toArray, List.set_cons_zero, List.set_cons_succ]
      -- 2: Op.move (Operand.tmp 0)
      refine' anyZ_pure (i := 2) (v := _) rfl (by rfl) (by kernel_rfl) (by kernel_rfl) (by kernel_rfl) hcl2 (fun _ _ _ h => h) (Or.inl ⟨by rfl, fun w _ => ?had3⟩) (fun _ => hHeld) (fun hcl3 => ?rad3)
      case had3 => (simp only [List.getElem_toArray, List.getElem_cons_succ, List.getElem_cons_zero]; first | (go_simp; with_reducible rfl) | (go_simp; done) | rfl)
      simp only [List.getElem_toArray, List.getElem_cons_succ, List.getElem_cons_zero, Act.put, List.setIfInBounds_toArray, List.set_cons_zero, List.set_cons_succ]
      -- 3: Op.move (Operand.tmp 3)
      refine' anyZ_pure (i := 3) (v := _) rfl (by rfl) (by kernel_rfl) (by kernel_rfl) (by kernel_rfl) hcl3 (fun _ _ _ h => h) (Or.inl ⟨by rfl, fun w _ => ?had4⟩) (fun _ => hHeld) (fun hcl4 => ?rad4)
      case had4 => (simp only [List.getElem_toArray, List.getElem_cons_succ, List.getElem_cons_zero]; first | (go_simp; with_reducible rfl) | (go_simp; done) | rfl)
      simp only [List.getElem_toArray, List.getElem_cons_succ, List.getElem_cons_zero, Act.put, List.setIfInBounds_toArray, List.set_cons_zero, List.set_cons_succ]
      -- 4: Op.move (Operand.tmp 0)
      refine' anyZ_pure (i := 4) (v := _) rfl (by rfl) (by kernel_rfl) (by kernel_rfl) (by kernel_rfl) hcl4 (fun _ _ _ h => h) (Or.inl ⟨by rfl, fun w _ => ?had5⟩) (fun _ => hHeld) (fun hcl5 => ?rad5)
      case had5 => (simp only [List.getElem_toArray, List.getElem_cons_succ, List.getElem_cons_zero]; first | (go_simp; with_reducible rfl) | (go_simp; done) | rfl)
      simp only [List.getElem_toArray, List.getElem_cons_succ, List.getElem_cons_zero, Act.put, List.setIfInBounds_toArray, List.set_cons_zero, List.set_cons_succ]
      -- 5: Op.move (Operand.tmp 3)
      refine' anyZ_pure (i := 5) (v := _) rfl (by rfl) (by kernel_rfl) (by kernel_rfl) (by kernel_rfl) hcl5 (fun _ _ _ h => h) (Or.inl ⟨by rfl, fun w _ => ?had6⟩) (fun _ => hHeld) (fun hcl6 => ?rad6)
      case had6 => (simp only [List.getElem_toArray, List.getElem_cons_succ, List.getElem_cons_zero]; first | (go_simp; with_reducible rfl) | (go_simp; done) | rfl)
      simp only [List.getElem_toArray, List.getElem_cons_succ, List.getElem_cons_zero, Act.put, List.setIfInBounds_toArray, List.set_cons_zero, List.set_cons_succ]
      -- 6: Op.indexAddr 27 (Operand.tmp 16) (Operand.tmp 17)
      refine' anyZ_pure (i := 6) (v := _) rfl (by rfl) (by kernel_rfl) (by kernel_rfl) (by kernel_rfl) hcl6 (fun _ _ _ h => h) (Or.inl ⟨by rfl, fun w _ => ?had7⟩) (fun _ => hHeld) (fun hcl7 => ?rad7)
      case had7 => (simp only [List.getElem_toArray, List.getElem_cons_succ, List.getElem_cons_zero]; first | (go_simp; with_reducible rfl) | (go_simp; done) | rfl)
      simp only [List.getElem_toArray, List.getElem_cons_succ, List.getElem_cons_zero, Act.put, List.setIfInBounds_toArray, List.set_cons_zero, List.set_cons_succ]
      -- 7: Op.load 26 (Operand.tmp 18)
      refine' anyZ_take (i := 7) (v := _) rfl (by rfl) (by kernel_rfl) (by kernel_rfl) (by kernel_rfl) hcl7 14 (by kernel_rfl) (by kernel_rfl) (fun _ _ _ h => h) (Or.inl ⟨by rfl, fun w hSw => ?had8⟩) hHeld (fun hcl8 => ?rad8)
      case had8 => (simp only [List.getElem_toArray, List.getElem_cons_succ, List.getElem_cons_zero]; obtain ⟨hS1, hS2⟩ := hSw; first | (go_simp; with_reducible rfl) | (go_simp; done) | rfl)
      simp only [List.getElem_toArray, List.getElem_cons_succ, List.getElem_cons_zero, Act.put, List.setIfInBounds_toArray, List.set_cons_zero, List.set_cons_succ]
      -- 8: Op.move (Operand.tmp 0)
      refine' anyZ_pure (i := 8) (v := _) rfl (by rfl) (by kernel_rfl) (by kernel_rfl) (by kernel_rfl) hcl8 (fun _ _ _ h => h) (Or.inl ⟨by rfl, fun w _ => ?had9⟩) (fun _ => hHeld) (fun hcl9 => ?rad9)
      case had9 => (simp only [List.getElem_toArray, List.getElem_cons_succ, List.getElem_cons_zero]; first | (go_simp; with_reducible rfl) | (go_simp; done) | rfl)
      simp only [List.getElem_toArray, List.getElem_cons_succ, List.getElem_cons_zero, Act.put, List.setIfInBounds_toArray, List.set_cons_zero, List.set_cons_succ]
      -- 9: Op.move (Operand.tmp 1)
      refine' anyZ_pure (i := 9) (v := _) rfl (by rfl) (by kernel_rfl) (by kernel_rfl) (by kernel_rfl) hcl9 (fun _ _ _ h => h) (Or.inl ⟨by rfl, fun w _ => ?had10⟩) (fun _ => hHeld) (fun hcl10 => ?rad10)
      case had10 => (simp only [List.getElem_toArray, List.getElem_cons_succ, List.getElem_cons_zero]; first | (go_simp; with_reducible rfl) | (go_simp; done) | rfl)
      simp only [List.getElem_toArray, List.getElem_cons_succ, List.getElem_cons_zero, Act.put, List.setIfInBounds_toArray, List.set_cons_zero, List.set_cons_succ]
      -- 10: Op.indexAddr 27 (Operand.tmp 20) (Operand.tmp 21)
      refine' anyZ_pure (i := 10) (v := _) rfl (by rfl) (by kernel_rfl) (by kernel_rfl) (by kernel_rfl) hcl10 (fun _ _ _ h => h) (Or.inl ⟨by rfl, fun w _ => ?had11⟩) (fun _ => hHeld) (fun hcl11 => ?rad11)
      case had11 => (simp only [List.getElem_toArray, List.getElem_cons_succ, List.getElem_cons_zero]; first | (go_simp; with_reducible rfl) | (go_simp; done) | rfl)
      simp only [List.getElem_toArray, List.getElem_cons_succ, List.getElem_cons_zero, Act.put, List.setIfInBounds_toArray, List.set_cons_zero, List.set_cons_succ]
      -- 11: Op.load 26 (Operand.tmp 22)
      refine' anyZ_take (i := 11) (v := _) rfl (by rfl) (by kernel_rfl) (by kernel_rfl) (by kernel_rfl) hcl11 14 (by kernel_rfl) (by kernel_rfl) (fun _ _ _ h => h) (Or.inl ⟨by rfl, fun w hSw => ?had12⟩) hHeld (fun hcl12 => ?rad12)
      case had12 => (simp only [List.getElem_toArray, List.getElem_cons_succ, List.getElem_cons_zero]; obtain ⟨hS1, hS2⟩ := hSw; first | (go_simp; with_reducible rfl) | (go_simp; done) | rfl)
      simp only [List.getElem_toArray, List.getElem_cons_succ, List.getElem_cons_zero, Act.put, List.setIfInBounds_toArray, List.set_cons_zero, List.set_cons_succ]
      clear hHeld
      refine anyZ_chain_at (by kernel_rfl) ?_
      simp only [List.drop_succ_cons, List.drop_zero]
      go_wp2_with fail
      go_meet
      case rel => exact Lib.hid ⟨HRB.out, HOB.out.drew⟩
  case rest =>
  rename World => w1
  have HROW1 := Lib.hid hcut.out.1
  have HON1 := Lib.hid hcut.out.2
  clear hcut HROW HON
  rw [← HD.out] at HROW1
  go_upto_block 0 with fail
  go_cut [10] from 30 to 45 (fun t w' => t = .int .i64 (I : Nat) ∧ Hid (SRow B w' g n c D ∧ Only w w' (fun q => q = g)))
  case first =>
    go_wp2_with fail
    go_loopw [10] (fun i ws => ∃ k : Nat, (a + 1) ≤ k ∧ k ≤ jb + 1 ∧ i = .int .i64 k ∧ Hid (scanUp (fun x => ltN x pv) D jb k = I ∧ SRow B ws g n c D ∧ Only w ws (fun q => q = g))) (fun i _ => jb + 2 - (intOf i).toNat)
    case atStart => exact ⟨(a + 1), by omega, by omega, by first | rfl | (congr 1; omega), Lib.hid ⟨HI.out, HROW1.out, HON1.out⟩⟩
    case round =>
      clear HROW1 HON1 HI
      obtain ⟨k, hk1, hk2, rfl, hin⟩ := hrel
      have HSC := Lib.hid hin.out.1
      have HRW := Lib.hid hin.out.2.1
      have HOW := Lib.hid hin.out.2.2
      clear hin
      by_cases hle : k ≤ jb
      · have d1 : decide ((k : Int) ≤ (jb : Int)) = true := decide_eq_true (by omega)
        have d1n : decide (k ≤ jb) = true := decide_eq_true hle
        have ka : (0 : Int) ≤ (k : Int) := by omega
        have kb : (k : Int) < (n : Int) := by omega
        have kc : k < n := by omega
        have ke : IntKind.i64.wrap (k : Int) = (k : Int) := by rw [IntKind.wrap_i64]; omega
        have aa : (0 : Int) ≤ (a : Int) := by omega
        have ab : (a : Int) < (n : Int) := by omega
        have ac : a < n := by omega
        have ae : IntKind.i64.wrap (a : Int) = (a : Int) := by rw [IntKind.wrap_i64]; omega
        obtain ⟨kk, fk⟩ := HRW.out.get (i := k) (by omega)
        obtain ⟨ka, fa⟩ := HRW.out.get (i := a) (by omega)
        rw [HPV.out] at ka
        obtain ⟨x, hx⟩ : ∃ x, x = D[k]! := ⟨_, rfl⟩
        rw [← hx] at kk
        have HX := Lib.hid hx
        clear hx
        go_upto_region 3 with fail
        go_quiet ((go_at_call 84; with_reducible exact Calls.quiet_of_same (less_any x pv _)))
        have HRW2 : Hid (SRow B (wr.drewN nq) g n c D) := HRW
        have HOW2 := Lib.hid (HOW.out.drewN nq)
        clear HRW HOW kk fk ka fa
        cases hxy : ltN x pv
        · skip
          have HKI : Hid (k = I) := Lib.hid (by rw [← HSC.out, up_stop (p := (fun x => ltN x pv)) HX.out (by show (ltN x pv) = false; rw [hxy])])
          clear hxy HSC HX
          generalize wr.drewN nq = W2 at *
          go_wp2_with fail
          go_meet
          case rel => exact ⟨by rw [HKI.out], Lib.hid ⟨HRW2.out, HOW2.out⟩⟩
        · skip
          have HSC2 : Hid (scanUp (fun x => ltN x pv) D jb (k + 1) = I) := Lib.hid (by rw [← HSC.out, up_go (p := (fun x => ltN x pv)) hle HX.out (by show (ltN x pv) = true; rw [hxy])])
          clear hxy HSC HX
          generalize wr.drewN nq = W2 at *
          go_wp2_with fail
          exact ⟨⟨k + 1, by omega, by omega, by go_num, Lib.hid ⟨HSC2.out, HRW2.out, HOW2.out⟩⟩, by simp [intOf]; omega⟩
      · have d1 : decide ((k : Int) ≤ (jb : Int)) = false := decide_eq_false (by omega)
        have d1n : decide (k ≤ jb) = false := decide_eq_false hle
        have HKI : Hid (k = I) := Lib.hid (by rw [← HSC.out, up_end hle])
        go_upto_region 3 with fail
        go_quiet (fail)
        have HRW2 : Hid (SRow B (wr.drewN nq) g n c D) := HRW
        have HOW2 := Lib.hid (HOW.out.drewN nq)
        clear HRW HOW HSC
        generalize wr.drewN nq = W2 at *
        go_wp2_with fail
        go_meet
        case rel => exact ⟨by rw [HKI.out], Lib.hid ⟨HRW2.out, HOW2.out⟩⟩
  case rest =>
  rename World => w2
  obtain ⟨rfl, hcut2⟩ := hcut
  have HROW2 := Lib.hid hcut2.out.1
  have HON2 := Lib.hid hcut2.out.2
  clear hcut2 HROW1 HON1 HI
  go_upto_block 2 with fail
  go_cut [11] from 46 to 62 (fun t w' => t = .int .i64 (J : Nat) ∧ Hid (SRow B w' g n c D ∧ Only w w' (fun q => q = g)))
  case first =>
    go_wp2_with fail
    go_loopw [11] (fun i ws => ∃ k : Nat, k ≤ jb ∧ I ≤ k + 1 ∧ i = .int .i64 k ∧ Hid (scanDown (fun x => !ltN x pv) D I k = J ∧ SRow B ws g n c D ∧ Only w ws (fun q => q = g))) (fun i _ => (intOf i).toNat)
    case atStart => exact ⟨jb, by omega, by omega, by first | rfl | (congr 1; omega), Lib.hid ⟨HJ.out, HROW2.out, HON2.out⟩⟩
    case round =>
      clear HROW2 HON2 HJ
      obtain ⟨k, hk1, hk2, rfl, hin⟩ := hrel
      have HSC := Lib.hid hin.out.1
      have HRW := Lib.hid hin.out.2.1
      have HOW := Lib.hid hin.out.2.2
      clear hin
      by_cases hle : I ≤ k
      · have d1 : decide ((I : Int) ≤ (k : Int)) = true := decide_eq_true (by omega)
        have d1n : decide (I ≤ k) = true := decide_eq_true hle
        have ka : (0 : Int) ≤ (k : Int) := by omega
        have kb : (k : Int) < (n : Int) := by omega
        have kc : k < n := by omega
        have ke : IntKind.i64.wrap (k : Int) = (k : Int) := by rw [IntKind.wrap_i64]; omega
        have aa : (0 : Int) ≤ (a : Int) := by omega
        have ab : (a : Int) < (n : Int) := by omega
        have ac : a < n := by omega
        have ae : IntKind.i64.wrap (a : Int) = (a : Int) := by rw [IntKind.wrap_i64]; omega
        obtain ⟨kk, fk⟩ := HRW.out.get (i := k) (by omega)
        obtain ⟨ka, fa⟩ := HRW.out.get (i := a) (by omega)
        rw [HPV.out] at ka
        obtain ⟨x, hx⟩ : ∃ x, x = D[k]! := ⟨_, rfl⟩
        rw [← hx] at kk
        have HX := Lib.hid hx
        clear hx
        go_upto_region 5 with fail
        go_quiet ((go_at_call 84; with_reducible exact Calls.quiet_of_same (less_any x pv _)))
        have HRW2 : Hid (SRow B (wr.drewN nq) g n c D) := HRW
        have HOW2 := Lib.hid (HOW.out.drewN nq)
        clear HRW HOW kk fk ka fa
        cases hxy : ltN x pv
        · skip
          obtain ⟨k, rfl⟩ : ∃ m, k = m + 1 := ⟨k - 1, by omega⟩
          have HSC2 : Hid (scanDown (fun x => !ltN x pv) D I k = J) := Lib.hid (by rw [← HSC.out, down_go (p := (fun x => !ltN x pv)) hle HX.out (by show (!ltN x pv) = true; rw [hxy]; rfl)])
          have hk1' : ((k + 1 : Nat) : Int) - 1 = (k : Int) := by omega
          clear hxy HSC HX
          generalize wr.drewN nq = W2 at *
          go_wp2_with fail
          exact ⟨⟨k, by omega, by omega, by first | rfl | (congr 1; omega), Lib.hid ⟨HSC2.out, HRW2.out, HOW2.out⟩⟩, by simp [intOf]; try omega⟩
        · skip
          have HKI : Hid (k = J) := Lib.hid (by rw [← HSC.out, down_stop (p := (fun x => !ltN x pv)) HX.out (by show (!ltN x pv) = false; rw [hxy]; rfl)])
          clear hxy HSC HX
          generalize wr.drewN nq = W2 at *
          go_wp2_with fail
          go_meet
          case rel => exact ⟨by rw [HKI.out], Lib.hid ⟨HRW2.out, HOW2.out⟩⟩
      · have d1 : decide ((I : Int) ≤ (k : Int)) = false := decide_eq_false (by omega)
        have d1n : decide (I ≤ k) = false := decide_eq_false hle
        have HKI : Hid (k = J) := Lib.hid (by rw [← HSC.out, down_end hle])
        go_upto_region 5 with fail
        go_quiet (fail)
        have HRW2 : Hid (SRow B (wr.drewN nq) g n c D) := HRW
        have HOW2 := Lib.hid (HOW.out.drewN nq)
        clear HRW HOW HSC
        generalize wr.drewN nq = W2 at *
        go_wp2_with fail
        go_meet
        case rel => exact ⟨by rw [HKI.out], Lib.hid ⟨HRW2.out, HOW2.out⟩⟩
  case rest =>
  rename World => w3
  obtain ⟨rfl, hcut2⟩ := hcut
  have HROW3 := Lib.hid hcut2.out.1
  have HON3 := Lib.hid hcut2.out.2
  clear hcut2 HROW2 HON2 HJ
  by_cases hJI : J < I
  · have d1 : decide ((J : Int) < (I : Int)) = true := decide_eq_true (by omega)
    have d1n : decide (J < I) = true := decide_eq_true hJI
    have hr := HR.out
    rw [if_pos hJI] at hr
    obtain ⟨hr1, hr2⟩ := Prod.mk.inj hr
    obtain ⟨hr2, hr3⟩ := Prod.mk.inj hr2
    subst hr1 hr2 hr3
    clear hr
    clear HR
    go_upto_region 8 with fail
    go_cut [] from 66 to 79 (fun w' => Hid (SRow B w' g n c (swp D J a) ∧ Only w w' (fun q => q = g)))
    case first =>
      by_cases hij : J = a
      · have hij2 := hij.symm
        subst hij2
        have aa : (0 : Int) ≤ (a : Int) := by omega
        have ab : (a : Int) < (n : Int) := by omega
        have ac : a < n := by omega
        have ae : IntKind.i64.wrap (a : Int) = (a : Int) := by rw [IntKind.wrap_i64]; omega
        obtain ⟨hk1, hf1⟩ := HROW3.out.get (i := a) (by omega)
        obtain ⟨hk0, hf0⟩ := HROW3.out.get (i := a) (by omega)
        have HRB := Lib.hid (HROW3.out.swp (i := a) (j := a) (by omega) (by omega))
        have HOB := Lib.hid (one_only HON3.out (swp_only w3 g a a (.int .u64 D[a]!) (.int .u64 D[a]!)))
        obtain ⟨bsx, hbsx⟩ : ∃ x, x = D[a]! := ⟨_, rfl⟩
        rw [← hbsx] at hk1 HRB HOB hk0
        clear hbsx
        clear HROW3 HON3
        have hd1bs : w3.drew.cell? ⟨g, a, none⟩ = some (.int .u64 bsx) := hk1
        have hd0bs : w3.drew.cell? ⟨g, a, none⟩ = some (.int .u64 bsx) := hk0
        refine region_anyZ (z := 12) (S := fun w' => w'.cell? ⟨g, a, none⟩ = some (.int .u64 bsx) ∧ w'.cell? ⟨g, a, none⟩ = some (.int .u64 bsx)) (by kernel_rfl) ?_
        refine anyZ_begin (fun hcl0 => ?_)
        refine anyZ_held (by exact ⟨hd1bs, hd0bs⟩) (fun hHeld => ?_)
        -- 0: Op.move (Operand.tmp 0)
        refine' anyZ_pure (i := 0) (v := _) rfl (by rfl) (by kernel_rfl) (by kernel_rfl) (by kernel_rfl) hcl0 (fun _ _ _ h => h) (Or.inl ⟨by rfl, fun w _ => ?hbs1⟩) (fun _ => hHeld) (fun hcl1 => ?rbs1)
        case hbs1 => (simp only [List.getElem_toArray, List.getElem_cons_zero]; first | (go_simp; with_reducible rfl) | (go_simp; done) | rfl)
        simp only [List.getElem_toArray, List.getElem_cons_zero, Act.put, List.setIfInBounds_toArray, List.set_cons_zero, List.set_cons_succ]
        -- 1: Op.move (Operand.tmp 11)
        refine' anyZ_pure (i := 1) (v := _) rfl (by rfl) (by kernel_rfl) (by kernel_rfl) (by kernel_rfl) hcl1 (fun _ _ _ h => h) (Or.inl ⟨by rfl, fun w _ => ?hbs2⟩) (fun _ => hHeld) (fun hcl2 => ?rbs2)
        case hbs2 => (simp only [List.getElem_toArray, List.getElem_cons_succ, List.getElem_cons_zero]; first | (go_simp; with_reducible rfl) | (go_simp; done) | rfl)
        simp only [List.getElem_toArray, List.getElem_cons_succ, List.getElem_cons_zero, Act.put, List.setIfInBounds_toArray, List.set_cons_zero, List.set_cons_succ]
        -- 2: Op.move (Operand.tmp 0)
        refine' anyZ_pure (i := 2) (v := _) rfl (by rfl) (by kernel_rfl) (by kernel_rfl) (by kernel_rfl) hcl2 (fun _ _ _ h => h) (Or.inl ⟨by rfl, fun w _ => ?hbs3⟩) (fun _ => hHeld) (fun hcl3 => ?rbs3)
        case hbs3 => (simp only [List.getElem_toArray, List.getElem_cons_succ, List.getElem_cons_zero]; first | (go_simp; with_reducible rfl) | (go_simp; done) | rfl)
        simp only [List.getElem_toArray, List.getElem_cons_succ, List.getElem_cons_zero, Act.put, List.setIfInBounds_toArray, List.set_cons_zero, List.set_cons_succ]
        -- 3: Op.move (Operand.tmp 1)
        refine' anyZ_pure (i := 3) (v := _) rfl (by rfl) (by kernel_rfl) (by kernel_rfl) (by kernel_rfl) hcl3 (fun _ _ _ h => h) (Or.inl ⟨by rfl, fun w _ => ?hbs4⟩) (fun _ => hHeld) (fun hcl4 => ?rbs4)
        case hbs4 => (simp only [List.getElem_toArray, List.getElem_cons_succ, List.getElem_cons_zero]; first | (go_simp; with_reducible rfl) | (go_simp; done) | rfl)
        simp only [List.getElem_toArray, List.getElem_cons_succ, List.getElem_cons_zero, Act.put, List.setIfInBounds_toArray, List.set_cons_zero, List.set_cons_succ]
        -- 4: Op.move (Operand.tmp 0)
        refine' anyZ_pure (i := 4) (v := _) rfl (by rfl) (by kernel_rfl) (by kernel_rfl) (by kernel_rfl) hcl4 (fun _ _ _ h => h) (Or.inl ⟨by rfl, fun w _ => ?hbs5⟩) (fun _ => hHeld) (fun hcl5 => ?rbs5)
        case hbs5 => (simp only [List.getElem_toArray, List.getElem_cons_succ, List.getElem_cons_zero]; first | (go_simp; with_reducible rfl) | (go_simp; done) | rfl)
        simp only [List.getElem_toArray, List.getElem_cons_succ, List.getElem_cons_zero, Act.put, List.setIfInBounds_toArray, List.set_cons_zero, List.set_cons_succ]
        -- 5: Op.move (Operand.tmp 1)
        refine' anyZ_pure (i := 5) (v := _) rfl (by rfl) (by kernel_rfl) (by kernel_rfl) (by kernel_rfl) hcl5 (fun _ _ _ h => h) (Or.inl ⟨by rfl, fun w _ => ?hbs6⟩) (fun _ => hHeld) (fun hcl6 => ?rbs6)
        case hbs6 => (simp only [List.getElem_toArray, List.getElem_cons_succ, List.getElem_cons_zero]; first | (go_simp; with_reducible rfl) | (go_simp; done) | rfl)
        simp only [List.getElem_toArray, List.getElem_cons_succ, List.getElem_cons_zero, Act.put, List.setIfInBounds_toArray, List.set_cons_zero, List.set_cons_succ]
        -- 6: Op.indexAddr 27 (Operand.tmp 70) (Operand.tmp 71)
        refine' anyZ_pure (i := 6) (v := _) rfl (by rfl) (by kernel_rfl) (by kernel_rfl) (by kernel_rfl) hcl6 (fun _ _ _ h => h) (Or.inl ⟨by rfl, fun w _ => ?hbs7⟩) (fun _ => hHeld) (fun hcl7 => ?rbs7)
        case hbs7 => (simp only [List.getElem_toArray, List.getElem_cons_succ, List.getElem_cons_zero]; first | (go_simp; with_reducible rfl) | (go_simp; done) | rfl)
        simp only [List.getElem_toArray, List.getElem_cons_succ, List.getElem_cons_zero, Act.put, List.setIfInBounds_toArray, List.set_cons_zero, List.set_cons_succ]
        -- 7: Op.load 26 (Operand.tmp 72)
        refine' anyZ_take (i := 7) (v := _) rfl (by rfl) (by kernel_rfl) (by kernel_rfl) (by kernel_rfl) hcl7 14 (by kernel_rfl) (by kernel_rfl) (fun _ _ _ h => h) (Or.inl ⟨by rfl, fun w hSw => ?hbs8⟩) hHeld (fun hcl8 => ?rbs8)
        case hbs8 => (simp only [List.getElem_toArray, List.getElem_cons_succ, List.getElem_cons_zero]; obtain ⟨hS1, hS2⟩ := hSw; first | (go_simp; with_reducible rfl) | (go_simp; done) | rfl)
        simp only [List.getElem_toArray, List.getElem_cons_succ, List.getElem_cons_zero, Act.put, List.setIfInBounds_toArray, List.set_cons_zero, List.set_cons_succ]
        -- 8: Op.move (Operand.tmp 0)
        refine' anyZ_pure (i := 8) (v := _) rfl (by rfl) (by kernel_rfl) (by kernel_rfl) (by kernel_rfl) hcl8 (fun _ _ _ h => h) (Or.inl ⟨by rfl, fun w _ => ?hbs9⟩) (fun _ => hHeld) (fun hcl9 => ?rbs9)
        case hbs9 => (simp only [List.getElem_toArray, List.getElem_cons_succ, List.getElem_cons_zero]; first | (go_simp; with_reducible rfl) | (go_simp; done) | rfl)
        simp only [List.getElem_toArray, List.getElem_cons_succ, List.getElem_cons_zero, Act.put, List.setIfInBounds_toArray, List.set_cons_zero, List.set_cons_succ]
        -- 9: Op.move (Operand.tmp 11)
        refine' anyZ_pure (i := 9) (v := _) rfl (by rfl) (by kernel_rfl) (by kernel_rfl) (by kernel_rfl) hcl9 (fun _ _ _ h => h) (Or.inl ⟨by rfl, fun w _ => ?hbs10⟩) (fun _ => hHeld) (fun hcl10 => ?rbs10)
        case hbs10 => (simp only [List.getElem_toArray, List.getElem_cons_succ, List.getElem_cons_zero]; first | (go_simp; with_reducible rfl) | (go_simp; done) | rfl)
        simp only [List.getElem_toArray, List.getElem_cons_succ, List.getElem_cons_zero, Act.put, List.setIfInBounds_toArray, List.set_cons_zero, List.set_cons_succ]
        -- 10: Op.indexAddr 27 (Operand.tmp 74) (Operand.tmp 75)
        refine' anyZ_pure (i := 10) (v := _) rfl (by rfl) (by kernel_rfl) (by kernel_rfl) (by kernel_rfl) hcl10 (fun _ _ _ h => h) (Or.inl ⟨by rfl, fun w _ => ?hbs11⟩) (fun _ => hHeld) (fun hcl11 => ?rbs11)
        case hbs11 => (simp only [List.getElem_toArray, List.getElem_cons_succ, List.getElem_cons_zero]; first | (go_simp; with_reducible rfl) | (go_simp; done) | rfl)
        simp only [List.getElem_toArray, List.getElem_cons_succ, List.getElem_cons_zero, Act.put, List.setIfInBounds_toArray, List.set_cons_zero, List.set_cons_succ]
        -- 11: Op.load 26 (Operand.tmp 76)
        refine' anyZ_take (i := 11) (v := _) rfl (by rfl) (by kernel_rfl) (by kernel_rfl) (by kernel_rfl) hcl11 14 (by kernel_rfl) (by kernel_rfl) (fun _ _ _ h => h) (Or.inl ⟨by rfl, fun w hSw => ?hbs12⟩) hHeld (fun hcl12 => ?rbs12)
        case hbs12 => (simp only [List.getElem_toArray, List.getElem_cons_succ, List.getElem_cons_zero]; obtain ⟨hS1, hS2⟩ := hSw; first | (go_simp; with_reducible rfl) | (go_simp; done) | rfl)
        simp only [List.getElem_toArray, List.getElem_cons_succ, List.getElem_cons_zero, Act.put, List.setIfInBounds_toArray, List.set_cons_zero, List.set_cons_succ]
        clear hHeld
        refine anyZ_chain_at (by kernel_rfl) ?_
        simp only [List.drop_succ_cons, List.drop_zero]
        go_wp2_with fail
        go_meet
        case rel => exact Lib.hid ⟨HRB.out, HOB.out.drew⟩
      · have hne : ¬ J = a := hij
        have hne2 : ¬ a = J := fun h => hij h.symm
        have Ja : (0 : Int) ≤ (J : Int) := by omega
        have Jb : (J : Int) < (n : Int) := by omega
        have Jc : J < n := by omega
        have Je : IntKind.i64.wrap (J : Int) = (J : Int) := by rw [IntKind.wrap_i64]; omega
        have aa : (0 : Int) ≤ (a : Int) := by omega
        have ab : (a : Int) < (n : Int) := by omega
        have ac : a < n := by omega
        have ae : IntKind.i64.wrap (a : Int) = (a : Int) := by rw [IntKind.wrap_i64]; omega
        obtain ⟨hk1, hf1⟩ := HROW3.out.get (i := J) (by omega)
        obtain ⟨hk0, hf0⟩ := HROW3.out.get (i := a) (by omega)
        have HRB := Lib.hid (HROW3.out.swp (i := J) (j := a) (by omega) (by omega))
        have HOB := Lib.hid (one_only HON3.out (swp_only w3 g J a (.int .u64 D[a]!) (.int .u64 D[J]!)))
        obtain ⟨bdx, hbdx⟩ : ∃ x, x = D[J]! := ⟨_, rfl⟩
        rw [← hbdx] at hk1 HRB HOB
        clear hbdx
        obtain ⟨bdy, hbdy⟩ : ∃ x, x = D[a]! := ⟨_, rfl⟩
        rw [← hbdy] at hk0 HRB HOB
        clear hbdy
        clear HROW3 HON3
        have hd1bd : w3.drew.cell? ⟨g, J, none⟩ = some (.int .u64 bdx) := hk1
        have hd0bd : w3.drew.cell? ⟨g, a, none⟩ = some (.int .u64 bdy) := hk0
        refine region_anyZ (z := 12) (S := fun w' => w'.cell? ⟨g, J, none⟩ = some (.int .u64 bdx) ∧ w'.cell? ⟨g, a, none⟩ = some (.int .u64 bdy)) (by kernel_rfl) ?_
        refine anyZ_begin (fun hcl0 => ?_)
        refine anyZ_held (by exact ⟨hd1bd, hd0bd⟩) (fun hHeld => ?_)
        -- 0: Op.move (Operand.tmp 0)
        refine' anyZ_pure (i := 0) (v := _) rfl (by rfl) (by kernel_rfl) (by kernel_rfl) (by kernel_rfl) hcl0 (fun _ _ _ h => h) (Or.inl ⟨by rfl, fun w _ => ?hbd1⟩) (fun _ => hHeld) (fun hcl1 => ?rbd1)
        case hbd1 => (simp only [List.getElem_toArray, List.getElem_cons_zero]; first | (go_simp; with_reducible rfl) | (go_simp; done) | rfl)
        simp only [List.getElem_toArray, List.getElem_cons_zero, Act.put, List.setIfInBounds_toArray, List.set_cons_zero, List.set_cons_succ]
        -- 1: Op.move (Operand.tmp 11)
        refine' anyZ_pure (i := 1) (v := _) rfl (by rfl) (by kernel_rfl) (by kernel_rfl) (by kernel_rfl) hcl1 (fun _ _ _ h => h) (Or.inl ⟨by rfl, fun w _ => ?hbd2⟩) (fun _ => hHeld) (fun hcl2 => ?rbd2)
        case hbd2 => (simp only [List.getElem_toArray, List.getElem_cons_succ, List.getElem_cons_zero]; first | (go_simp; with_reducible rfl) | (go_simp; done) | rfl)
        simp only [List.getElem_toArray, List.getElem_cons_succ, List.getElem_cons_zero, Act.put, List.setIfInBounds_toArray, List.set_cons_zero, List.set_cons_succ]
        -- 2: Op.move (Operand.tmp 0)
        refine' anyZ_pure (i := 2) (v := _) rfl (by rfl) (by kernel_rfl) (by kernel_rfl) (by kernel_rfl) hcl2 (fun _ _ _ h => h) (Or.inl ⟨by rfl, fun w _ => ?hbd3⟩) (fun _ => hHeld) (fun hcl3 => ?rbd3)
        case hbd3 => (simp only [List.getElem_toArray, List.getElem_cons_succ, List.getElem_cons_zero]; first | (go_simp; with_reducible rfl) | (go_simp; done) | rfl)
        simp only [List.getElem_toArray, List.getElem_cons_succ, List.getElem_cons_zero, Act.put, List.setIfInBounds_toArray, List.set_cons_zero, List.set_cons_succ]
        -- 3: Op.move (Operand.tmp 1)
        refine' anyZ_pure (i := 3) (v := _) rfl (by rfl) (by kernel_rfl) (by kernel_rfl) (by kernel_rfl) hcl3 (fun _ _ _ h => h) (Or.inl ⟨by rfl, fun w _ => ?hbd4⟩) (fun _ => hHeld) (fun hcl4 => ?rbd4)
        case hbd4 => (simp only [List.getElem_toArray, List.getElem_cons_succ, List.getElem_cons_zero]; first | (go_simp; with_reducible rfl) | (go_simp; done) | rfl)
        simp only [List.getElem_toArray, List.getElem_cons_succ, List.getElem_cons_zero, Act.put, List.setIfInBounds_toArray, List.set_cons_zero, List.set_cons_succ]
        -- 4: Op.move (Operand.tmp 0)
        refine' anyZ_pure (i := 4) (v := _) rfl (by rfl) (by kernel_rfl) (by kernel_rfl) (by kernel_rfl) hcl4 (fun _ _ _ h => h) (Or.inl ⟨by rfl, fun w _ => ?hbd5⟩) (fun _ => hHeld) (fun hcl5 => ?rbd5)
        case hbd5 => (simp only [List.getElem_toArray, List.getElem_cons_succ, List.getElem_cons_zero]; first | (go_simp; with_reducible rfl) | (go_simp; done) | rfl)
        simp only [List.getElem_toArray, List.getElem_cons_succ, List.getElem_cons_zero, Act.put, List.setIfInBounds_toArray, List.set_cons_zero, List.set_cons_succ]
        -- 5: Op.move (Operand.tmp 1)
        refine' anyZ_pure (i := 5) (v := _) rfl (by rfl) (by kernel_rfl) (by kernel_rfl) (by kernel_rfl) hcl5 (fun _ _ _ h => h) (Or.inl ⟨by rfl, fun w _ => ?hbd6⟩) (fun _ => hHeld) (fun hcl6 => ?rbd6)
        case hbd6 => (simp only [List.getElem_toArray, List.getElem_cons_succ, List.getElem_cons_zero]; first | (go_simp; with_reducible rfl) | (go_simp; done) | rfl)
        simp only [List.getElem_toArray, List.getElem_cons_succ, List.getElem_cons_zero, Act.put, List.setIfInBounds_toArray, List.set_cons_zero, List.set_cons_succ]
        -- 6: Op.indexAddr 27 (Operand.tmp 70) (Operand.tmp 71)
        refine' anyZ_pure (i := 6) (v := _) rfl (by rfl) (by kernel_rfl) (by kernel_rfl) (by kernel_rfl) hcl6 (fun _ _ _ h => h) (Or.inl ⟨by rfl, fun w _ => ?hbd7⟩) (fun _ => hHeld) (fun hcl7 => ?rbd7)
        case hbd7 => (simp only [List.getElem_toArray, List.getElem_cons_succ, List.getElem_cons_zero]; first | (go_simp; with_reducible rfl) | (go_simp; done) | rfl)
        simp only [List.getElem_toArray, List.getElem_cons_succ, List.getElem_cons_zero, Act.put, List.setIfInBounds_toArray, List.set_cons_zero, List.set_cons_succ]
        -- 7: Op.load 26 (Operand.tmp 72)
        refine' anyZ_take (i := 7) (v := _) rfl (by rfl) (by kernel_rfl) (by kernel_rfl) (by kernel_rfl) hcl7 14 (by kernel_rfl) (by kernel_rfl) (fun _ _ _ h => h) (Or.inl ⟨by rfl, fun w hSw => ?hbd8⟩) hHeld (fun hcl8 => ?rbd8)
        case hbd8 => (simp only [List.getElem_toArray, List.getElem_cons_succ, List.getElem_cons_zero]; obtain ⟨hS1, hS2⟩ := hSw; first | (go_simp; with_reducible rfl) | (go_simp; done) | rfl)
        simp only [List.getElem_toArray, List.getElem_cons_succ, List.getElem_cons_zero, Act.put, List.setIfInBounds_toArray, List.set_cons_zero, List.set_cons_succ]
        -- 8: Op.move (Operand.tmp 0)
        refine' anyZ_pure (i := 8) (v := _) rfl (by rfl) (by kernel_rfl) (by kernel_rfl) (by kernel_rfl) hcl8 (fun _ _ _ h => h) (Or.inl ⟨by rfl, fun w _ => ?hbd9⟩) (fun _ => hHeld) (fun hcl9 => ?rbd9)
        case hbd9 => (simp only [List.getElem_toArray, List.getElem_cons_succ, List.getElem_cons_zero]; first | (go_simp; with_reducible rfl) | (go_simp; done) | rfl)
        simp only [List.getElem_toArray, List.getElem_cons_succ, List.getElem_cons_zero, Act.put, List.setIfInBounds_toArray, List.set_cons_zero, List.set_cons_succ]
        -- 9: Op.move (Operand.tmp 11)
        refine' anyZ_pure (i := 9) (v := _) rfl (by rfl) (by kernel_rfl) (by kernel_rfl) (by kernel_rfl) hcl9 (fun _ _ _ h => h) (Or.inl ⟨by rfl, fun w _ => ?hbd10⟩) (fun _ => hHeld) (fun hcl10 => ?rbd10)
        case hbd10 => (simp only [List.getElem_toArray, List.getElem_cons_succ, List.getElem_cons_zero]; first | (go_simp; with_reducible rfl) | (go_simp; done) | rfl)
        simp only [List.getElem_toArray, List.getElem_cons_succ, List.getElem_cons_zero, Act.put, List.setIfInBounds_toArray, List.set_cons_zero, List.set_cons_succ]
        -- 10: Op.indexAddr 27 (Operand.tmp 74) (Operand.tmp 75)
        refine' anyZ_pure (i := 10) (v := _) rfl (by rfl) (by kernel_rfl) (by kernel_rfl) (by kernel_rfl) hcl10 (fun _ _ _ h => h) (Or.inl ⟨by rfl, fun w _ => ?hbd11⟩) (fun _ => hHeld) (fun hcl11 => ?rbd11)
        case hbd11 => (simp only [List.getElem_toArray, List.getElem_cons_succ, List.getElem_cons_zero]; first | (go_simp; with_reducible rfl) | (go_simp; done) | rfl)
        simp only [List.getElem_toArray, List.getElem_cons_succ, List.getElem_cons_zero, Act.put, List.setIfInBounds_toArray, List.set_cons_zero, List.set_cons_succ]
        -- 11: Op.load 26 (Operand.tmp 76)
        refine' anyZ_take (i := 11) (v := _) rfl (by rfl) (by kernel_rfl) (by kernel_rfl) (by kernel_rfl) hcl11 14 (by kernel_rfl) (by kernel_rfl) (fun _ _ _ h => h) (Or.inl ⟨by rfl, fun w hSw => ?hbd12⟩) hHeld (fun hcl12 => ?rbd12)
        case hbd12 => (simp only [List.getElem_toArray, List.getElem_cons_succ, List.getElem_cons_zero]; obtain ⟨hS1, hS2⟩ := hSw; first | (go_simp; with_reducible rfl) | (go_simp; done) | rfl)
        simp only [List.getElem_toArray, List.getElem_cons_succ, List.getElem_cons_zero, Act.put, List.setIfInBounds_toArray, List.set_cons_zero, List.set_cons_succ]
        clear hHeld
        refine anyZ_chain_at (by kernel_rfl) ?_
        simp only [List.drop_succ_cons, List.drop_zero]
        go_wp2_with fail
        go_meet
        case rel => exact Lib.hid ⟨HRB.out, HOB.out.drew⟩
    case rest =>
    rename World => w4
    have HROW4 := Lib.hid hcut.out.1
    have HON4 := Lib.hid hcut.out.2
    clear hcut HROW3 HON3
    go_wp2_with fail
    go_ret2
    exact ⟨rfl, HROW4.out, HON4.out⟩
  · have d1 : decide ((J : Int) < (I : Int)) = false := decide_eq_false (by omega)
    have d1n : decide (J < I) = false := decide_eq_false hJI
    have hr := HR.out
    rw [if_neg hJI] at hr
    have HR2 := Lib.hid hr
    have hIJ := HS5.out hJI
    clear HR hr HS5
    go_upto_region 10 with fail
    go_cut [] from 81 to 94 (fun w' => Hid (SRow B w' g n c (swp D I J) ∧ Only w w' (fun q => q = g)))
    case first =>
      have hne : ¬ I = J := by omega
      have hne2 : ¬ J = I := by omega
      have Ia : (0 : Int) ≤ (I : Int) := by omega
      have Ib : (I : Int) < (n : Int) := by omega
      have Ic : I < n := by omega
      have Ie : IntKind.i64.wrap (I : Int) = (I : Int) := by rw [IntKind.wrap_i64]; omega
      have Ja : (0 : Int) ≤ (J : Int) := by omega
      have Jb : (J : Int) < (n : Int) := by omega
      have Jc : J < n := by omega
      have Je : IntKind.i64.wrap (J : Int) = (J : Int) := by rw [IntKind.wrap_i64]; omega
      obtain ⟨hk1, hf1⟩ := HROW3.out.get (i := I) (by omega)
      obtain ⟨hk0, hf0⟩ := HROW3.out.get (i := J) (by omega)
      have HRB := Lib.hid (HROW3.out.swp (i := I) (j := J) (by omega) (by omega))
      have HOB := Lib.hid (one_only HON3.out (swp_only w3 g I J (.int .u64 D[J]!) (.int .u64 D[I]!)))
      obtain ⟨cdx, hcdx⟩ : ∃ x, x = D[I]! := ⟨_, rfl⟩
      rw [← hcdx] at hk1 HRB HOB
      clear hcdx
      obtain ⟨cdy, hcdy⟩ : ∃ x, x = D[J]! := ⟨_, rfl⟩
      rw [← hcdy] at hk0 HRB HOB
      clear hcdy
      clear HROW3 HON3
      have hd1cd : w3.drew.cell? ⟨g, I, none⟩ = some (.int .u64 cdx) := hk1
      have hd0cd : w3.drew.cell? ⟨g, J, none⟩ = some (.int .u64 cdy) := hk0
      refine region_anyZ (z := 12) (S := fun w' => w'.cell? ⟨g, I, none⟩ = some (.int .u64 cdx) ∧ w'.cell? ⟨g, J, none⟩ = some (.int .u64 cdy)) (by kernel_rfl) ?_
      refine anyZ_begin (fun hcl0 => ?_)
      refine anyZ_held (by exact ⟨hd1cd, hd0cd⟩) (fun hHeld => ?_)
      -- 0: Op.move (Operand.tmp 0)
      refine' anyZ_pure (i := 0) (v := _) rfl (by rfl) (by kernel_rfl) (by kernel_rfl) (by kernel_rfl) hcl0 (fun _ _ _ h => h) (Or.inl ⟨by rfl, fun w _ => ?hcd1⟩) (fun _ => hHeld) (fun hcl1 => ?rcd1)
      case hcd1 => (simp only [List.getElem_toArray, List.getElem_cons_zero]; first | (go_simp; with_reducible rfl) | (go_simp; done) | rfl)
      simp only [List.getElem_toArray, List.getElem_cons_zero, Act.put, List.setIfInBounds_toArray, List.set_cons_zero, List.set_cons_succ]
      -- 1: Op.move (Operand.tmp 10)
      refine' anyZ_pure (i := 1) (v := _) rfl (by rfl) (by kernel_rfl) (by kernel_rfl) (by kernel_rfl) hcl1 (fun _ _ _ h => h) (Or.inl ⟨by rfl, fun w _ => ?hcd2⟩) (fun _ => hHeld) (fun hcl2 => ?rcd2)
      case hcd2 => (simp only [List.getElem_toArray, List.getElem_cons_succ, List.getElem_cons_zero]; first | (go_simp; with_reducible rfl) | (go_simp; done) | rfl)
      simp only [List.getElem_toArray, List.getElem_cons_succ, List.getElem_cons_zero, Act.put, List.setIfInBounds_toArray, List.set_cons_zero, List.set_cons_succ]
      -- 2: Op.move (Operand.tmp 0)
      refine' anyZ_pure (i := 2) (v := _) rfl (by rfl) (by kernel_rfl) (by kernel_rfl) (by kernel_rfl) hcl2 (fun _ _ _ h => h) (Or.inl ⟨by rfl, fun w _ => ?hcd3⟩) (fun _ => hHeld) (fun hcl3 => ?rcd3)
      case hcd3 => (simp only [List.getElem_toArray, List.getElem_cons_succ, List.getElem_cons_zero]; first | (go_simp; with_reducible rfl) | (go_simp; done) | rfl)
      simp only [List.getElem_toArray, List.getElem_cons_succ, List.getElem_cons_zero, Act.put, List.setIfInBounds_toArray, List.set_cons_zero, List.set_cons_succ]
      -- 3: Op.move (Operand.tmp 11)
      refine' anyZ_pure (i := 3) (v := _) rfl (by rfl) (by kernel_rfl) (by kernel_rfl) (by kernel_rfl) hcl3 (fun _ _ _ h => h) (Or.inl ⟨by rfl, fun w _ => ?hcd4⟩) (fun _ => hHeld) (fun hcl4 => ?rcd4)
      case hcd4 => (simp only [List.getElem_toArray, List.getElem_cons_succ, List.getElem_cons_zero]; first | (go_simp; with_reducible rfl) | (go_simp; done) | rfl)
      simp only [List.getElem_toArray, List.getElem_cons_succ, List.getElem_cons_zero, Act.put, List.setIfInBounds_toArray, List.set_cons_zero, List.set_cons_succ]
      -- 4: Op.move (Operand.tmp 0)
      refine' anyZ_pure (i := 4) (v := _) rfl (by rfl) (by kernel_rfl) (by kernel_rfl) (by kernel_rfl) hcl4 (fun _ _ _ h => h) (Or.inl ⟨by rfl, fun w _ => ?hcd5⟩) (fun _ => hHeld) (fun hcl5 => ?rcd5)
      case hcd5 => (simp only [List.getElem_toArray, List.getElem_cons_succ, List.getElem_cons_zero]; first | (go_simp; with_reducible rfl) | (go_simp; done) | rfl)
      simp only [List.getElem_toArray, List.getElem_cons_succ, List.getElem_cons_zero, Act.put, List.setIfInBounds_toArray, List.set_cons_zero, List.set_cons_succ]
      -- 5: Op.move (Operand.tmp 11)
      refine' anyZ_pure (i := 5) (v := _) rfl (by rfl) (by kernel_rfl) (by kernel_rfl) (by kernel_rfl) hcl5 (fun _ _ _ h => h) (Or.inl ⟨by rfl, fun w _ => ?hcd6⟩) (fun _ => hHeld) (fun hcl6 => ?rcd6)
      case hcd6 => (simp only [List.getElem_toArray, List.getElem_cons_succ, List.getElem_cons_zero]; first | (go_simp; with_reducible rfl) | (go_simp; done) | rfl)
      simp only [List.getElem_toArray, List.getElem_cons_succ, List.getElem_cons_zero, Act.put, List.setIfInBounds_toArray, List.set_cons_zero, List.set_cons_succ]
      -- 6: Op.indexAddr 27 (Operand.tmp 85) (Operand.tmp 86)
      refine' anyZ_pure (i := 6) (v := _) rfl (by rfl) (by kernel_rfl) (by kernel_rfl) (by kernel_rfl) hcl6 (fun _ _ _ h => h) (Or.inl ⟨by rfl, fun w _ => ?hcd7⟩) (fun _ => hHeld) (fun hcl7 => ?rcd7)
      case hcd7 => (simp only [List.getElem_toArray, List.getElem_cons_succ, List.getElem_cons_zero]; first | (go_simp; with_reducible rfl) | (go_simp; done) | rfl)
      simp only [List.getElem_toArray, List.getElem_cons_succ, List.getElem_cons_zero, Act.put, List.setIfInBounds_toArray, List.set_cons_zero, List.set_cons_succ]
      -- 7: Op.load 26 (Operand.tmp 87)
      refine' anyZ_take (i := 7) (v := _) rfl (by rfl) (by kernel_rfl) (by kernel_rfl) (by kernel_rfl) hcl7 14 (by kernel_rfl) (by kernel_rfl) (fun _ _ _ h => h) (Or.inl ⟨by rfl, fun w hSw => ?hcd8⟩) hHeld (fun hcl8 => ?rcd8)
      case hcd8 => (simp only [List.getElem_toArray, List.getElem_cons_succ, List.getElem_cons_zero]; obtain ⟨hS1, hS2⟩ := hSw; first | (go_simp; with_reducible rfl) | (go_simp; done) | rfl)
      simp only [List.getElem_toArray, List.getElem_cons_succ, List.getElem_cons_zero, Act.put, List.setIfInBounds_toArray, List.set_cons_zero, List.set_cons_succ]
      -- 8: Op.move (Operand.tmp 0)
      refine' anyZ_pure (i := 8) (v := _) rfl (by rfl) (by kernel_rfl) (by kernel_rfl) (by kernel_rfl) hcl8 (fun _ _ _ h => h) (Or.inl ⟨by rfl, fun w _ => ?hcd9⟩) (fun _ => hHeld) (fun hcl9 => ?rcd9)
      case hcd9 => (simp only [List.getElem_toArray, List.getElem_cons_succ, List.getElem_cons_zero]; first | (go_simp; with_reducible rfl) | (go_simp; done) | rfl)
      simp only [List.getElem_toArray, List.getElem_cons_succ, List.getElem_cons_zero, Act.put, List.setIfInBounds_toArray, List.set_cons_zero, List.set_cons_succ]
      -- 9: Op.move (Operand.tmp 10)
      refine' anyZ_pure (i := 9) (v := _) rfl (by rfl) (by kernel_rfl) (by kernel_rfl) (by kernel_rfl) hcl9 (fun _ _ _ h => h) (Or.inl ⟨by rfl, fun w _ => ?hcd10⟩) (fun _ => hHeld) (fun hcl10 => ?rcd10)
      case hcd10 => (simp only [List.getElem_toArray, List.getElem_cons_succ, List.getElem_cons_zero]; first | (go_simp; with_reducible rfl) | (go_simp; done) | rfl)
      simp only [List.getElem_toArray, List.getElem_cons_succ, List.getElem_cons_zero, Act.put, List.setIfInBounds_toArray, List.set_cons_zero, List.set_cons_succ]
      -- 10: Op.indexAddr 27 (Operand.tmp 89) (Operand.tmp 90)
      refine' anyZ_pure (i := 10) (v := _) rfl (by rfl) (by kernel_rfl) (by kernel_rfl) (by kernel_rfl) hcl10 (fun _ _ _ h => h) (Or.inl ⟨by rfl, fun w _ => ?hcd11⟩) (fun _ => hHeld) (fun hcl11 => ?rcd11)
      case hcd11 => (simp only [List.getElem_toArray, List.getElem_cons_succ, List.getElem_cons_zero]; first | (go_simp; with_reducible rfl) | (go_simp; done) | rfl)
      simp only [List.getElem_toArray, List.getElem_cons_succ, List.getElem_cons_zero, Act.put, List.setIfInBounds_toArray, List.set_cons_zero, List.set_cons_succ]
      -- 11: Op.load 26 (Operand.tmp 91)
      refine' anyZ_take (i := 11) (v := _) rfl (by rfl) (by kernel_rfl) (by kernel_rfl) (by kernel_rfl) hcl11 14 (by kernel_rfl) (by kernel_rfl) (fun _ _ _ h => h) (Or.inl ⟨by rfl, fun w hSw => ?hcd12⟩) hHeld (fun hcl12 => ?rcd12)
      case hcd12 => (simp only [List.getElem_toArray, List.getElem_cons_succ, List.getElem_cons_zero]; obtain ⟨hS1, hS2⟩ := hSw; first | (go_simp; with_reducible rfl) | (go_simp; done) | rfl)
      simp only [List.getElem_toArray, List.getElem_cons_succ, List.getElem_cons_zero, Act.put, List.setIfInBounds_toArray, List.set_cons_zero, List.set_cons_succ]
      clear hHeld
      refine anyZ_chain_at (by kernel_rfl) ?_
      simp only [List.drop_succ_cons, List.drop_zero]
      go_wp2_with fail
      go_meet
      case rel => exact Lib.hid ⟨HRB.out, HOB.out.drew⟩
    case rest =>
    rename World => w4
    have HROW4 := Lib.hid hcut.out.1
    have HON4 := Lib.hid hcut.out.2
    clear hcut HROW3 HON3
    obtain ⟨P1, P2, hP⟩ : ∃ P1 P2, partLoop ltN a (I + 1) (J - 1) (swp D I J) = (P1, P2) := ⟨_, _, rfl⟩
    have hr := HR2.out
    rw [hP] at hr
    obtain ⟨hr1, hr2⟩ := Prod.mk.inj hr
    obtain ⟨hr2, hr3⟩ := Prod.mk.inj hr2
    have hr1' : P1 = R1 := hr1
    subst hr1' hr2 hr3
    clear hr hr1
    have HP := Lib.hid hP
    have HPV4 : Hid ((swp D I J)[a]! = pv) := Lib.hid (by rw [swp_other D I J a (by omega) (by omega)]; exact HPV.out)
    clear HR2 hP HPV
    go_upto_block 4 with fail
    go_cut [10, 11] from 99 to 152 (fun _ t w' => t = .int .i64 (P1 : Nat) ∧ a ≤ P1 ∧ P1 < b ∧ Hid (SRow B w' g n c P2 ∧ Only w w' (fun q => q = g)))
    case first =>
      go_wp2_with fail
      go_loopw [10, 11] (fun i j wr => ∃ (u v : Nat) (d' : Array Nat), a < u ∧ u ≤ v + 1 ∧ v < b ∧ i = .int .i64 u ∧ j = .int .i64 v ∧ Hid (partLoop ltN a u v d' = (P1, P2) ∧ d'[a]! = pv ∧ SRow B wr g n c d' ∧ Only w wr (fun q => q = g))) (fun i j _ => (intOf j + 2 - intOf i).toNat)
      case atStart => exact ⟨I + 1, J - 1, swp D I J, by omega, by omega, by omega, by first | rfl | (congr 1; omega), by first | rfl | (congr 1; omega), Lib.hid ⟨HP.out, HPV4.out, HROW4.out, HON4.out⟩⟩
      case round =>
        clear HP HPV4 HROW4 HON4
        obtain ⟨u, v, d', hu1, huv, hvb, rfl, rfl, hin⟩ := hrel
        have HQ := Lib.hid hin.out.1
        have HPV := Lib.hid hin.out.2.1
        have HROW := Lib.hid hin.out.2.2.1
        have HON := Lib.hid hin.out.2.2.2
        obtain ⟨I2, hI⟩ : ∃ I, scanUp (fun x => ltN x pv) d' v u = I := ⟨_, rfl⟩
        obtain ⟨J2, hJ⟩ : ∃ J, scanDown (fun x => !ltN x pv) d' I2 v = J := ⟨_, rfl⟩
        obtain ⟨t1, t2, t3, t4, t5⟩ := scans (q := fun x => !ltN x pv) (fun _ => rfl) hI hJ (by omega) (by omega)
        have HT5 := Lib.hid t5
        have HI := Lib.hid hI
        have HJ := Lib.hid hJ
        have HI0 := Lib.hid hI
        have HJ0 := Lib.hid hJ
        clear hin hI hJ t5
        go_upto_block 6 with fail
        go_cut [10] from 99 to 114 (fun t w' => t = .int .i64 (I2 : Nat) ∧ Hid (SRow B w' g n c d' ∧ Only w w' (fun q => q = g)))
        case first =>
          go_wp2_with fail
          go_loopw [10] (fun i ws => ∃ k : Nat, u ≤ k ∧ k ≤ v + 1 ∧ i = .int .i64 k ∧ Hid (scanUp (fun x => ltN x pv) d' v k = I2 ∧ SRow B ws g n c d' ∧ Only w ws (fun q => q = g))) (fun i _ => v + 2 - (intOf i).toNat)
          case atStart => exact ⟨u, by omega, by omega, by first | rfl | (congr 1; omega), Lib.hid ⟨HI.out, HROW.out, HON.out⟩⟩
          case round =>
            clear HROW HON HI
            obtain ⟨k, hk1, hk2, rfl, hin⟩ := hrel
            have HSC := Lib.hid hin.out.1
            have HRW := Lib.hid hin.out.2.1
            have HOW := Lib.hid hin.out.2.2
            clear hin
            by_cases hle : k ≤ v
            · have d1 : decide ((k : Int) ≤ (v : Int)) = true := decide_eq_true (by omega)
              have d1n : decide (k ≤ v) = true := decide_eq_true hle
              have ka : (0 : Int) ≤ (k : Int) := by omega
              have kb : (k : Int) < (n : Int) := by omega
              have kc : k < n := by omega
              have ke : IntKind.i64.wrap (k : Int) = (k : Int) := by rw [IntKind.wrap_i64]; omega
              have aa : (0 : Int) ≤ (a : Int) := by omega
              have ab : (a : Int) < (n : Int) := by omega
              have ac : a < n := by omega
              have ae : IntKind.i64.wrap (a : Int) = (a : Int) := by rw [IntKind.wrap_i64]; omega
              obtain ⟨kk, fk⟩ := HRW.out.get (i := k) (by omega)
              obtain ⟨ka, fa⟩ := HRW.out.get (i := a) (by omega)
              rw [HPV.out] at ka
              obtain ⟨x, hx⟩ : ∃ x, x = d'[k]! := ⟨_, rfl⟩
              rw [← hx] at kk
              have HX := Lib.hid hx
              clear hx
              go_upto_region 13 with fail
              go_quiet ((go_at_call 84; with_reducible exact Calls.quiet_of_same (less_any x pv _)))
              have HRW2 : Hid (SRow B (wr.drewN nq) g n c d') := HRW
              have HOW2 := Lib.hid (HOW.out.drewN nq)
              clear HRW HOW kk fk ka fa
              cases hxy : ltN x pv
              · skip
                have HKI : Hid (k = I2) := Lib.hid (by rw [← HSC.out, up_stop (p := (fun x => ltN x pv)) HX.out (by show (ltN x pv) = false; rw [hxy])])
                clear hxy HSC HX
                generalize wr.drewN nq = W2 at *
                go_wp2_with fail
                go_meet
                case rel => exact ⟨by rw [HKI.out], Lib.hid ⟨HRW2.out, HOW2.out⟩⟩
              · skip
                have HSC2 : Hid (scanUp (fun x => ltN x pv) d' v (k + 1) = I2) := Lib.hid (by rw [← HSC.out, up_go (p := (fun x => ltN x pv)) hle HX.out (by show (ltN x pv) = true; rw [hxy])])
                clear hxy HSC HX
                generalize wr.drewN nq = W2 at *
                go_wp2_with fail
                exact ⟨⟨k + 1, by omega, by omega, by go_num, Lib.hid ⟨HSC2.out, HRW2.out, HOW2.out⟩⟩, by simp [intOf]; omega⟩
            · have d1 : decide ((k : Int) ≤ (v : Int)) = false := decide_eq_false (by omega)
              have d1n : decide (k ≤ v) = false := decide_eq_false hle
              have HKI : Hid (k = I2) := Lib.hid (by rw [← HSC.out, up_end hle])
              go_upto_region 13 with fail
              go_quiet (fail)
              have HRW2 : Hid (SRow B (wr.drewN nq) g n c d') := HRW
              have HOW2 := Lib.hid (HOW.out.drewN nq)
              clear HRW HOW HSC
              generalize wr.drewN nq = W2 at *
              go_wp2_with fail
              go_meet
              case rel => exact ⟨by rw [HKI.out], Lib.hid ⟨HRW2.out, HOW2.out⟩⟩
        case rest =>
        rename World => w5
        obtain ⟨rfl, hcut2⟩ := hcut
        have HROW5 := Lib.hid hcut2.out.1
        have HON5 := Lib.hid hcut2.out.2
        clear hcut2 HROW HON HI
        go_upto_block 8 with fail
        go_cut [11] from 115 to 131 (fun t w' => t = .int .i64 (J2 : Nat) ∧ Hid (SRow B w' g n c d' ∧ Only w w' (fun q => q = g)))
        case first =>
          go_wp2_with fail
          go_loopw [11] (fun i ws => ∃ k : Nat, k ≤ v ∧ I2 ≤ k + 1 ∧ i = .int .i64 k ∧ Hid (scanDown (fun x => !ltN x pv) d' I2 k = J2 ∧ SRow B ws g n c d' ∧ Only w ws (fun q => q = g))) (fun i _ => (intOf i).toNat)
          case atStart => exact ⟨v, by omega, by omega, by first | rfl | (congr 1; omega), Lib.hid ⟨HJ.out, HROW5.out, HON5.out⟩⟩
          case round =>
            clear HROW5 HON5 HJ
            obtain ⟨k, hk1, hk2, rfl, hin⟩ := hrel
            have HSC := Lib.hid hin.out.1
            have HRW := Lib.hid hin.out.2.1
            have HOW := Lib.hid hin.out.2.2
            clear hin
            by_cases hle : I2 ≤ k
            · have d1 : decide ((I2 : Int) ≤ (k : Int)) = true := decide_eq_true (by omega)
              have d1n : decide (I2 ≤ k) = true := decide_eq_true hle
              have ka : (0 : Int) ≤ (k : Int) := by omega
              have kb : (k : Int) < (n : Int) := by omega
              have kc : k < n := by omega
              have ke : IntKind.i64.wrap (k : Int) = (k : Int) := by rw [IntKind.wrap_i64]; omega
              have aa : (0 : Int) ≤ (a : Int) := by omega
              have ab : (a : Int) < (n : Int) := by omega
              have ac : a < n := by omega
              have ae : IntKind.i64.wrap (a : Int) = (a : Int) := by rw [IntKind.wrap_i64]; omega
              obtain ⟨kk, fk⟩ := HRW.out.get (i := k) (by omega)
              obtain ⟨ka, fa⟩ := HRW.out.get (i := a) (by omega)
              rw [HPV.out] at ka
              obtain ⟨x, hx⟩ : ∃ x, x = d'[k]! := ⟨_, rfl⟩
              rw [← hx] at kk
              have HX := Lib.hid hx
              clear hx
              go_upto_region 15 with fail
              go_quiet ((go_at_call 84; with_reducible exact Calls.quiet_of_same (less_any x pv _)))
              have HRW2 : Hid (SRow B (wr.drewN nq) g n c d') := HRW
              have HOW2 := Lib.hid (HOW.out.drewN nq)
              clear HRW HOW kk fk ka fa
              cases hxy : ltN x pv
              · skip
                obtain ⟨k, rfl⟩ : ∃ m, k = m + 1 := ⟨k - 1, by omega⟩
                have HSC2 : Hid (scanDown (fun x => !ltN x pv) d' I2 k = J2) := Lib.hid (by rw [← HSC.out, down_go (p := (fun x => !ltN x pv)) hle HX.out (by show (!ltN x pv) = true; rw [hxy]; rfl)])
                have hk1' : ((k + 1 : Nat) : Int) - 1 = (k : Int) := by omega
                clear hxy HSC HX
                generalize wr.drewN nq = W2 at *
                go_wp2_with fail
                exact ⟨⟨k, by omega, by omega, by first | rfl | (congr 1; omega), Lib.hid ⟨HSC2.out, HRW2.out, HOW2.out⟩⟩, by simp [intOf]; try omega⟩
              · skip
                have HKI : Hid (k = J2) := Lib.hid (by rw [← HSC.out, down_stop (p := (fun x => !ltN x pv)) HX.out (by show (!ltN x pv) = false; rw [hxy]; rfl)])
                clear hxy HSC HX
                generalize wr.drewN nq = W2 at *
                go_wp2_with fail
                go_meet
                case rel => exact ⟨by rw [HKI.out], Lib.hid ⟨HRW2.out, HOW2.out⟩⟩
            · have d1 : decide ((I2 : Int) ≤ (k : Int)) = false := decide_eq_false (by omega)
              have d1n : decide (I2 ≤ k) = false := decide_eq_false hle
              have HKI : Hid (k = J2) := Lib.hid (by rw [← HSC.out, down_end hle])
              go_upto_region 15 with fail
              go_quiet (fail)
              have HRW2 : Hid (SRow B (wr.drewN nq) g n c d') := HRW
              have HOW2 := Lib.hid (HOW.out.drewN nq)
              clear HRW HOW HSC
              generalize wr.drewN nq = W2 at *
              go_wp2_with fail
              go_meet
              case rel => exact ⟨by rw [HKI.out], Lib.hid ⟨HRW2.out, HOW2.out⟩⟩
        case rest =>
        rename World => w6
        obtain ⟨rfl, hcut2⟩ := hcut
        have HROW6 := Lib.hid hcut2.out.1
        have HON6 := Lib.hid hcut2.out.2
        clear hcut2 HROW5 HON5 HJ
        by_cases hJ2 : J2 < I2
        · have d1 : decide ((J2 : Int) < (I2 : Int)) = true := decide_eq_true (by omega)
          have d1n : decide (J2 < I2) = true := decide_eq_true hJ2
          have hq := HQ.out
          rw [part_stop HPV.out HI0.out HJ0.out hJ2] at hq
          obtain ⟨e1, e2⟩ := Prod.mk.inj hq
          have E1 := Lib.hid e1
          have E2 := Lib.hid e2
          clear HQ hq e1 e2
          go_wp2_with fail
          go_meet
          case rel => exact ⟨by rw [E1.out], by have := E1.out; omega, by have := E1.out; omega, Lib.hid ⟨by rw [← E2.out]; exact HROW6.out, HON6.out⟩⟩
        · have d1 : decide ((J2 : Int) < (I2 : Int)) = false := decide_eq_false (by omega)
          have d1n : decide (J2 < I2) = false := decide_eq_false hJ2
          have hlt := HT5.out hJ2
          have HQ2 : Hid (partLoop ltN a (I2 + 1) (J2 - 1) (swp d' I2 J2) = (P1, P2)) := Lib.hid (by rw [← HQ.out]; exact (part_go HPV.out HI0.out HJ0.out hJ2).symm)
          have HPV2 : Hid ((swp d' I2 J2)[a]! = pv) := Lib.hid (by rw [swp_other d' I2 J2 a (by omega) (by omega)]; exact HPV.out)
          clear HQ HPV HI0 HJ0 HT5
          go_upto_region 18 with fail
          go_cut [] from 135 to 148 (fun w' => Hid (SRow B w' g n c (swp d' I2 J2) ∧ Only w w' (fun q => q = g)))
          case first =>
            have hne : ¬ I2 = J2 := by omega
            have hne2 : ¬ J2 = I2 := by omega
            have I2a : (0 : Int) ≤ (I2 : Int) := by omega
            have I2b : (I2 : Int) < (n : Int) := by omega
            have I2c : I2 < n := by omega
            have I2e : IntKind.i64.wrap (I2 : Int) = (I2 : Int) := by rw [IntKind.wrap_i64]; omega
            have J2a : (0 : Int) ≤ (J2 : Int) := by omega
            have J2b : (J2 : Int) < (n : Int) := by omega
            have J2c : J2 < n := by omega
            have J2e : IntKind.i64.wrap (J2 : Int) = (J2 : Int) := by rw [IntKind.wrap_i64]; omega
            obtain ⟨hk1, hf1⟩ := HROW6.out.get (i := I2) (by omega)
            obtain ⟨hk0, hf0⟩ := HROW6.out.get (i := J2) (by omega)
            have HRB := Lib.hid (HROW6.out.swp (i := I2) (j := J2) (by omega) (by omega))
            have HOB := Lib.hid (one_only HON6.out (swp_only w6 g I2 J2 (.int .u64 d'[J2]!) (.int .u64 d'[I2]!)))
            obtain ⟨ddx, hddx⟩ : ∃ x, x = d'[I2]! := ⟨_, rfl⟩
            rw [← hddx] at hk1 HRB HOB
            clear hddx
            obtain ⟨ddy, hddy⟩ : ∃ x, x = d'[J2]! := ⟨_, rfl⟩
            rw [← hddy] at hk0 HRB HOB
            clear hddy
            clear HROW6 HON6
            have hd1dd : w6.drew.cell? ⟨g, I2, none⟩ = some (.int .u64 ddx) := hk1
            have hd0dd : w6.drew.cell? ⟨g, J2, none⟩ = some (.int .u64 ddy) := hk0
            refine region_anyZ (z := 12) (S := fun w' => w'.cell? ⟨g, I2, none⟩ = some (.int .u64 ddx) ∧ w'.cell? ⟨g, J2, none⟩ = some (.int .u64 ddy)) (by kernel_rfl) ?_
            refine anyZ_begin (fun hcl0 => ?_)
            refine anyZ_held (by exact ⟨hd1dd, hd0dd⟩) (fun hHeld => ?_)
            -- 0: Op.move (Operand.tmp 0)
            refine' anyZ_pure (i := 0) (v := _) rfl (by rfl) (by kernel_rfl) (by kernel_rfl) (by kernel_rfl) hcl0 (fun _ _ _ h => h) (Or.inl ⟨by rfl, fun w _ => ?hdd1⟩) (fun _ => hHeld) (fun hcl1 => ?rdd1)
            case hdd1 => (simp only [List.getElem_toArray, List.getElem_cons_zero]; first | (go_simp; with_reducible rfl) | (go_simp; done) | rfl)
            simp only [List.getElem_toArray, List.getElem_cons_zero, Act.put, List.setIfInBounds_toArray, List.set_cons_zero, List.set_cons_succ]
            -- 1: Op.move (Operand.tmp 10)
            refine' anyZ_pure (i := 1) (v := _) rfl (by rfl) (by kernel_rfl) (by kernel_rfl) (by kernel_rfl) hcl1 (fun _ _ _ h => h) (Or.inl ⟨by rfl, fun w _ => ?hdd2⟩) (fun _ => hHeld) (fun hcl2 => ?rdd2)
            case hdd2 => (simp only [List.getElem_toArray, List.getElem_cons_succ, List.getElem_cons_zero]; first | (go_simp; with_reducible rfl) | (go_simp; done) | rfl)
            simp only [List.getElem_toArray, List.getElem_cons_succ, List.getElem_cons_zero, Act.put, List.setIfInBounds_toArray, List.set_cons_zero, List.set_cons_succ]
            -- 2: Op.move (Operand.tmp 0)
            refine' anyZ_pure (i := 2) (v := _) rfl (by rfl) (by kernel_rfl) (by kernel_rfl) (by kernel_rfl) hcl2 (fun _ _ _ h => h) (Or.inl ⟨by rfl, fun w _ => ?hdd3⟩) (fun _ => hHeld) (fun hcl3 => ?rdd3)
            case hdd3 => (simp only [List.getElem_toArray, List.getElem_cons_succ, List.getElem_cons_zero]; first | (go_simp; with_reducible rfl) | (go_simp; done) | rfl)
            simp only [List.getElem_toArray, List.getElem_cons_succ, List.getElem_cons_zero, Act.put, List.setIfInBounds_toArray, List.set_cons_zero, List.set_cons_succ]
            -- 3: Op.move (Operand.tmp 11)
            refine' anyZ_pure (i := 3) (v := _) rfl (by rfl) (by kernel_rfl) (by kernel_rfl) (by kernel_rfl) hcl3 (fun _ _ _ h => h) (Or.inl ⟨by rfl, fun w _ => ?hdd4⟩) (fun _ => hHeld) (fun hcl4 => ?rdd4)
            case hdd4 => (simp only [List.getElem_toArray, List.getElem_cons_succ, List.getElem_cons_zero]; first | (go_simp; with_reducible rfl) | (go_simp; done) | rfl)
            simp only [List.getElem_toArray, List.getElem_cons_succ, List.getElem_cons_zero, Act.put, List.setIfInBounds_toArray, List.set_cons_zero, List.set_cons_succ]
            -- 4: Op.move (Operand.tmp 0)
            refine' anyZ_pure (i := 4) (v := _) rfl (by rfl) (by kernel_rfl) (by kernel_rfl) (by kernel_rfl) hcl4 (fun _ _ _ h => h) (Or.inl ⟨by rfl, fun w _ => ?hdd5⟩) (fun _ => hHeld) (fun hcl5 => ?rdd5)
            case hdd5 => (simp only [List.getElem_toArray, List.getElem_cons_succ, List.getElem_cons_zero]; first | (go_simp; with_reducible rfl) | (go_simp; done) | rfl)
            simp only [List.getElem_toArray, List.getElem_cons_succ, List.getElem_cons_zero, Act.put, List.setIfInBounds_toArray, List.set_cons_zero, List.set_cons_succ]
            -- 5: Op.move (Operand.tmp 11)
            refine' anyZ_pure (i := 5) (v := _) rfl (by rfl) (by kernel_rfl) (by kernel_rfl) (by kernel_rfl) hcl5 (fun _ _ _ h => h) (Or.inl ⟨by rfl, fun w _ => ?hdd6⟩) (fun _ => hHeld) (fun hcl6 => ?rdd6)
            case hdd6 => (simp only [List.getElem_toArray, List.getElem_cons_succ, List.getElem_cons_zero]; first | (go_simp; with_reducible rfl) | (go_simp; done) | rfl)
            simp only [List.getElem_toArray, List.getElem_cons_succ, List.getElem_cons_zero, Act.put, List.setIfInBounds_toArray, List.set_cons_zero, List.set_cons_succ]
            -- 6: Op.indexAddr 27 (Operand.tmp 139) (Operand.tmp 140)
            refine' anyZ_pure (i := 6) (v := _) rfl (by rfl) (by kernel_rfl) (by kernel_rfl) (by kernel_rfl) hcl6 (fun _ _ _ h => h) (Or.inl ⟨by rfl, fun w _ => ?hdd7⟩) (fun _ => hHeld) (fun hcl7 => ?rdd7)
            case hdd7 => (simp only [List.getElem_toArray, List.getElem_cons_succ, List.getElem_cons_zero]; first | (go_simp; with_reducible rfl) | (go_simp; done) | rfl)
            simp only [List.getElem_toArray, List.getElem_cons_succ, List.getElem_cons_zero, Act.put, List.setIfInBounds_toArray, List.set_cons_zero, List.set_cons_succ]
            -- 7: Op.load 26 (Operand.tmp 141)
            refine' anyZ_take (i := 7) (v := _) rfl (by rfl) (by kernel_rfl) (by kernel_rfl) (by kernel_rfl) hcl7 14 (by kernel_rfl) (by kernel_rfl) (fun _ _ _ h => h) (Or.inl ⟨by rfl, fun w hSw => ?hdd8⟩) hHeld (fun hcl8 => ?rdd8)
            case hdd8 => (simp only [List.getElem_toArray, List.getElem_cons_succ, List.getElem_cons_zero]; obtain ⟨hS1, hS2⟩ := hSw; first | (go_simp; with_reducible rfl) | (go_simp; done) | rfl)
            simp only [List.getElem_toArray, List.getElem_cons_succ, List.getElem_cons_zero, Act.put, List.setIfInBounds_toArray, List.set_cons_zero, List.set_cons_succ]
            -- 8: Op.move (Operand.tmp 0)
            refine' anyZ_pure (i := 8) (v := _) rfl (by rfl) (by kernel_rfl) (by kernel_rfl) (by kernel_rfl) hcl8 (fun _ _ _ h => h) (Or.inl ⟨by rfl, fun w _ => ?hdd9⟩) (fun _ => hHeld) (fun hcl9 => ?rdd9)
            case hdd9 => (simp only [List.getElem_toArray, List.getElem_cons_succ, List.getElem_cons_zero]; first | (go_simp; with_reducible rfl) | (go_simp; done) | rfl)
            simp only [List.getElem_toArray, List.getElem_cons_succ, List.getElem_cons_zero, Act.put, List.setIfInBounds_toArray, List.set_cons_zero, List.set_cons_succ]
            -- 9: Op.move (Operand.tmp 10)
            refine' anyZ_pure (i := 9) (v := _) rfl (by rfl) (by kernel_rfl) (by kernel_rfl) (by kernel_rfl) hcl9 (fun _ _ _ h => h) (Or.inl ⟨by rfl, fun w _ => ?hdd10⟩) (fun _ => hHeld) (fun hcl10 => ?rdd10)
            case hdd10 => (simp only [List.getElem_toArray, List.getElem_cons_succ, List.getElem_cons_zero]; first | (go_simp; with_reducible rfl) | (go_simp; done) | rfl)
            simp only [List.getElem_toArray, List.getElem_cons_succ, List.getElem_cons_zero, Act.put, List.setIfInBounds_toArray, List.set_cons_zero, List.set_cons_succ]
            -- 10: Op.indexAddr 27 (Operand.tmp 143) (Operand.tmp 144)
            refine' anyZ_pure (i := 10) (v := _) rfl (by rfl) (by kernel_rfl) (by kernel_rfl) (by kernel_rfl) hcl10 (fun _ _ _ h => h) (Or.inl ⟨by rfl, fun w _ => ?hdd11⟩) (fun _ => hHeld) (fun hcl11 => ?rdd11)
            case hdd11 => (simp only [List.getElem_toArray, List.getElem_cons_succ, List.getElem_cons_zero]; first | (go_simp; with_reducible rfl) | (go_simp; done) | rfl)
            simp only [List.getElem_toArray, List.getElem_cons_succ, List.getElem_cons_zero, Act.put, List.setIfInBounds_toArray, List.set_cons_zero, List.set_cons_succ]
            -- 11: Op.load 26 (Operand.tmp 145)
            refine' anyZ_take (i := 11) (v := _) rfl (by rfl) (by kernel_rfl) (by kernel_rfl) (by kernel_rfl) hcl11 14 (by kernel_rfl) (by kernel_rfl) (fun _ _ _ h => h) (Or.inl ⟨by rfl, fun w hSw => ?hdd12⟩) hHeld (fun hcl12 => ?rdd12)
            case hdd12 => (simp only [List.getElem_toArray, List.getElem_cons_succ, List.getElem_cons_zero]; obtain ⟨hS1, hS2⟩ := hSw; first | (go_simp; with_reducible rfl) | (go_simp; done) | rfl)
            simp only [List.getElem_toArray, List.getElem_cons_succ, List.getElem_cons_zero, Act.put, List.setIfInBounds_toArray, List.set_cons_zero, List.set_cons_succ]
            clear hHeld
            refine anyZ_chain_at (by kernel_rfl) ?_
            simp only [List.drop_succ_cons, List.drop_zero]
            go_wp2_with fail
            go_meet
            case rel => exact Lib.hid ⟨HRB.out, HOB.out.drew⟩
          case rest =>
          rename World => w7
          have HROW7 := Lib.hid hcut.out.1
          have HON7 := Lib.hid hcut.out.2
          clear hcut HROW6 HON6
          go_wp2_with fail
          go_roundw
          case rel => exact ⟨I2 + 1, J2 - 1, _, by omega, by omega, by omega, by first | rfl | (congr 1; omega), by first | rfl | (congr 1; omega), Lib.hid ⟨HQ2.out, HPV2.out, HROW7.out, HON7.out⟩⟩
          case measure => (simp [intOf]; try omega)
    case rest =>
    rename World => w8
    obtain ⟨rfl, hP1a, hP1b, hcut2⟩ := hcut
    have HROW8 := Lib.hid hcut2.out.1
    have HON8 := Lib.hid hcut2.out.2
    clear hcut2 HROW4 HON4 HP HPV4
    go_upto_region 21 with fail
    go_cut [] from 153 to 166 (fun w' => Hid (SRow B w' g n c (swp P2 P1 a) ∧ Only w w' (fun q => q = g)))
    case first =>
      by_cases hij : P1 = a
      · have hij2 := hij.symm
        subst hij2
        have aa : (0 : Int) ≤ (a : Int) := by omega
        have ab : (a : Int) < (n : Int) := by omega
        have ac : a < n := by omega
        have ae : IntKind.i64.wrap (a : Int) = (a : Int) := by rw [IntKind.wrap_i64]; omega
        obtain ⟨hk1, hf1⟩ := HROW8.out.get (i := a) (by omega)
        obtain ⟨hk0, hf0⟩ := HROW8.out.get (i := a) (by omega)
        have HRB := Lib.hid (HROW8.out.swp (i := a) (j := a) (by omega) (by omega))
        have HOB := Lib.hid (one_only HON8.out (swp_only w8 g a a (.int .u64 P2[a]!) (.int .u64 P2[a]!)))
        obtain ⟨esx, hesx⟩ : ∃ x, x = P2[a]! := ⟨_, rfl⟩
        rw [← hesx] at hk1 HRB HOB hk0
        clear hesx
        clear HROW8 HON8
        have hd1es : w8.drew.cell? ⟨g, a, none⟩ = some (.int .u64 esx) := hk1
        have hd0es : w8.drew.cell? ⟨g, a, none⟩ = some (.int .u64 esx) := hk0
        refine region_anyZ (z := 12) (S := fun w' => w'.cell? ⟨g, a, none⟩ = some (.int .u64 esx) ∧ w'.cell? ⟨g, a, none⟩ = some (.int .u64 esx)) (by kernel_rfl) ?_
        refine anyZ_begin (fun hcl0 => ?_)
        refine anyZ_held (by exact ⟨hd1es, hd0es⟩) (fun hHeld => ?_)
        -- 0: Op.move (Operand.tmp 0)
        refine' anyZ_pure (i := 0) (v := _) rfl (by rfl) (by kernel_rfl) (by kernel_rfl) (by kernel_rfl) hcl0 (fun _ _ _ h => h) (Or.inl ⟨by rfl, fun w _ => ?hes1⟩) (fun _ => hHeld) (fun hcl1 => ?res1)
        case hes1 => (simp only [List.getElem_toArray, List.getElem_cons_zero]; first | (go_simp; with_reducible rfl) | (go_simp; done) | rfl)
        simp only [List.getElem_toArray, List.getElem_cons_zero, Act.put, List.setIfInBounds_toArray, List.set_cons_zero, List.set_cons_succ]
        -- 1: Op.move (Operand.tmp 11)
        refine' anyZ_pure (i := 1) (v := _) rfl (by rfl) (by kernel_rfl) (by kernel_rfl) (by kernel_rfl) hcl1 (fun _ _ _ h => h) (Or.inl ⟨by rfl, fun w _ => ?hes2⟩) (fun _ => hHeld) (fun hcl2 => ?res2)
        case hes2 => (simp only [List.getElem_toArray, List.getElem_cons_succ, List.getElem_cons_zero]; first | (go_simp; with_reducible rfl) | (go_simp; done) | rfl)
        simp only [List.getElem_toArray, List.getElem_cons_succ, List.getElem_cons_zero, Act.put, List.setIfInBounds_toArray, List.set_cons_zero, List.set_cons_succ]
        -- 2: Op.move (Operand.tmp 0)
        refine' anyZ_pure (i := 2) (v := _) rfl (by rfl) (by kernel_rfl) (by kernel_rfl) (by kernel_rfl) hcl2 (fun _ _ _ h => h) (Or.inl ⟨by rfl, fun w _ => ?hes3⟩) (fun _ => hHeld) (fun hcl3 => ?res3)
        case hes3 => (simp only [List.getElem_toArray, List.getElem_cons_succ, List.getElem_cons_zero]; first | (go_simp; with_reducible rfl) | (go_simp; done) | rfl)
        simp only [List.getElem_toArray, List.getElem_cons_succ, List.getElem_cons_zero, Act.put, List.setIfInBounds_toArray, List.set_cons_zero, List.set_cons_succ]
        -- 3: Op.move (Operand.tmp 1)
        refine' anyZ_pure (i := 3) (v := _) rfl (by rfl) (by kernel_rfl) (by kernel_rfl) (by kernel_rfl) hcl3 (fun _ _ _ h => h) (Or.inl ⟨by rfl, fun w _ => ?hes4⟩) (fun _ => hHeld) (fun hcl4 => ?res4)
        case hes4 => (simp only [List.getElem_toArray, List.getElem_cons_succ, List.getElem_cons_zero]; first | (go_simp; with_reducible rfl) | (go_simp; done) | rfl)
        simp only [List.getElem_toArray, List.getElem_cons_succ, List.getElem_cons_zero, Act.put, List.setIfInBounds_toArray, List.set_cons_zero, List.set_cons_succ]
        -- 4: Op.move (Operand.tmp 0)
        refine' anyZ_pure (i := 4) (v := _) rfl (by rfl) (by kernel_rfl) (by kernel_rfl) (by kernel_rfl) hcl4 (fun _ _ _ h => h) (Or.inl ⟨by rfl, fun w _ => ?hes5⟩) (fun _ => hHeld) (fun hcl5 => ?res5)
        case hes5 => (simp only [List.getElem_toArray, List.getElem_cons_succ, List.getElem_cons_zero]; first | (go_simp; with_reducible rfl) | (go_simp; done) | rfl)
        simp only [List.getElem_toArray, List.getElem_cons_succ, List.getElem_cons_zero, Act.put, List.setIfInBounds_toArray, List.set_cons_zero, List.set_cons_succ]
        -- 5: Op.move (Operand.tmp 1)
        refine' anyZ_pure (i := 5) (v := _) rfl (by rfl) (by kernel_rfl) (by kernel_rfl) (by kernel_rfl) hcl5 (fun _ _ _ h => h) (Or.inl ⟨by rfl, fun w _ => ?hes6⟩) (fun _ => hHeld) (fun hcl6 => ?res6)
        case hes6 => (simp only [List.getElem_toArray, List.getElem_cons_succ, List.getElem_cons_zero]; first | (go_simp; with_reducible rfl) | (go_simp; done) | rfl)
        simp only [List.getElem_toArray, List.getElem_cons_succ, List.getElem_cons_zero, Act.put, List.setIfInBounds_toArray, List.set_cons_zero, List.set_cons_succ]
        -- 6: Op.indexAddr 27 (Operand.tmp 157) (Operand.tmp 158)
        refine' anyZ_pure (i := 6) (v := _) rfl (by rfl) (by kernel_rfl) (by kernel_rfl) (by kernel_rfl) hcl6 (fun _ _ _ h => h) (Or.inl ⟨by rfl, fun w _ => ?hes7⟩) (fun _ => hHeld) (fun hcl7 => ?res7)
        case hes7 => (simp only [List.getElem_toArray, List.getElem_cons_succ, List.getElem_cons_zero]; first | (go_simp; with_reducible rfl) | (go_simp; done) | rfl)
        simp only [List.getElem_toArray, List.getElem_cons_succ, List.getElem_cons_zero, Act.put, List.setIfInBounds_toArray, List.set_cons_zero, List.set_cons_succ]
        -- 7: Op.load 26 (Operand.tmp 159)
        refine' anyZ_take (i := 7) (v := _) rfl (by rfl) (by kernel_rfl) (by kernel_rfl) (by kernel_rfl) hcl7 14 (by kernel_rfl) (by kernel_rfl) (fun _ _ _ h => h) (Or.inl ⟨by rfl, fun w hSw => ?hes8⟩) hHeld (fun hcl8 => ?res8)
        case hes8 => (simp only [List.getElem_toArray, List.getElem_cons_succ, List.getElem_cons_zero]; obtain ⟨hS1, hS2⟩ := hSw; first | (go_simp; with_reducible rfl) | (go_simp; done) | rfl)
        simp only [List.getElem_toArray, List.getElem_cons_succ, List.getElem_cons_zero, Act.put, List.setIfInBounds_toArray, List.set_cons_zero, List.set_cons_succ]
        -- 8: Op.move (Operand.tmp 0)
        refine' anyZ_pure (i := 8) (v := _) rfl (by rfl) (by kernel_rfl) (by kernel_rfl) (by kernel_rfl) hcl8 (fun _ _ _ h => h) (Or.inl ⟨by rfl, fun w _ => ?hes9⟩) (fun _ => hHeld) (fun hcl9 => ?res9)
        case hes9 => (simp only [List.getElem_toArray, List.getElem_cons_succ, List.getElem_cons_zero]; first | (go_simp; with_reducible rfl) | (go_simp; done) | rfl)
        simp only [List.getElem_toArray, List.getElem_cons_succ, List.getElem_cons_zero, Act.put, List.setIfInBounds_toArray, List.set_cons_zero, List.set_cons_succ]
        -- 9: Op.move (Operand.tmp 11)
        refine' anyZ_pure (i := 9) (v := _) rfl (by rfl) (by kernel_rfl) (by kernel_rfl) (by kernel_rfl) hcl9 (fun _ _ _ h => h) (Or.inl ⟨by rfl, fun w _ => ?hes10⟩) (fun _ => hHeld) (fun hcl10 => ?res10)
        case hes10 => (simp only [List.getElem_toArray, List.getElem_cons_succ, List.getElem_cons_zero]; first | (go_simp; with_reducible rfl) | (go_simp; done) | rfl)
        simp only [List.getElem_toArray, List.getElem_cons_succ, List.getElem_cons_zero, Act.put, List.setIfInBounds_toArray, List.set_cons_zero, List.set_cons_succ]
        -- 10: Op.indexAddr 27 (Operand.tmp 161) (Operand.tmp 162)
        refine' anyZ_pure (i := 10) (v := _) rfl (by rfl) (by kernel_rfl) (by kernel_rfl) (by kernel_rfl) hcl10 (fun _ _ _ h => h) (Or.inl ⟨by rfl, fun w _ => ?hes11⟩) (fun _ => hHeld) (fun hcl11 => ?res11)
        case hes11 => (simp only [List.getElem_toArray, List.getElem_cons_succ, List.getElem_cons_zero]; first | (go_simp; with_reducible rfl) | (go_simp; done) | rfl)
        simp only [List.getElem_toArray, List.getElem_cons_succ, List.getElem_cons_zero, Act.put, List.setIfInBounds_toArray, List.set_cons_zero, List.set_cons_succ]
        -- 11: Op.load 26 (Operand.tmp 163)
        refine' anyZ_take (i := 11) (v := _) rfl (by rfl) (by kernel_rfl) (by kernel_rfl) (by kernel_rfl) hcl11 14 (by kernel_rfl) (by kernel_rfl) (fun _ _ _ h => h) (Or.inl ⟨by rfl, fun w hSw => ?hes12⟩) hHeld (fun hcl12 => ?res12)
        case hes12 => (simp only [List.getElem_toArray, List.getElem_cons_succ, List.getElem_cons_zero]; obtain ⟨hS1, hS2⟩ := hSw; first | (go_simp; with_reducible rfl) | (go_simp; done) | rfl)
        simp only [List.getElem_toArray, List.getElem_cons_succ, List.getElem_cons_zero, Act.put, List.setIfInBounds_toArray, List.set_cons_zero, List.set_cons_succ]
        clear hHeld
        refine anyZ_chain_at (by kernel_rfl) ?_
        simp only [List.drop_succ_cons, List.drop_zero]
        go_wp2_with fail
        go_meet
        case rel => exact Lib.hid ⟨HRB.out, HOB.out.drew⟩
      · have hne : ¬ P1 = a := hij
        have hne2 : ¬ a = P1 := fun h => hij h.symm
        have P1a : (0 : Int) ≤ (P1 : Int) := by omega
        have P1b : (P1 : Int) < (n : Int) := by omega
        have P1c : P1 < n := by omega
        have P1e : IntKind.i64.wrap (P1 : Int) = (P1 : Int) := by rw [IntKind.wrap_i64]; omega
        have aa : (0 : Int) ≤ (a : Int) := by omega
        have ab : (a : Int) < (n : Int) := by omega
        have ac : a < n := by omega
        have ae : IntKind.i64.wrap (a : Int) = (a : Int) := by rw [IntKind.wrap_i64]; omega
        obtain ⟨hk1, hf1⟩ := HROW8.out.get (i := P1) (by omega)
        obtain ⟨hk0, hf0⟩ := HROW8.out.get (i := a) (by omega)
        have HRB := Lib.hid (HROW8.out.swp (i := P1) (j := a) (by omega) (by omega))
        have HOB := Lib.hid (one_only HON8.out (swp_only w8 g P1 a (.int .u64 P2[a]!) (.int .u64 P2[P1]!)))
        obtain ⟨edx, hedx⟩ : ∃ x, x = P2[P1]! := ⟨_, rfl⟩
        rw [← hedx] at hk1 HRB HOB
        clear hedx
        obtain ⟨edy, hedy⟩ : ∃ x, x = P2[a]! := ⟨_, rfl⟩
        rw [← hedy] at hk0 HRB HOB
        clear hedy
        clear HROW8 HON8
        have hd1ed : w8.drew.cell? ⟨g, P1, none⟩ = some (.int .u64 edx) := hk1
        have hd0ed : w8.drew.cell? ⟨g, a, none⟩ = some (.int .u64 edy) := hk0
        refine region_anyZ (z := 12) (S := fun w' => w'.cell? ⟨g, P1, none⟩ = some (.int .u64 edx) ∧ w'.cell? ⟨g, a, none⟩ = some (.int .u64 edy)) (by kernel_rfl) ?_
        refine anyZ_begin (fun hcl0 => ?_)
        refine anyZ_held (by exact ⟨hd1ed, hd0ed⟩) (fun hHeld => ?_)
        -- 0: Op.move (Operand.tmp 0)
        refine' anyZ_pure (i := 0) (v := _) rfl (by rfl) (by kernel_rfl) (by kernel_rfl) (by kernel_rfl) hcl0 (fun _ _ _ h => h) (Or.inl ⟨by rfl, fun w _ => ?hed1⟩) (fun _ => hHeld) (fun hcl1 => ?red1)
        case hed1 => (simp only [List.getElem_toArray, List.getElem_cons_zero]; first | (go_simp; with_reducible rfl) | (go_simp; done) | rfl)
        simp only [List.getElem_toArray, List.getElem_cons_zero, Act.put, List.setIfInBounds_toArray, List.set_cons_zero, List.set_cons_succ]
        -- 1: Op.move (Operand.tmp 11)
        refine' anyZ_pure (i := 1) (v := _) rfl (by rfl) (by kernel_rfl) (by kernel_rfl) (by kernel_rfl) hcl1 (fun _ _ _ h => h) (Or.inl ⟨by rfl, fun w _ => ?hed2⟩) (fun _ => hHeld) (fun hcl2 => ?red2)
        case hed2 => (simp only [List.getElem_toArray, List.getElem_cons_succ, List.getElem_cons_zero]; first | (go_simp; with_reducible rfl) | (go_simp; done) | rfl)
        simp only [List.getElem_toArray, List.getElem_cons_succ, List.getElem_cons_zero, Act.put, List.setIfInBounds_toArray, List.set_cons_zero, List.set_cons_succ]
        -- 2: Op.move (Operand.tmp 0)
        refine' anyZ_pure (i := 2) (v := _) rfl (by rfl) (by kernel_rfl) (by kernel_rfl) (by kernel_rfl) hcl2 (fun _ _ _ h => h) (Or.inl ⟨by rfl, fun w _ => ?hed3⟩) (fun _ => hHeld) (fun hcl3 => ?red3)
        case hed3 => (simp only [List.getElem_toArray, List.getElem_cons_succ, List.getElem_cons_zero]; first | (go_simp; with_reducible rfl) | (go_simp; done) | rfl)
        simp only [List.getElem_toArray, List.getElem_cons_succ, List.getElem_cons_zero, Act.put, List.setIfInBounds_toArray, List.set_cons_zero, List.set_cons_succ]
        -- 3: Op.move (Operand.tmp 1)
        refine' anyZ_pure (i := 3) (v := _) rfl (by rfl) (by kernel_rfl) (by kernel_rfl) (by kernel_rfl) hcl3 (fun _ _ _ h => h) (Or.inl ⟨by rfl, fun w _ => ?hed4⟩) (fun _ => hHeld) (fun hcl4 => ?red4)
        case hed4 => (simp only [List.getElem_toArray, List.getElem_cons_succ, List.getElem_cons_zero]; first | (go_simp; with_reducible rfl) | (go_simp; done) | rfl)
        simp only [List.getElem_toArray, List.getElem_cons_succ, List.getElem_cons_zero, Act.put, List.setIfInBounds_toArray, List.set_cons_zero, List.set_cons_succ]
        -- 4: Op.move (Operand.tmp 0)
        refine' anyZ_pure (i := 4) (v := _) rfl (by rfl) (by kernel_rfl) (by kernel_rfl) (by kernel_rfl) hcl4 (fun _ _ _ h => h) (Or.inl ⟨by rfl, fun w _ => ?hed5⟩) (fun _ => hHeld) (fun hcl5 => ?red5)
        case hed5 => (simp only [List.getElem_toArray, List.getElem_cons_succ, List.getElem_cons_zero]; first | (go_simp; with_reducible rfl) | (go_simp; done) | rfl)
        simp only [List.getElem_toArray, List.getElem_cons_succ, List.getElem_cons_zero, Act.put, List.setIfInBounds_toArray, List.set_cons_zero, List.set_cons_succ]
        -- 5: Op.move (Operand.tmp 1)
        refine' anyZ_pure (i := 5) (v := _) rfl (by rfl) (by kernel_rfl) (by kernel_rfl) (by kernel_rfl) hcl5 (fun _ _ _ h => h) (Or.inl ⟨by rfl, fun w _ => ?hed6⟩) (fun _ => hHeld) (fun hcl6 => ?red6)
        case hed6 => (simp only [List.getElem_toArray, List.getElem_cons_succ, List.getElem_cons_zero]; first | (go_simp; with_reducible rfl) | (go_simp; done) | rfl)
        simp only [List.getElem_toArray, List.getElem_cons_succ, List.getElem_cons_zero, Act.put, List.setIfInBounds_toArray, List.set_cons_zero, List.set_cons_succ]
        -- 6: Op.indexAddr 27 (Operand.tmp 157) (Operand.tmp 158)
        refine' anyZ_pure (i := 6) (v := _) rfl (by rfl) (by kernel_rfl) (by kernel_rfl) (by kernel_rfl) hcl6 (fun _ _ _ h => h) (Or.inl ⟨by rfl, fun w _ => ?hed7⟩) (fun _ => hHeld) (fun hcl7 => ?red7)
        case hed7 => (simp only [List.getElem_toArray, List.getElem_cons_succ, List.getElem_cons_zero]; first | (go_simp; with_reducible rfl) | (go_simp; done) | rfl)
        simp only [List.getElem_toArray, List.getElem_cons_succ, List.getElem_cons_zero, Act.put, List.setIfInBounds_toArray, List.set_cons_zero, List.set_cons_succ]
        -- 7: Op.load 26 (Operand.tmp 159)
        refine' anyZ_take (i := 7) (v := _) rfl (by rfl) (by kernel_rfl) (by kernel_rfl) (by kernel_rfl) hcl7 14 (by kernel_rfl) (by kernel_rfl) (fun _ _ _ h => h) (Or.inl ⟨by rfl, fun w hSw => ?hed8⟩) hHeld (fun hcl8 => ?red8)
        case hed8 => (simp only [List.getElem_toArray, List.getElem_cons_succ, List.getElem_cons_zero]; obtain ⟨hS1, hS2⟩ := hSw; first | (go_simp; with_reducible rfl) | (go_simp; done) | rfl)
        simp only [List.getElem_toArray, List.getElem_cons_succ, List.getElem_cons_zero, Act.put, List.setIfInBounds_toArray, List.set_cons_zero, List.set_cons_succ]
        -- 8: Op.move (Operand.tmp 0)
        refine' anyZ_pure (i := 8) (v := _) rfl (by rfl) (by kernel_rfl) (by kernel_rfl) (by kernel_rfl) hcl8 (fun _ _ _ h => h) (Or.inl ⟨by rfl, fun w _ => ?hed9⟩) (fun _ => hHeld) (fun hcl9 => ?red9)
        case hed9 => (simp only [List.getElem_toArray, List.getElem_cons_succ, List.getElem_cons_zero]; first | (go_simp; with_reducible rfl) | (go_simp; done) | rfl)
        simp only [List.getElem_toArray, List.getElem_cons_succ, List.getElem_cons_zero, Act.put, List.setIfInBounds_toArray, List.set_cons_zero, List.set_cons_succ]
        -- 9: Op.move (Operand.tmp 11)
        refine' anyZ_pure (i := 9) (v := _) rfl (by rfl) (by kernel_rfl) (by kernel_rfl) (by kernel_rfl) hcl9 (fun _ _ _ h => h) (Or.inl ⟨by rfl, fun w _ => ?hed10⟩) (fun _ => hHeld) (fun hcl10 => ?red10)
        case hed10 => (simp only [List.getElem_toArray, List.getElem_cons_succ, List.getElem_cons_zero]; first | (go_simp; with_reducible rfl) | (go_simp; done) | rfl)
        simp only [List.getElem_toArray, List.getElem_cons_succ, List.getElem_cons_zero, Act.put, List.setIfInBounds_toArray, List.set_cons_zero, List.set_cons_succ]
        -- 10: Op.indexAddr 27 (Operand.tmp 161) (Operand.tmp 162)
        refine' anyZ_pure (i := 10) (v := _) rfl (by rfl) (by kernel_rfl) (by kernel_rfl) (by kernel_rfl) hcl10 (fun _ _ _ h => h) (Or.inl ⟨by rfl, fun w _ => ?hed11⟩) (fun _ => hHeld) (fun hcl11 => ?red11)
        case hed11 => (simp only [List.getElem_toArray, List.getElem_cons_succ, List.getElem_cons_zero]; first | (go_simp; with_reducible rfl) | (go_simp; done) | rfl)
        simp only [List.getElem_toArray, List.getElem_cons_succ, List.getElem_cons_zero, Act.put, List.setIfInBounds_toArray, List.set_cons_zero, List.set_cons_succ]
        -- 11: Op.load 26 (Operand.tmp 163)
        refine' anyZ_take (i := 11) (v := _) rfl (by rfl) (by kernel_rfl) (by kernel_rfl) (by kernel_rfl) hcl11 14 (by kernel_rfl) (by kernel_rfl) (fun _ _ _ h => h) (Or.inl ⟨by rfl, fun w hSw => ?hed12⟩) hHeld (fun hcl12 => ?red12)
        case hed12 => (simp only [List.getElem_toArray, List.getElem_cons_succ, List.getElem_cons_zero]; obtain ⟨hS1, hS2⟩ := hSw; first | (go_simp; with_reducible rfl) | (go_simp; done) | rfl)
        simp only [List.getElem_toArray, List.getElem_cons_succ, List.getElem_cons_zero, Act.put, List.setIfInBounds_toArray, List.set_cons_zero, List.set_cons_succ]
        clear hHeld
        refine anyZ_chain_at (by kernel_rfl) ?_
        simp only [List.drop_succ_cons, List.drop_zero]
        go_wp2_with fail
        go_meet
        case rel => exact Lib.hid ⟨HRB.out, HOB.out.drew⟩
    case rest =>
    rename World => w9
    have HROW9 := Lib.hid hcut.out.1
    have HON9 := Lib.hid hcut.out.2
    clear hcut HROW8 HON8
    go_wp2_with fail
    go_ret2
    exact ⟨rfl, HROW9.out, HON9.out⟩
end Go.Proofs.Ytnbncjebmlicgaa
