/- Walk: siftDownOrdered. -/
import Derived.Test.YtnbncjebmlicgaaPreC
namespace Go.Proofs.Ytnbncjebmlicgaa
open Go.RowKit Go.Sort

/-- which child is the greater one -/
def Sel (hi first r : Nat) (d : Array Nat) (c : Nat) : Prop := (c = 2 * r + 1 ∧ ¬ (2 * r + 1 + 1 < hi ∧ ltN d[first + (2 * r + 1)]! d[first + (2 * r + 1) + 1]! = true)) ∨ (c = 2 * r + 2 ∧ 2 * r + 1 + 1 < hi ∧ ltN d[first + (2 * r + 1)]! d[first + (2 * r + 1) + 1]! = true)
theorem sift_stop {hi first r : Nat} {d : Array Nat} (h : hi ≤ 2 * r + 1) : siftDown ltN hi first r d = d := by rw [siftDown, dif_pos h]
theorem sift_go {hi first r c : Nat} {d : Array Nat} (h : ¬ hi ≤ 2 * r + 1) (hs : Sel hi first r d c) : siftDown ltN hi first r d = if (!ltN d[first + r]! d[first + c]!) = true then d else siftDown ltN hi first c (swp d (first + r) (first + c)) := by
  rw [siftDown, dif_neg h]
  rcases hs with ⟨rfl, h2⟩ | ⟨rfl, h2, h3⟩
  · rw [if_neg (by rw [Bool.and_eq_true, decide_eq_true_iff]; exact h2)]
  · rw [if_pos (by rw [Bool.and_eq_true, decide_eq_true_iff]; exact ⟨h2, h3⟩), dif_pos (by omega)]

set_option linter.unusedSimpArgs false in
set_option maxRecDepth 20000 in
set_option maxHeartbeats 6400000 in
theorem srtsift_any (B g n c lo hi first : Nat) (d : Array Nat) (w : World) (h : SRow B w g n c d) (hlo : lo ≤ n) (hhi : first + hi ≤ n) (hn : n ≤ 1000000000) :
    Calls Try.prog 89 #[.slice (some ⟨g, 0, none⟩) n c, .int .i64 lo, .int .i64 hi, .int .i64 first] w fun e w' => e = .returned (.tuple #[]) ∧ SRow B w' g n c (siftDown ltN hi first lo d) ∧ Only w w' (fun q => q = g) := by
  have H := Lib.hid h
  obtain ⟨R, hR⟩ : ∃ R, R = siftDown ltN hi first lo d := ⟨_, rfl⟩
  rw [← hR]
  have HR : Hid (siftDown ltN hi first lo d = R) := Lib.hid hR.symm
  clear h hR
  go_enter Try.func89, Try.ntmps89
  go_wp2_with fail
  go_loopw [8] (fun i wr => ∃ (r : Nat) (d' : Array Nat), r ≤ n ∧ i = .int .i64 r ∧ Hid (SRow B wr g n c d' ∧ siftDown ltN hi first r d' = R ∧ Only w wr (fun q => q = g))) (fun i _ => n + 1 - (intOf i).toNat)
  case atStart => exact ⟨lo, d, by omega, rfl, Lib.hid ⟨H.out, HR.out, Only.refl _ _⟩⟩
  case round =>
    clear HR H
    obtain ⟨r, d', hr1, rfl, hin⟩ := hrel
    have HROW0 := Lib.hid hin.out.1
    have HMOD := Lib.hid hin.out.2.1
    have HON0 := Lib.hid hin.out.2.2
    clear hin
    obtain ⟨ch, hch⟩ : ∃ ch : Nat, ch = 2 * r + 1 := ⟨_, rfl⟩
    have hchi : (2 : Int) * (r : Int) + 1 = (ch : Int) := by omega
    have HCH := Lib.hid hch
    by_cases hge : hi ≤ ch
    · have d1 : decide ((hi : Int) ≤ (ch : Int)) = true := decide_eq_true (by omega)
      have d1n : decide (hi ≤ ch) = true := decide_eq_true hge
      have hm2 : d' = R := by
        have := HMOD.out
        rw [sift_stop (by omega)] at this
        exact this
      have HM2 := Lib.hid hm2
      clear hm2 hch
      go_wp2_with fail
      go_end0
      exact ⟨rfl, by rw [← HM2.out]; exact HROW0.out, HON0.out⟩
    · have d1 : decide ((hi : Int) ≤ (ch : Int)) = false := decide_eq_false (by omega)
      have d1n : decide (hi ≤ ch) = false := decide_eq_false hge
      have hgt : ¬ hi ≤ 2 * r + 1 := by omega
      have HGT := Lib.hid hgt
      clear hgt
      by_cases h2 : ch + 1 < hi
      · have d2 : decide ((ch : Int) + 1 < (hi : Int)) = true := decide_eq_true (by omega)
        have d2n : decide (ch + 1 < hi) = true := decide_eq_true h2
        obtain ⟨p1, hp1⟩ : ∃ p1 : Nat, p1 = first + ch := ⟨_, rfl⟩
        have p1i : (first : Int) + (ch : Int) = (p1 : Int) := by omega
        obtain ⟨p2, hp2⟩ : ∃ p2 : Nat, p2 = p1 + 1 := ⟨_, rfl⟩
        have p2i : (p1 : Int) + 1 = (p2 : Int) := by omega
        have p1a : (0 : Int) ≤ (p1 : Int) := by omega
        have p1b : (p1 : Int) < (n : Int) := by omega
        have p1c : p1 < n := by omega
        have p1e : IntKind.i64.wrap (p1 : Int) = (p1 : Int) := by rw [IntKind.wrap_i64]; omega
        have p2a : (0 : Int) ≤ (p2 : Int) := by omega
        have p2b : (p2 : Int) < (n : Int) := by omega
        have p2c : p2 < n := by omega
        have p2e : IntKind.i64.wrap (p2 : Int) = (p2 : Int) := by rw [IntKind.wrap_i64]; omega
        obtain ⟨kp1, fp1⟩ := HROW0.out.get (i := p1) (by omega)
        obtain ⟨x1, hx1⟩ : ∃ x1, x1 = d'[p1]! := ⟨_, rfl⟩
        rw [← hx1] at kp1
        have HVx1 := Lib.hid hx1
        clear hx1
        obtain ⟨kp2, fp2⟩ := HROW0.out.get (i := p2) (by omega)
        obtain ⟨y1, hy1⟩ : ∃ y1, y1 = d'[p2]! := ⟨_, rfl⟩
        rw [← hy1] at kp2
        have HVy1 := Lib.hid hy1
        clear hy1
        have HLT : Hid (ltN d'[first + (2 * r + 1)]! d'[first + (2 * r + 1) + 1]! = ltN x1 y1) := Lib.hid (by rw [HVx1.out, HVy1.out, hp2, hp1, hch])
        clear hp1 hp2 hch
        go_upto_region 3 with fail
        go_quiet ((go_at_call 84; with_reducible exact Calls.quiet_of_same (less_any x1 y1 _)))
        have HROW : Hid (SRow B (wr.drewN nq) g n c d') := HROW0
        have HON := Lib.hid (HON0.out.drewN nq)
        clear HROW0 HON0
        cases hxy1 : ltN x1 y1
        · have HSEL : Hid (Sel hi first r d' ch) := Lib.hid (.inl ⟨HCH.out, fun h => by have := h.2; rw [HLT.out, hxy1] at this; cases this⟩)
          clear hxy1 HLT kp1 fp1 kp2 fp2 HVx1 HVy1 p1i p2i
          generalize wr.drewN nq = W at *
          clear nq
          go_wp2_with fail
          have hgt := HGT.out
          obtain ⟨pr, hpr⟩ : ∃ pr : Nat, pr = first + r := ⟨_, rfl⟩
          have pri : (first : Int) + (r : Int) = (pr : Int) := by omega
          obtain ⟨pc, hpc⟩ : ∃ pc : Nat, pc = first + ch := ⟨_, rfl⟩
          have pci : (first : Int) + (ch : Int) = (pc : Int) := by omega
          have hne : ¬ pr = pc := by omega
          have hne2 : ¬ pc = pr := by omega
          have pra : (0 : Int) ≤ (pr : Int) := by omega
          have prb : (pr : Int) < (n : Int) := by omega
          have prc : pr < n := by omega
          have pre : IntKind.i64.wrap (pr : Int) = (pr : Int) := by rw [IntKind.wrap_i64]; omega
          have pca : (0 : Int) ≤ (pc : Int) := by omega
          have pcb : (pc : Int) < (n : Int) := by omega
          have pcc : pc < n := by omega
          have pce : IntKind.i64.wrap (pc : Int) = (pc : Int) := by rw [IntKind.wrap_i64]; omega
          obtain ⟨kpr, fpr⟩ := HROW.out.get (i := pr) (by omega)
          obtain ⟨x, hx⟩ : ∃ x, x = d'[pr]! := ⟨_, rfl⟩
          rw [← hx] at kpr
          have HVx := Lib.hid hx
          clear hx
          obtain ⟨kpc, fpc⟩ := HROW.out.get (i := pc) (by omega)
          obtain ⟨y, hy⟩ : ∃ y, y = d'[pc]! := ⟨_, rfl⟩
          rw [← hy] at kpc
          have HVy := Lib.hid hy
          clear hy
          have HMOD2 : Hid ((if (!ltN x y) = true then d' else siftDown ltN hi first ch (swp d' pr pc)) = R) := Lib.hid (by
            have h1 := HMOD.out
            rw [sift_go hgt HSEL.out, ← hpr, ← hpc, ← HVx.out, ← HVy.out] at h1
            exact h1)
          clear hpr hpc HMOD HSEL
          go_upto_region 5 with fail
          go_quiet ((go_at_call 84; with_reducible exact Calls.quiet_of_same (less_any x y _)))
          have HROW3 : Hid (SRow B (W.drewN nq) g n c d') := HROW
          have HON3 := Lib.hid (HON.out.drewN nq)
          clear HROW HON
          cases hxy : ltN x y
          · have hm2 : d' = R := by
              have := HMOD2.out
              rw [hxy] at this
              exact this
            have HM2 := Lib.hid hm2
            clear hm2 hxy HMOD2
            generalize W.drewN nq = W3 at *
            go_wp2_with fail
            refine bodyPost_ret (results_none rfl _ _ _) rfl ?_
            exact ⟨rfl, by rw [← HM2.out]; exact HROW3.out, HON3.out⟩
          · have hm2 : siftDown ltN hi first ch (swp d' pr pc) = R := by
              have := HMOD2.out
              rw [hxy] at this
              exact this
            have HM2 := Lib.hid hm2
            clear hm2 hxy HMOD2 kpr fpr kpc fpc
            generalize W.drewN nq = W3 at *
            obtain ⟨hk1, hf1⟩ := HROW3.out.get (i := pr) (by omega)
            obtain ⟨hk0, hf0⟩ := HROW3.out.get (i := pc) (by omega)
            have HROW4 := Lib.hid (HROW3.out.swp (i := pr) (j := pc) (by omega) (by omega))
            rw [← HVx.out] at hk1 HROW4
            rw [← HVy.out] at hk0 HROW4
            have HON4 := Lib.hid (one_only HON3.out (swp_only W3 g pr pc (.int .u64 y) (.int .u64 x)))
            clear HROW3 HON3
            go_upto_region 6 with fail
            have hd1y : W3.drew.cell? ⟨g, pr, none⟩ = some (.int .u64 x) := hk1
            have hd0y : W3.drew.cell? ⟨g, pc, none⟩ = some (.int .u64 y) := hk0
            refine region_anyZ (z := 20) (S := fun w' => w'.cell? ⟨g, pr, none⟩ = some (.int .u64 x) ∧ w'.cell? ⟨g, pc, none⟩ = some (.int .u64 y)) (by kernel_rfl) ?_
            refine anyZ_begin (fun hcl0 => ?_)
            refine anyZ_held (by exact ⟨hd1y, hd0y⟩) (fun hHeld => ?_)
            -- 0: Op.move (Operand.tmp 0)
            refine' anyZ_pure (i := 0) (v := _) rfl (by rfl) (by kernel_rfl) (by kernel_rfl) (by kernel_rfl) hcl0 (fun _ _ _ h => h) (Or.inl ⟨by rfl, fun w _ => ?hy1⟩) (fun _ => hHeld) (fun hcl1 => ?ry1)
            case hy1 => (simp only [List.getElem_toArray, List.getElem_cons_zero]; first | (go_simp; with_reducible rfl) | (go_simp; done) | rfl)
            simp only [List.getElem_toArray, List.getElem_cons_zero, Act.put, List.setIfInBounds_toArray, List.set_cons_zero, List.set_cons_succ]
            -- 1: Op.move (Operand.tmp 3)
            refine' anyZ_pure (i := 1) (v := _) rfl (by rfl) (by kernel_rfl) (by kernel_rfl) (by kernel_rfl) hcl1 (fun _ _ _ h => h) (Or.inl ⟨by rfl, fun w _ => ?hy2⟩) (fun _ => hHeld) (fun hcl2 => ?ry2)
            case hy2 => (simp only [List.getElem_toArray, List.getElem_cons_succ, List.getElem_cons_zero]; first | (go_simp; with_reducible rfl) | (go_simp; done) | rfl)
            simp only [List.getElem_toArray, List.getElem_cons_succ, List.getElem_cons_zero, Act.put, List.setIfInBounds_toArray, List.set_cons_zero, List.set_cons_succ]
            -- 2: Op.move (Operand.tmp 8)
            refine' anyZ_pure (i := 2) (v := _) rfl (by rfl) (by kernel_rfl) (by kernel_rfl) (by kernel_rfl) hcl2 (fun _ _ _ h => h) (Or.inl ⟨by rfl, fun w _ => ?hy3⟩) (fun _ => hHeld) (fun hcl3 => ?ry3)
            case hy3 => (simp only [List.getElem_toArray, List.getElem_cons_succ, List.getElem_cons_zero]; first | (go_simp; with_reducible rfl) | (go_simp; done) | rfl)
            simp only [List.getElem_toArray, List.getElem_cons_succ, List.getElem_cons_zero, Act.put, List.setIfInBounds_toArray, List.set_cons_zero, List.set_cons_succ]
            -- 3: Op.binOp BinOp.add 3 (Operand.tmp 54) (Operand.tmp 55) 3
            refine' anyZ_pure (i := 3) (v := _) rfl (by rfl) (by kernel_rfl) (by kernel_rfl) (by kernel_rfl) hcl3 (fun _ _ _ h => h) (Or.inl ⟨by rfl, fun w _ => ?hy4⟩) (fun _ => hHeld) (fun hcl4 => ?ry4)
            case hy4 => (simp only [List.getElem_toArray, List.getElem_cons_succ, List.getElem_cons_zero]; first | (go_simp; with_reducible rfl) | (go_simp; done) | rfl)
            simp only [List.getElem_toArray, List.getElem_cons_succ, List.getElem_cons_zero, Act.put, List.setIfInBounds_toArray, List.set_cons_zero, List.set_cons_succ]
            -- 4: Op.move (Operand.tmp 0)
            refine' anyZ_pure (i := 4) (v := _) rfl (by rfl) (by kernel_rfl) (by kernel_rfl) (by kernel_rfl) hcl4 (fun _ _ _ h => h) (Or.inl ⟨by rfl, fun w _ => ?hy5⟩) (fun _ => hHeld) (fun hcl5 => ?ry5)
            case hy5 => (simp only [List.getElem_toArray, List.getElem_cons_succ, List.getElem_cons_zero]; first | (go_simp; with_reducible rfl) | (go_simp; done) | rfl)
            simp only [List.getElem_toArray, List.getElem_cons_succ, List.getElem_cons_zero, Act.put, List.setIfInBounds_toArray, List.set_cons_zero, List.set_cons_succ]
            -- 5: Op.move (Operand.tmp 3)
            refine' anyZ_pure (i := 5) (v := _) rfl (by rfl) (by kernel_rfl) (by kernel_rfl) (by kernel_rfl) hcl5 (fun _ _ _ h => h) (Or.inl ⟨by rfl, fun w _ => ?hy6⟩) (fun _ => hHeld) (fun hcl6 => ?ry6)
            case hy6 => (simp only [List.getElem_toArray, List.getElem_cons_succ, List.getElem_cons_zero]; first | (go_simp; with_reducible rfl) | (go_simp; done) | rfl)
            simp only [List.getElem_toArray, List.getElem_cons_succ, List.getElem_cons_zero, Act.put, List.setIfInBounds_toArray, List.set_cons_zero, List.set_cons_succ]
            -- 6: Op.move (Operand.tmp 9)
            refine' anyZ_pure (i := 6) (v := _) rfl (by rfl) (by kernel_rfl) (by kernel_rfl) (by kernel_rfl) hcl6 (fun _ _ _ h => h) (Or.inl ⟨by rfl, fun w _ => ?hy7⟩) (fun _ => hHeld) (fun hcl7 => ?ry7)
            case hy7 => (simp only [List.getElem_toArray, List.getElem_cons_succ, List.getElem_cons_zero]; first | (go_simp; with_reducible rfl) | (go_simp; done) | rfl)
            simp only [List.getElem_toArray, List.getElem_cons_succ, List.getElem_cons_zero, Act.put, List.setIfInBounds_toArray, List.set_cons_zero, List.set_cons_succ]
            -- 7: Op.binOp BinOp.add 3 (Operand.tmp 58) (Operand.tmp 59) 3
            refine' anyZ_pure (i := 7) (v := _) rfl (by rfl) (by kernel_rfl) (by kernel_rfl) (by kernel_rfl) hcl7 (fun _ _ _ h => h) (Or.inl ⟨by rfl, fun w _ => ?hy8⟩) (fun _ => hHeld) (fun hcl8 => ?ry8)
            case hy8 => (simp only [List.getElem_toArray, List.getElem_cons_succ, List.getElem_cons_zero]; first | (go_simp; with_reducible rfl) | (go_simp; done) | rfl)
            simp only [List.getElem_toArray, List.getElem_cons_succ, List.getElem_cons_zero, Act.put, List.setIfInBounds_toArray, List.set_cons_zero, List.set_cons_succ]
            -- 8: Op.move (Operand.tmp 0)
            refine' anyZ_pure (i := 8) (v := _) rfl (by rfl) (by kernel_rfl) (by kernel_rfl) (by kernel_rfl) hcl8 (fun _ _ _ h => h) (Or.inl ⟨by rfl, fun w _ => ?hy9⟩) (fun _ => hHeld) (fun hcl9 => ?ry9)
            case hy9 => (simp only [List.getElem_toArray, List.getElem_cons_succ, List.getElem_cons_zero]; first | (go_simp; with_reducible rfl) | (go_simp; done) | rfl)
            simp only [List.getElem_toArray, List.getElem_cons_succ, List.getElem_cons_zero, Act.put, List.setIfInBounds_toArray, List.set_cons_zero, List.set_cons_succ]
            -- 9: Op.move (Operand.tmp 3)
            refine' anyZ_pure (i := 9) (v := _) rfl (by rfl) (by kernel_rfl) (by kernel_rfl) (by kernel_rfl) hcl9 (fun _ _ _ h => h) (Or.inl ⟨by rfl, fun w _ => ?hy10⟩) (fun _ => hHeld) (fun hcl10 => ?ry10)
            case hy10 => (simp only [List.getElem_toArray, List.getElem_cons_succ, List.getElem_cons_zero]; first | (go_simp; with_reducible rfl) | (go_simp; done) | rfl)
            simp only [List.getElem_toArray, List.getElem_cons_succ, List.getElem_cons_zero, Act.put, List.setIfInBounds_toArray, List.set_cons_zero, List.set_cons_succ]
            -- 10: Op.move (Operand.tmp 9)
            refine' anyZ_pure (i := 10) (v := _) rfl (by rfl) (by kernel_rfl) (by kernel_rfl) (by kernel_rfl) hcl10 (fun _ _ _ h => h) (Or.inl ⟨by rfl, fun w _ => ?hy11⟩) (fun _ => hHeld) (fun hcl11 => ?ry11)
            case hy11 => (simp only [List.getElem_toArray, List.getElem_cons_succ, List.getElem_cons_zero]; first | (go_simp; with_reducible rfl) | (go_simp; done) | rfl)
            simp only [List.getElem_toArray, List.getElem_cons_succ, List.getElem_cons_zero, Act.put, List.setIfInBounds_toArray, List.set_cons_zero, List.set_cons_succ]
            -- 11: Op.binOp BinOp.add 3 (Operand.tmp 62) (Operand.tmp 63) 3
            refine' anyZ_pure (i := 11) (v := _) rfl (by rfl) (by kernel_rfl) (by kernel_rfl) (by kernel_rfl) hcl11 (fun _ _ _ h => h) (Or.inl ⟨by rfl, fun w _ => ?hy12⟩) (fun _ => hHeld) (fun hcl12 => ?ry12)
            case hy12 => (simp only [List.getElem_toArray, List.getElem_cons_succ, List.getElem_cons_zero]; first | (go_simp; with_reducible rfl) | (go_simp; done) | rfl)
            simp only [List.getElem_toArray, List.getElem_cons_succ, List.getElem_cons_zero, Act.put, List.setIfInBounds_toArray, List.set_cons_zero, List.set_cons_succ]
            -- 12: Op.indexAddr 27 (Operand.tmp 61) (Operand.tmp 64)
            refine' anyZ_pure (i := 12) (v := _) rfl (by rfl) (by kernel_rfl) (by kernel_rfl) (by kernel_rfl) hcl12 (fun _ _ _ h => h) (Or.inl ⟨by rfl, fun w _ => ?hy13⟩) (fun _ => hHeld) (fun hcl13 => ?ry13)
            case hy13 => (simp only [List.getElem_toArray, List.getElem_cons_succ, List.getElem_cons_zero]; first | (go_simp; with_reducible rfl) | (go_simp; done) | rfl)
            simp only [List.getElem_toArray, List.getElem_cons_succ, List.getElem_cons_zero, Act.put, List.setIfInBounds_toArray, List.set_cons_zero, List.set_cons_succ]
            -- 13: Op.load 26 (Operand.tmp 65)
            refine' anyZ_take (i := 13) (v := _) rfl (by rfl) (by kernel_rfl) (by kernel_rfl) (by kernel_rfl) hcl13 20 (by kernel_rfl) (by kernel_rfl) (fun _ _ _ h => h) (Or.inl ⟨by rfl, fun w hSw => ?hy14⟩) hHeld (fun hcl14 => ?ry14)
            case hy14 => (simp only [List.getElem_toArray, List.getElem_cons_succ, List.getElem_cons_zero]; obtain ⟨hS1, hS2⟩ := hSw; first | (go_simp; with_reducible rfl) | (go_simp; done) | rfl)
            simp only [List.getElem_toArray, List.getElem_cons_succ, List.getElem_cons_zero, Act.put, List.setIfInBounds_toArray, List.set_cons_zero, List.set_cons_succ]
            -- 14: Op.move (Operand.tmp 0)
            refine' anyZ_pure (i := 14) (v := _) rfl (by rfl) (by kernel_rfl) (by kernel_rfl) (by kernel_rfl) hcl14 (fun _ _ _ h => h) (Or.inl ⟨by rfl, fun w _ => ?hy15⟩) (fun _ => hHeld) (fun hcl15 => ?ry15)
            case hy15 => (simp only [List.getElem_toArray, List.getElem_cons_succ, List.getElem_cons_zero]; first | (go_simp; with_reducible rfl) | (go_simp; done) | rfl)
            simp only [List.getElem_toArray, List.getElem_cons_succ, List.getElem_cons_zero, Act.put, List.setIfInBounds_toArray, List.set_cons_zero, List.set_cons_succ]
            -- 15: Op.move (Operand.tmp 3)
            refine' anyZ_pure (i := 15) (v := _) rfl (by rfl) (by kernel_rfl) (by kernel_rfl) (by kernel_rfl) hcl15 (fun _ _ _ h => h) (Or.inl ⟨by rfl, fun w _ => ?hy16⟩) (fun _ => hHeld) (fun hcl16 => ?ry16)
            case hy16 => (simp only [List.getElem_toArray, List.getElem_cons_succ, List.getElem_cons_zero]; first | (go_simp; with_reducible rfl) | (go_simp; done) | rfl)
            simp only [List.getElem_toArray, List.getElem_cons_succ, List.getElem_cons_zero, Act.put, List.setIfInBounds_toArray, List.set_cons_zero, List.set_cons_succ]
            -- 16: Op.move (Operand.tmp 8)
            refine' anyZ_pure (i := 16) (v := _) rfl (by rfl) (by kernel_rfl) (by kernel_rfl) (by kernel_rfl) hcl16 (fun _ _ _ h => h) (Or.inl ⟨by rfl, fun w _ => ?hy17⟩) (fun _ => hHeld) (fun hcl17 => ?ry17)
            case hy17 => (simp only [List.getElem_toArray, List.getElem_cons_succ, List.getElem_cons_zero]; first | (go_simp; with_reducible rfl) | (go_simp; done) | rfl)
            simp only [List.getElem_toArray, List.getElem_cons_succ, List.getElem_cons_zero, Act.put, List.setIfInBounds_toArray, List.set_cons_zero, List.set_cons_succ]
            -- 17: Op.binOp BinOp.add 3 (Operand.tmp 68) (Operand.tmp 69) 3
            refine' anyZ_pure (i := 17) (v := _) rfl (by rfl) (by kernel_rfl) (by kernel_rfl) (by kernel_rfl) hcl17 (fun _ _ _ h => h) (Or.inl ⟨by rfl, fun w _ => ?hy18⟩) (fun _ => hHeld) (fun hcl18 => ?ry18)
            case hy18 => (simp only [List.getElem_toArray, List.getElem_cons_succ, List.getElem_cons_zero]; first | (go_simp; with_reducible rfl) | (go_simp; done) | rfl)
            simp only [List.getElem_toArray, List.getElem_cons_succ, List.getElem_cons_zero, Act.put, List.setIfInBounds_toArray, List.set_cons_zero, List.set_cons_succ]
            -- 18: Op.indexAddr 27 (Operand.tmp 67) (Operand.tmp 70)
            refine' anyZ_pure (i := 18) (v := _) rfl (by rfl) (by kernel_rfl) (by kernel_rfl) (by kernel_rfl) hcl18 (fun _ _ _ h => h) (Or.inl ⟨by rfl, fun w _ => ?hy19⟩) (fun _ => hHeld) (fun hcl19 => ?ry19)
            case hy19 => (simp only [List.getElem_toArray, List.getElem_cons_succ, List.getElem_cons_zero]; first | (go_simp; with_reducible rfl) | (go_simp; done) | rfl)
            simp only [List.getElem_toArray, List.getElem_cons_succ, List.getElem_cons_zero, Act.put, List.setIfInBounds_toArray, List.set_cons_zero, List.set_cons_succ]
            -- 19: Op.load 26 (Operand.tmp 71)
            refine' anyZ_take (i := 19) (v := _) rfl (by rfl) (by kernel_rfl) (by kernel_rfl) (by kernel_rfl) hcl19 20 (by kernel_rfl) (by kernel_rfl) (fun _ _ _ h => h) (Or.inl ⟨by rfl, fun w hSw => ?hy20⟩) hHeld (fun hcl20 => ?ry20)
            case hy20 => (simp only [List.getElem_toArray, List.getElem_cons_succ, List.getElem_cons_zero]; obtain ⟨hS1, hS2⟩ := hSw; first | (go_simp; with_reducible rfl) | (go_simp; done) | rfl)
            simp only [List.getElem_toArray, List.getElem_cons_succ, List.getElem_cons_zero, Act.put, List.setIfInBounds_toArray, List.set_cons_zero, List.set_cons_succ]
            clear hHeld
            refine anyZ_chain_at (by kernel_rfl) ?_
            simp only [List.drop_succ_cons, List.drop_zero]
            go_wp2_with fail
            exact ⟨⟨ch, _, by omega, rfl, Lib.hid ⟨HROW4.out, HM2.out, HON4.out.drew⟩⟩, by simp [intOf]; omega⟩
        · obtain ⟨ch2, hch2⟩ : ∃ ch2 : Nat, ch2 = ch + 1 := ⟨_, rfl⟩
          have hch2i : (ch : Int) + 1 = (ch2 : Int) := by omega
          have HSEL : Hid (Sel hi first r d' ch2) := Lib.hid (.inr ⟨by have := HCH.out; omega, by have := HCH.out; omega, by rw [HLT.out]; exact hxy1⟩)
          clear hch2 hxy1 HLT kp1 fp1 kp2 fp2 HVx1 HVy1 p1i p2i
          generalize wr.drewN nq = W at *
          clear nq
          go_wp2_with fail
          have hgt := HGT.out
          obtain ⟨pr, hpr⟩ : ∃ pr : Nat, pr = first + r := ⟨_, rfl⟩
          have pri : (first : Int) + (r : Int) = (pr : Int) := by omega
          obtain ⟨pc, hpc⟩ : ∃ pc : Nat, pc = first + ch2 := ⟨_, rfl⟩
          have pci : (first : Int) + (ch2 : Int) = (pc : Int) := by omega
          have hne : ¬ pr = pc := by omega
          have hne2 : ¬ pc = pr := by omega
          have pra : (0 : Int) ≤ (pr : Int) := by omega
          have prb : (pr : Int) < (n : Int) := by omega
          have prc : pr < n := by omega
          have pre : IntKind.i64.wrap (pr : Int) = (pr : Int) := by rw [IntKind.wrap_i64]; omega
          have pca : (0 : Int) ≤ (pc : Int) := by omega
          have pcb : (pc : Int) < (n : Int) := by omega
          have pcc : pc < n := by omega
          have pce : IntKind.i64.wrap (pc : Int) = (pc : Int) := by rw [IntKind.wrap_i64]; omega
          obtain ⟨kpr, fpr⟩ := HROW.out.get (i := pr) (by omega)
          obtain ⟨x, hx⟩ : ∃ x, x = d'[pr]! := ⟨_, rfl⟩
          rw [← hx] at kpr
          have HVx := Lib.hid hx
          clear hx
          obtain ⟨kpc, fpc⟩ := HROW.out.get (i := pc) (by omega)
          obtain ⟨y, hy⟩ : ∃ y, y = d'[pc]! := ⟨_, rfl⟩
          rw [← hy] at kpc
          have HVy := Lib.hid hy
          clear hy
          have HMOD2 : Hid ((if (!ltN x y) = true then d' else siftDown ltN hi first ch2 (swp d' pr pc)) = R) := Lib.hid (by
            have h1 := HMOD.out
            rw [sift_go hgt HSEL.out, ← hpr, ← hpc, ← HVx.out, ← HVy.out] at h1
            exact h1)
          clear hpr hpc HMOD HSEL
          go_upto_region 5 with fail
          go_quiet ((go_at_call 84; with_reducible exact Calls.quiet_of_same (less_any x y _)))
          have HROW3 : Hid (SRow B (W.drewN nq) g n c d') := HROW
          have HON3 := Lib.hid (HON.out.drewN nq)
          clear HROW HON
          cases hxy : ltN x y
          · have hm2 : d' = R := by
              have := HMOD2.out
              rw [hxy] at this
              exact this
            have HM2 := Lib.hid hm2
            clear hm2 hxy HMOD2
            generalize W.drewN nq = W3 at *
            go_wp2_with fail
            refine bodyPost_ret (results_none rfl _ _ _) rfl ?_
            exact ⟨rfl, by rw [← HM2.out]; exact HROW3.out, HON3.out⟩
          · have hm2 : siftDown ltN hi first ch2 (swp d' pr pc) = R := by
              have := HMOD2.out
              rw [hxy] at this
              exact this
            have HM2 := Lib.hid hm2
            clear hm2 hxy HMOD2 kpr fpr kpc fpc
            generalize W.drewN nq = W3 at *
            obtain ⟨hk1, hf1⟩ := HROW3.out.get (i := pr) (by omega)
            obtain ⟨hk0, hf0⟩ := HROW3.out.get (i := pc) (by omega)
            have HROW4 := Lib.hid (HROW3.out.swp (i := pr) (j := pc) (by omega) (by omega))
            rw [← HVx.out] at hk1 HROW4
            rw [← HVy.out] at hk0 HROW4
            have HON4 := Lib.hid (one_only HON3.out (swp_only W3 g pr pc (.int .u64 y) (.int .u64 x)))
            clear HROW3 HON3
            go_upto_region 6 with fail
            have hd1z : W3.drew.cell? ⟨g, pr, none⟩ = some (.int .u64 x) := hk1
            have hd0z : W3.drew.cell? ⟨g, pc, none⟩ = some (.int .u64 y) := hk0
            refine region_anyZ (z := 20) (S := fun w' => w'.cell? ⟨g, pr, none⟩ = some (.int .u64 x) ∧ w'.cell? ⟨g, pc, none⟩ = some (.int .u64 y)) (by kernel_rfl) ?_
            refine anyZ_begin (fun hcl0 => ?_)
            refine anyZ_held (by exact ⟨hd1z, hd0z⟩) (fun hHeld => ?_)
            -- 0: Op.move (Operand.tmp 0)
            refine' anyZ_pure (i := 0) (v := _) rfl (by rfl) (by kernel_rfl) (by kernel_rfl) (by kernel_rfl) hcl0 (fun _ _ _ h => h) (Or.inl ⟨by rfl, fun w _ => ?hz1⟩) (fun _ => hHeld) (fun hcl1 => ?rz1)
            case hz1 => (simp only [List.getElem_toArray, List.getElem_cons_zero]; first | (go_simp; with_reducible rfl) | (go_simp; done) | rfl)
            simp only [List.getElem_toArray, List.getElem_cons_zero, Act.put, List.setIfInBounds_toArray, List.set_cons_zero, List.set_cons_succ]
            -- 1: Op.move (Operand.tmp 3)
            refine' anyZ_pure (i := 1) (v := _) rfl (by rfl) (by kernel_rfl) (by kernel_rfl) (by kernel_rfl) hcl1 (fun _ _ _ h => h) (Or.inl ⟨by rfl, fun w _ => ?hz2⟩) (fun _ => hHeld) (fun hcl2 => ?rz2)
            case hz2 => (simp only [List.getElem_toArray, List.getElem_cons_succ, List.getElem_cons_zero]; first | (go_simp; with_reducible rfl) | (go_simp; done) | rfl)
            simp only [List.getElem_toArray, List.getElem_cons_succ, List.getElem_cons_zero, Act.put, List.setIfInBounds_toArray, List.set_cons_zero, List.set_cons_succ]
            -- 2: Op.move (Operand.tmp 8)
            refine' anyZ_pure (i := 2) (v := _) rfl (by rfl) (by kernel_rfl) (by kernel_rfl) (by kernel_rfl) hcl2 (fun _ _ _ h => h) (Or.inl ⟨by rfl, fun w _ => ?hz3⟩) (fun _ => hHeld) (fun hcl3 => ?rz3)
            case hz3 => (simp only [List.getElem_toArray, List.getElem_cons_succ, List.getElem_cons_zero]; first | (go_simp; with_reducible rfl) | (go_simp; done) | rfl)
            simp only [List.getElem_toArray, List.getElem_cons_succ, List.getElem_cons_zero, Act.put, List.setIfInBounds_toArray, List.set_cons_zero, List.set_cons_succ]
            -- 3: Op.binOp BinOp.add 3 (Operand.tmp 54) (Operand.tmp 55) 3
            refine' anyZ_pure (i := 3) (v := _) rfl (by rfl) (by kernel_rfl) (by kernel_rfl) (by kernel_rfl) hcl3 (fun _ _ _ h => h) (Or.inl ⟨by rfl, fun w _ => ?hz4⟩) (fun _ => hHeld) (fun hcl4 => ?rz4)
            case hz4 => (simp only [List.getElem_toArray, List.getElem_cons_succ, List.getElem_cons_zero]; first | (go_simp; with_reducible rfl) | (go_simp; done) | rfl)
            simp only [List.getElem_toArray, List.getElem_cons_succ, List.getElem_cons_zero, Act.put, List.setIfInBounds_toArray, List.set_cons_zero, List.set_cons_succ]
            -- 4: Op.move (Operand.tmp 0)
            refine' anyZ_pure (i := 4) (v := _) rfl (by rfl) (by kernel_rfl) (by kernel_rfl) (by kernel_rfl) hcl4 (fun _ _ _ h => h) (Or.inl ⟨by rfl, fun w _ => ?hz5⟩) (fun _ => hHeld) (fun hcl5 => ?rz5)
            case hz5 => (simp only [List.getElem_toArray, List.getElem_cons_succ, List.getElem_cons_zero]; first | (go_simp; with_reducible rfl) | (go_simp; done) | rfl)
            simp only [List.getElem_toArray, List.getElem_cons_succ, List.getElem_cons_zero, Act.put, List.setIfInBounds_toArray, List.set_cons_zero, List.set_cons_succ]
            -- 5: Op.move (Operand.tmp 3)
            refine' anyZ_pure (i := 5) (v := _) rfl (by rfl) (by kernel_rfl) (by kernel_rfl) (by kernel_rfl) hcl5 (fun _ _ _ h => h) (Or.inl ⟨by rfl, fun w _ => ?hz6⟩) (fun _ => hHeld) (fun hcl6 => ?rz6)
            case hz6 => (simp only [List.getElem_toArray, List.getElem_cons_succ, List.getElem_cons_zero]; first | (go_simp; with_reducible rfl) | (go_simp; done) | rfl)
            simp only [List.getElem_toArray, List.getElem_cons_succ, List.getElem_cons_zero, Act.put, List.setIfInBounds_toArray, List.set_cons_zero, List.set_cons_succ]
            -- 6: Op.move (Operand.tmp 9)
            refine' anyZ_pure (i := 6) (v := _) rfl (by rfl) (by kernel_rfl) (by kernel_rfl) (by kernel_rfl) hcl6 (fun _ _ _ h => h) (Or.inl ⟨by rfl, fun w _ => ?hz7⟩) (fun _ => hHeld) (fun hcl7 => ?rz7)
            case hz7 => (simp only [List.getElem_toArray, List.getElem_cons_succ, List.getElem_cons_zero]; first | (go_simp; with_reducible rfl) | (go_simp; done) | rfl)
            simp only [List.getElem_toArray, List.getElem_cons_succ, List.getElem_cons_zero, Act.put, List.setIfInBounds_toArray, List.set_cons_zero, List.set_cons_succ]
            -- 7: Op.binOp BinOp.add 3 (Operand.tmp 58) (Operand.tmp 59) 3
            refine' anyZ_pure (i := 7) (v := _) rfl (by rfl) (by kernel_rfl) (by kernel_rfl) (by kernel_rfl) hcl7 (fun _ _ _ h => h) (Or.inl ⟨by rfl, fun w _ => ?hz8⟩) (fun _ => hHeld) (fun hcl8 => ?rz8)
            case hz8 => (simp only [List.getElem_toArray, List.getElem_cons_succ, List.getElem_cons_zero]; first | (go_simp; with_reducible rfl) | (go_simp; done) | rfl)
            simp only [List.getElem_toArray, List.getElem_cons_succ, List.getElem_cons_zero, Act.put, List.setIfInBounds_toArray, List.set_cons_zero, List.set_cons_succ]
            -- 8: Op.move (Operand.tmp 0)
            refine' anyZ_pure (i := 8) (v := _) rfl (by rfl) (by kernel_rfl) (by kernel_rfl) (by kernel_rfl) hcl8 (fun _ _ _ h => h) (Or.inl ⟨by rfl, fun w _ => ?hz9⟩) (fun _ => hHeld) (fun hcl9 => ?rz9)
            case hz9 => (simp only [List.getElem_toArray, List.getElem_cons_succ, List.getElem_cons_zero]; first | (go_simp; with_reducible rfl) | (go_simp; done) | rfl)
            simp only [List.getElem_toArray, List.getElem_cons_succ, List.getElem_cons_zero, Act.put, List.setIfInBounds_toArray, List.set_cons_zero, List.set_cons_succ]
            -- 9: Op.move (Operand.tmp 3)
            refine' anyZ_pure (i := 9) (v := _) rfl (by rfl) (by kernel_rfl) (by kernel_rfl) (by kernel_rfl) hcl9 (fun _ _ _ h => h) (Or.inl ⟨by rfl, fun w _ => ?hz10⟩) (fun _ => hHeld) (fun hcl10 => ?rz10)
            case hz10 => (simp only [List.getElem_toArray, List.getElem_cons_succ, List.getElem_cons_zero]; first | (go_simp; with_reducible rfl) | (go_simp; done) | rfl)
            simp only [List.getElem_toArray, List.getElem_cons_succ, List.getElem_cons_zero, Act.put, List.setIfInBounds_toArray, List.set_cons_zero, List.set_cons_succ]
            -- 10: Op.move (Operand.tmp 9)
            refine' anyZ_pure (i := 10) (v := _) rfl (by rfl) (by kernel_rfl) (by kernel_rfl) (by kernel_rfl) hcl10 (fun _ _ _ h => h) (Or.inl ⟨by rfl, fun w _ => ?hz11⟩) (fun _ => hHeld) (fun hcl11 => ?rz11)
            case hz11 => (simp only [List.getElem_toArray, List.getElem_cons_succ, List.getElem_cons_zero]; first | (go_simp; with_reducible rfl) | (go_simp; done) | rfl)
            simp only [List.getElem_toArray, List.getElem_cons_succ, List.getElem_cons_zero, Act.put, List.setIfInBounds_toArray, List.set_cons_zero, List.set_cons_succ]
            -- 11: Op.binOp BinOp.add 3 (Operand.tmp 62) (Operand.tmp 63) 3
            refine' anyZ_pure (i := 11) (v := _) rfl (by rfl) (by kernel_rfl) (by kernel_rfl) (by kernel_rfl) hcl11 (fun _ _ _ h => h) (Or.inl ⟨by rfl, fun w _ => ?hz12⟩) (fun _ => hHeld) (fun hcl12 => ?rz12)
            case hz12 => (simp only [List.getElem_toArray, List.getElem_cons_succ, List.getElem_cons_zero]; first | (go_simp; with_reducible rfl) | (go_simp; done) | rfl)
            simp only [List.getElem_toArray, List.getElem_cons_succ, List.getElem_cons_zero, Act.put, List.setIfInBounds_toArray, List.set_cons_zero, List.set_cons_succ]
            -- 12: Op.indexAddr 27 (Operand.tmp 61) (Operand.tmp 64)
            refine' anyZ_pure (i := 12) (v := _) rfl (by rfl) (by kernel_rfl) (by kernel_rfl) (by kernel_rfl) hcl12 (fun _ _ _ h => h) (Or.inl ⟨by rfl, fun w _ => ?hz13⟩) (fun _ => hHeld) (fun hcl13 => ?rz13)
            case hz13 => (simp only [List.getElem_toArray, List.getElem_cons_succ, List.getElem_cons_zero]; first | (go_simp; with_reducible rfl) | (go_simp; done) | rfl)
            simp only [List.getElem_toArray, List.getElem_cons_succ, List.getElem_cons_zero, Act.put, List.setIfInBounds_toArray, List.set_cons_zero, List.set_cons_succ]
            -- 13: Op.load 26 (Operand.tmp 65)
            refine' anyZ_take (i := 13) (v := _) rfl (by rfl) (by kernel_rfl) (by kernel_rfl) (by kernel_rfl) hcl13 20 (by kernel_rfl) (by kernel_rfl) (fun _ _ _ h => h) (Or.inl ⟨by rfl, fun w hSw => ?hz14⟩) hHeld (fun hcl14 => ?rz14)
            case hz14 => (simp only [List.getElem_toArray, List.getElem_cons_succ, List.getElem_cons_zero]; obtain ⟨hS1, hS2⟩ := hSw; first | (go_simp; with_reducible rfl) | (go_simp; done) | rfl)
            simp only [List.getElem_toArray, List.getElem_cons_succ, List.getElem_cons_zero, Act.put, List.setIfInBounds_toArray, List.set_cons_zero, List.set_cons_succ]
            -- 14: Op.move (Operand.tmp 0)
            refine' anyZ_pure (i := 14) (v := _) rfl (by rfl) (by kernel_rfl) (by kernel_rfl) (by kernel_rfl) hcl14 (fun _ _ _ h => h) (Or.inl ⟨by rfl, fun w _ => ?hz15⟩) (fun _ => hHeld) (fun hcl15 => ?rz15)
            case hz15 => (simp only [List.getElem_toArray, List.getElem_cons_succ, List.getElem_cons_zero]; first | (go_simp; with_reducible rfl) | (go_simp; done) | rfl)
            simp only [List.getElem_toArray, List.getElem_cons_succ, List.getElem_cons_zero, Act.put, List.setIfInBounds_toArray, List.set_cons_zero, List.set_cons_succ]
            -- 15: Op.move (Operand.tmp 3)
            refine' anyZ_pure (i := 15) (v := _) rfl (by rfl) (by kernel_rfl) (by kernel_rfl) (by kernel_rfl) hcl15 (fun _ _ _ h => h) (Or.inl ⟨by rfl, fun w _ => ?hz16⟩) (fun _ => hHeld) (fun hcl16 => ?rz16)
            case hz16 => (simp only [List.getElem_toArray, List.getElem_cons_succ, List.getElem_cons_zero]; first | (go_simp; with_reducible rfl) | (go_simp; done) | rfl)
            simp only [List.getElem_toArray, List.getElem_cons_succ, List.getElem_cons_zero, Act.put, List.setIfInBounds_toArray, List.set_cons_zero, List.set_cons_succ]
            -- 16: Op.move (Operand.tmp 8)
            refine' anyZ_pure (i := 16) (v := _) rfl (by rfl) (by kernel_rfl) (by kernel_rfl) (by kernel_rfl) hcl16 (fun _ _ _ h => h) (Or.inl ⟨by rfl, fun w _ => ?hz17⟩) (fun _ => hHeld) (fun hcl17 => ?rz17)
            case hz17 => (simp only [List.getElem_toArray, List.getElem_cons_succ, List.getElem_cons_zero]; first | (go_simp; with_reducible rfl) | (go_simp; done) | rfl)
            simp only [List.getElem_toArray, List.getElem_cons_succ, List.getElem_cons_zero, Act.put, List.setIfInBounds_toArray, List.set_cons_zero, List.set_cons_succ]
            -- 17: Op.binOp BinOp.add 3 (Operand.tmp 68) (Operand.tmp 69) 3
            refine' anyZ_pure (i := 17) (v := _) rfl (by rfl) (by kernel_rfl) (by kernel_rfl) (by kernel_rfl) hcl17 (fun _ _ _ h => h) (Or.inl ⟨by rfl, fun w _ => ?hz18⟩) (fun _ => hHeld) (fun hcl18 => ?rz18)
            case hz18 => (simp only [List.getElem_toArray, List.getElem_cons_succ, List.getElem_cons_zero]; first | (go_simp; with_reducible rfl) | (go_simp; done) | rfl)
            simp only [List.getElem_toArray, List.getElem_cons_succ, List.getElem_cons_zero, Act.put, List.setIfInBounds_toArray, List.set_cons_zero, List.set_cons_succ]
            -- 18: Op.indexAddr 27 (Operand.tmp 67) (Operand.tmp 70)
            refine' anyZ_pure (i := 18) (v := _) rfl (by rfl) (by kernel_rfl) (by kernel_rfl) (by kernel_rfl) hcl18 (fun _ _ _ h => h) (Or.inl ⟨by rfl, fun w _ => ?hz19⟩) (fun _ => hHeld) (fun hcl19 => ?rz19)
            case hz19 => (simp only [List.getElem_toArray, List.getElem_cons_succ, List.getElem_cons_zero]; first | (go_simp; with_reducible rfl) | (go_simp; done) | rfl)
            simp only [List.getElem_toArray, List.getElem_cons_succ, List.getElem_cons_zero, Act.put, List.setIfInBounds_toArray, List.set_cons_zero, List.set_cons_succ]
            -- 19: Op.load 26 (Operand.tmp 71)
            refine' anyZ_take (i := 19) (v := _) rfl (by rfl) (by kernel_rfl) (by kernel_rfl) (by kernel_rfl) hcl19 20 (by kernel_rfl) (by kernel_rfl) (fun _ _ _ h => h) (Or.inl ⟨by rfl, fun w hSw => ?hz20⟩) hHeld (fun hcl20 => ?rz20)
            case hz20 => (simp only [List.getElem_toArray, List.getElem_cons_succ, List.getElem_cons_zero]; obtain ⟨hS1, hS2⟩ := hSw; first | (go_simp; with_reducible rfl) | (go_simp; done) | rfl)
            simp only [List.getElem_toArray, List.getElem_cons_succ, List.getElem_cons_zero, Act.put, List.setIfInBounds_toArray, List.set_cons_zero, List.set_cons_succ]
            clear hHeld
            refine anyZ_chain_at (by kernel_rfl) ?_
            simp only [List.drop_succ_cons, List.drop_zero]
            go_wp2_with fail
            exact ⟨⟨ch2, _, by omega, rfl, Lib.hid ⟨HROW4.out, HM2.out, HON4.out.drew⟩⟩, by simp [intOf]; omega⟩
      · have d2 : decide ((ch : Int) + 1 < (hi : Int)) = false := decide_eq_false (by omega)
        have d2n : decide (ch + 1 < hi) = false := decide_eq_false h2
        have HSEL : Hid (Sel hi first r d' ch) := Lib.hid (.inl ⟨HCH.out, fun h => by have := h.1; have := HCH.out; omega⟩)
        clear hch
        go_upto_region 3 with fail
        go_quiet (fail)
        have HROW : Hid (SRow B (wr.drewN nq) g n c d') := HROW0
        have HON := Lib.hid (HON0.out.drewN nq)
        clear HROW0 HON0
        generalize wr.drewN nq = W at *
        clear nq
        go_wp2_with fail
        have hgt := HGT.out
        obtain ⟨pr, hpr⟩ : ∃ pr : Nat, pr = first + r := ⟨_, rfl⟩
        have pri : (first : Int) + (r : Int) = (pr : Int) := by omega
        obtain ⟨pc, hpc⟩ : ∃ pc : Nat, pc = first + ch := ⟨_, rfl⟩
        have pci : (first : Int) + (ch : Int) = (pc : Int) := by omega
        have hne : ¬ pr = pc := by omega
        have hne2 : ¬ pc = pr := by omega
        have pra : (0 : Int) ≤ (pr : Int) := by omega
        have prb : (pr : Int) < (n : Int) := by omega
        have prc : pr < n := by omega
        have pre : IntKind.i64.wrap (pr : Int) = (pr : Int) := by rw [IntKind.wrap_i64]; omega
        have pca : (0 : Int) ≤ (pc : Int) := by omega
        have pcb : (pc : Int) < (n : Int) := by omega
        have pcc : pc < n := by omega
        have pce : IntKind.i64.wrap (pc : Int) = (pc : Int) := by rw [IntKind.wrap_i64]; omega
        obtain ⟨kpr, fpr⟩ := HROW.out.get (i := pr) (by omega)
        obtain ⟨x, hx⟩ : ∃ x, x = d'[pr]! := ⟨_, rfl⟩
        rw [← hx] at kpr
        have HVx := Lib.hid hx
        clear hx
        obtain ⟨kpc, fpc⟩ := HROW.out.get (i := pc) (by omega)
        obtain ⟨y, hy⟩ : ∃ y, y = d'[pc]! := ⟨_, rfl⟩
        rw [← hy] at kpc
        have HVy := Lib.hid hy
        clear hy
        have HMOD2 : Hid ((if (!ltN x y) = true then d' else siftDown ltN hi first ch (swp d' pr pc)) = R) := Lib.hid (by
          have h1 := HMOD.out
          rw [sift_go hgt HSEL.out, ← hpr, ← hpc, ← HVx.out, ← HVy.out] at h1
          exact h1)
        clear hpr hpc HMOD HSEL
        go_upto_region 5 with fail
        go_quiet ((go_at_call 84; with_reducible exact Calls.quiet_of_same (less_any x y _)))
        have HROW3 : Hid (SRow B (W.drewN nq) g n c d') := HROW
        have HON3 := Lib.hid (HON.out.drewN nq)
        clear HROW HON
        cases hxy : ltN x y
        · have hm2 : d' = R := by
            have := HMOD2.out
            rw [hxy] at this
            exact this
          have HM2 := Lib.hid hm2
          clear hm2 hxy HMOD2
          generalize W.drewN nq = W3 at *
          go_wp2_with fail
          refine bodyPost_ret (results_none rfl _ _ _) rfl ?_
          exact ⟨rfl, by rw [← HM2.out]; exact HROW3.out, HON3.out⟩
        · have hm2 : siftDown ltN hi first ch (swp d' pr pc) = R := by
            have := HMOD2.out
            rw [hxy] at this
            exact this
          have HM2 := Lib.hid hm2
          clear hm2 hxy HMOD2 kpr fpr kpc fpc
          generalize W.drewN nq = W3 at *
          obtain ⟨hk1, hf1⟩ := HROW3.out.get (i := pr) (by omega)
          obtain ⟨hk0, hf0⟩ := HROW3.out.get (i := pc) (by omega)
          have HROW4 := Lib.hid (HROW3.out.swp (i := pr) (j := pc) (by omega) (by omega))
          rw [← HVx.out] at hk1 HROW4
          rw [← HVy.out] at hk0 HROW4
          have HON4 := Lib.hid (one_only HON3.out (swp_only W3 g pr pc (.int .u64 y) (.int .u64 x)))
          clear HROW3 HON3
          go_upto_region 6 with fail
          have hd1v : W3.drew.cell? ⟨g, pr, none⟩ = some (.int .u64 x) := hk1
          have hd0v : W3.drew.cell? ⟨g, pc, none⟩ = some (.int .u64 y) := hk0
          refine region_anyZ (z := 20) (S := fun w' => w'.cell? ⟨g, pr, none⟩ = some (.int .u64 x) ∧ w'.cell? ⟨g, pc, none⟩ = some (.int .u64 y)) (by kernel_rfl) ?_
          refine anyZ_begin (fun hcl0 => ?_)
          refine anyZ_held (by exact ⟨hd1v, hd0v⟩) (fun hHeld => ?_)
          -- 0: Op.move (Operand.tmp 0)
          refine' anyZ_pure (i := 0) (v := _) rfl (by rfl) (by kernel_rfl) (by kernel_rfl) (by kernel_rfl) hcl0 (fun _ _ _ h => h) (Or.inl ⟨by rfl, fun w _ => ?hv1⟩) (fun _ => hHeld) (fun hcl1 => ?rv1)
          case hv1 => (simp only [List.getElem_toArray, List.getElem_cons_zero]; first | (go_simp; with_reducible rfl) | (go_simp; done) | rfl)
          simp only [List.getElem_toArray, List.getElem_cons_zero, Act.put, List.setIfInBounds_toArray, List.set_cons_zero, List.set_cons_succ]
          -- 1: Op.move (Operand.tmp 3)
          refine' anyZ_pure (i := 1) (v := _) rfl (by rfl) (by kernel_rfl) (by kernel_rfl) (by kernel_rfl) hcl1 (fun _ _ _ h => h) (Or.inl ⟨by rfl, fun w _ => ?hv2⟩) (fun _ => hHeld) (fun hcl2 => ?rv2)
          case hv2 => (simp only [List.getElem_toArray, List.getElem_cons_succ, List.getElem_cons_zero]; first | (go_simp; with_reducible rfl) | (go_simp; done) | rfl)
          simp only [List.getElem_toArray, List.getElem_cons_succ, List.getElem_cons_zero, Act.put, List.setIfInBounds_toArray, List.set_cons_zero, List.set_cons_succ]
          -- 2: Op.move (Operand.tmp 8)
          refine' anyZ_pure (i := 2) (v := _) rfl (by rfl) (by kernel_rfl) (by kernel_rfl) (by kernel_rfl) hcl2 (fun _ _ _ h => h) (Or.inl ⟨by rfl, fun w _ => ?hv3⟩) (fun _ => hHeld) (fun hcl3 => ?rv3)
          case hv3 => (simp only [List.getElem_toArray, List.getElem_cons_succ, List.getElem_cons_zero]; first | (go_simp; with_reducible rfl) | (go_simp; done) | rfl)
          simp only [List.getElem_toArray, List.getElem_cons_succ, List.getElem_cons_zero, Act.put, List.setIfInBounds_toArray, List.set_cons_zero, List.set_cons_succ]
          -- 3: Op.binOp BinOp.add 3 (Operand.tmp 54) (Operand.tmp 55) 3
          refine' anyZ_pure (i := 3) (v := _) rfl (by rfl) (by kernel_rfl) (by kernel_rfl) (by kernel_rfl) hcl3 (fun _ _ _ h => h) (Or.inl ⟨by rfl, fun w _ => ?hv4⟩) (fun _ => hHeld) (fun hcl4 => ?rv4)
          case hv4 => (simp only [List.getElem_toArray, List.getElem_cons_succ, List.getElem_cons_zero]; first | (go_simp; with_reducible rfl) | (go_simp; done) | rfl)
          simp only [List.getElem_toArray, List.getElem_cons_succ, List.getElem_cons_zero, Act.put, List.setIfInBounds_toArray, List.set_cons_zero, List.set_cons_succ]
          -- 4: Op.move (Operand.tmp 0)
          refine' anyZ_pure (i := 4) (v := _) rfl (by rfl) (by kernel_rfl) (by kernel_rfl) (by kernel_rfl) hcl4 (fun _ _ _ h => h) (Or.inl ⟨by rfl, fun w _ => ?hv5⟩) (fun _ => hHeld) (fun hcl5 => ?rv5)
          case hv5 => (simp only [List.getElem_toArray, List.getElem_cons_succ, List.getElem_cons_zero]; first | (go_simp; with_reducible rfl) | (go_simp; done) | rfl)
          simp only [List.getElem_toArray, List.getElem_cons_succ, List.getElem_cons_zero, Act.put, List.setIfInBounds_toArray, List.set_cons_zero, List.set_cons_succ]
          -- 5: Op.move (Operand.tmp 3)
          refine' anyZ_pure (i := 5) (v := _) rfl (by rfl) (by kernel_rfl) (by kernel_rfl) (by kernel_rfl) hcl5 (fun _ _ _ h => h) (Or.inl ⟨by rfl, fun w _ => ?hv6⟩) (fun _ => hHeld) (fun hcl6 => ?rv6)
          case hv6 => (simp only [List.getElem_toArray, List.getElem_cons_succ, List.getElem_cons_zero]; first | (go_simp; with_reducible rfl) | (go_simp; done) | rfl)
          simp only [List.getElem_toArray, List.getElem_cons_succ, List.getElem_cons_zero, Act.put, List.setIfInBounds_toArray, List.set_cons_zero, List.set_cons_succ]
          -- 6: Op.move (Operand.tmp 9)
          refine' anyZ_pure (i := 6) (v := _) rfl (by rfl) (by kernel_rfl) (by kernel_rfl) (by kernel_rfl) hcl6 (fun _ _ _ h => h) (Or.inl ⟨by rfl, fun w _ => ?hv7⟩) (fun _ => hHeld) (fun hcl7 => ?rv7)
          case hv7 => (simp only [List.getElem_toArray, List.getElem_cons_succ, List.getElem_cons_zero]; first | (go_simp; with_reducible rfl) | (go_simp; done) | rfl)
          simp only [List.getElem_toArray, List.getElem_cons_succ, List.getElem_cons_zero, Act.put, List.setIfInBounds_toArray, List.set_cons_zero, List.set_cons_succ]
          -- 7: Op.binOp BinOp.add 3 (Operand.tmp 58) (Operand.tmp 59) 3
          refine' anyZ_pure (i := 7) (v := _) rfl (by rfl) (by kernel_rfl) (by kernel_rfl) (by kernel_rfl) hcl7 (fun _ _ _ h => h) (Or.inl ⟨by rfl, fun w _ => ?hv8⟩) (fun _ => hHeld) (fun hcl8 => ?rv8)
          case hv8 => (simp only [List.getElem_toArray, List.getElem_cons_succ, List.getElem_cons_zero]; first | (go_simp; with_reducible rfl) | (go_simp; done) | rfl)
          simp only [List.getElem_toArray, List.getElem_cons_succ, List.getElem_cons_zero, Act.put, List.setIfInBounds_toArray, List.set_cons_zero, List.set_cons_succ]
          -- 8: Op.move (Operand.tmp 0)
          refine' anyZ_pure (i := 8) (v := _) rfl (by rfl) (by kernel_rfl) (by kernel_rfl) (by kernel_rfl) hcl8 (fun _ _ _ h => h) (Or.inl ⟨by rfl, fun w _ => ?hv9⟩) (fun _ => hHeld) (fun hcl9 => ?rv9)
          case hv9 => (simp only [List.getElem_toArray, List.getElem_cons_succ, List.getElem_cons_zero]; first | (go_simp; with_reducible rfl) | (go_simp; done) | rfl)
          simp only [List.getElem_toArray, List.getElem_cons_succ, List.getElem_cons_zero, Act.put, List.setIfInBounds_toArray, List.set_cons_zero, List.set_cons_succ]
          -- 9: Op.move (Operand.tmp 3)
          refine' anyZ_pure (i := 9) (v := _) rfl (by rfl) (by kernel_rfl) (by kernel_rfl) (by kernel_rfl) hcl9 (fun _ _ _ h => h) (Or.inl ⟨by rfl, fun w _ => ?hv10⟩) (fun _ => hHeld) (fun hcl10 => ?rv10)
          case hv10 => (simp only [List.getElem_toArray, List.getElem_cons_succ, List.getElem_cons_zero]; first | (go_simp; with_reducible rfl) | (go_simp; done) | rfl)
          simp only [List.getElem_toArray, List.getElem_cons_succ, List.getElem_cons_zero, Act.put, List.setIfInBounds_toArray, List.set_cons_zero, List.set_cons_succ]
          -- 10: Op.move (Operand.tmp 9)
          refine' anyZ_pure (i := 10) (v := _) rfl (by rfl) (by kernel_rfl) (by kernel_rfl) (by kernel_rfl) hcl10 (fun _ _ _ h => h) (Or.inl ⟨by rfl, fun w _ => ?hv11⟩) (fun _ => hHeld) (fun hcl11 => ?rv11)
          case hv11 => (simp only [List.getElem_toArray, List.getElem_cons_succ, List.getElem_cons_zero]; first | (go_simp; with_reducible rfl) | (go_simp; done) | rfl)
          simp only [List.getElem_toArray, List.getElem_cons_succ, List.getElem_cons_zero, Act.put, List.setIfInBounds_toArray, List.set_cons_zero, List.set_cons_succ]
          -- 11: Op.binOp BinOp.add 3 (Operand.tmp 62) (Operand.tmp 63) 3
          refine' anyZ_pure (i := 11) (v := _) rfl (by rfl) (by kernel_rfl) (by kernel_rfl) (by kernel_rfl) hcl11 (fun _ _ _ h => h) (Or.inl ⟨by rfl, fun w _ => ?hv12⟩) (fun _ => hHeld) (fun hcl12 => ?rv12)
          case hv12 => (simp only [List.getElem_toArray, List.getElem_cons_succ, List.getElem_cons_zero]; first | (go_simp; with_reducible rfl) | (go_simp; done) | rfl)
          simp only [List.getElem_toArray, List.getElem_cons_succ, List.getElem_cons_zero, Act.put, List.setIfInBounds_toArray, List.set_cons_zero, List.set_cons_succ]
          -- 12: Op.indexAddr 27 (Operand.tmp 61) (Operand.tmp 64)
          refine' anyZ_pure (i := 12) (v := _) rfl (by rfl) (by kernel_rfl) (by kernel_rfl) (by kernel_rfl) hcl12 (fun _ _ _ h => h) (Or.inl ⟨by rfl, fun w _ => ?hv13⟩) (fun _ => hHeld) (fun hcl13 => ?rv13)
          case hv13 => (simp only [List.getElem_toArray, List.getElem_cons_succ, List.getElem_cons_zero]; first | (go_simp; with_reducible rfl) | (go_simp; done) | rfl)
          simp only [List.getElem_toArray, List.getElem_cons_succ, List.getElem_cons_zero, Act.put, List.setIfInBounds_toArray, List.set_cons_zero, List.set_cons_succ]
          -- 13: Op.load 26 (Operand.tmp 65)
          refine' anyZ_take (i := 13) (v := _) rfl (by rfl) (by kernel_rfl) (by kernel_rfl) (by kernel_rfl) hcl13 20 (by kernel_rfl) (by kernel_rfl) (fun _ _ _ h => h) (Or.inl ⟨by rfl, fun w hSw => ?hv14⟩) hHeld (fun hcl14 => ?rv14)
          case hv14 => (simp only [List.getElem_toArray, List.getElem_cons_succ, List.getElem_cons_zero]; obtain ⟨hS1, hS2⟩ := hSw; first | (go_simp; with_reducible rfl) | (go_simp; done) | rfl)
          simp only [List.getElem_toArray, List.getElem_cons_succ, List.getElem_cons_zero, Act.put, List.setIfInBounds_toArray, List.set_cons_zero, List.set_cons_succ]
          -- 14: Op.move (Operand.tmp 0)
          refine' anyZ_pure (i := 14) (v := _) rfl (by rfl) (by kernel_rfl) (by kernel_rfl) (by kernel_rfl) hcl14 (fun _ _ _ h => h) (Or.inl ⟨by rfl, fun w _ => ?hv15⟩) (fun _ => hHeld) (fun hcl15 => ?rv15)
          case hv15 => (simp only [List.getElem_toArray, List.getElem_cons_succ, List.getElem_cons_zero]; first | (go_simp; with_reducible rfl) | (go_simp; done) | rfl)
          simp only [List.getElem_toArray, List.getElem_cons_succ, List.getElem_cons_zero, Act.put, List.setIfInBounds_toArray, List.set_cons_zero, List.set_cons_succ]
          -- 15: Op.move (Operand.tmp 3)
          refine' anyZ_pure (i := 15) (v := _) rfl (by rfl) (by kernel_rfl) (by kernel_rfl) (by kernel_rfl) hcl15 (fun _ _ _ h => h) (Or.inl ⟨by rfl, fun w _ => ?hv16⟩) (fun _ => hHeld) (fun hcl16 => ?rv16)
          case hv16 => (simp only [List.getElem_toArray, List.getElem_cons_succ, List.getElem_cons_zero]; first | (go_simp; with_reducible rfl) | (go_simp; done) | rfl)
          simp only [List.getElem_toArray, List.getElem_cons_succ, List.getElem_cons_zero, Act.put, List.setIfInBounds_toArray, List.set_cons_zero, List.set_cons_succ]
          -- 16: Op.move (Operand.tmp 8)
          refine' anyZ_pure (i := 16) (v := _) rfl (by rfl) (by kernel_rfl) (by kernel_rfl) (by kernel_rfl) hcl16 (fun _ _ _ h => h) (Or.inl ⟨by rfl, fun w _ => ?hv17⟩) (fun _ => hHeld) (fun hcl17 => ?rv17)
          case hv17 => (simp only [List.getElem_toArray, List.getElem_cons_succ, List.getElem_cons_zero]; first | (go_simp; with_reducible rfl) | (go_simp; done) | rfl)
          simp only [List.getElem_toArray, List.getElem_cons_succ, List.getElem_cons_zero, Act.put, List.setIfInBounds_toArray, List.set_cons_zero, List.set_cons_succ]
          -- 17: Op.binOp BinOp.add 3 (Operand.tmp 68) (Operand.tmp 69) 3
          refine' anyZ_pure (i := 17) (v := _) rfl (by rfl) (by kernel_rfl) (by kernel_rfl) (by kernel_rfl) hcl17 (fun _ _ _ h => h) (Or.inl ⟨by rfl, fun w _ => ?hv18⟩) (fun _ => hHeld) (fun hcl18 => ?rv18)
          case hv18 => (simp only [List.getElem_toArray, List.getElem_cons_succ, List.getElem_cons_zero]; first | (go_simp; with_reducible rfl) | (go_simp; done) | rfl)
          simp only [List.getElem_toArray, List.getElem_cons_succ, List.getElem_cons_zero, Act.put, List.setIfInBounds_toArray, List.set_cons_zero, List.set_cons_succ]
          -- 18: Op.indexAddr 27 (Operand.tmp 67) (Operand.tmp 70)
          refine' anyZ_pure (i := 18) (v := _) rfl (by rfl) (by kernel_rfl) (by kernel_rfl) (by kernel_rfl) hcl18 (fun _ _ _ h => h) (Or.inl ⟨by rfl, fun w _ => ?hv19⟩) (fun _ => hHeld) (fun hcl19 => ?rv19)
          case hv19 => (simp only [List.getElem_toArray, List.getElem_cons_succ, List.getElem_cons_zero]; first | (go_simp; with_reducible rfl) | (go_simp; done) | rfl)
          simp only [List.getElem_toArray, List.getElem_cons_succ, List.getElem_cons_zero, Act.put, List.setIfInBounds_toArray, List.set_cons_zero, List.set_cons_succ]
          -- 19: Op.load 26 (Operand.tmp 71)
          refine' anyZ_take (i := 19) (v := _) rfl (by rfl) (by kernel_rfl) (by kernel_rfl) (by kernel_rfl) hcl19 20 (by kernel_rfl) (by kernel_rfl) (fun _ _ _ h => h) (Or.inl ⟨by rfl, fun w hSw => ?hv20⟩) hHeld (fun hcl20 => ?rv20)
          case hv20 => (simp only [List.getElem_toArray, List.getElem_cons_succ, List.getElem_cons_zero]; obtain ⟨hS1, hS2⟩ := hSw; first | (go_simp; with_reducible rfl) | (go_simp; done) | rfl)
          simp only [List.getElem_toArray, List.getElem_cons_succ, List.getElem_cons_zero, Act.put, List.setIfInBounds_toArray, List.set_cons_zero, List.set_cons_succ]
          clear hHeld
          refine anyZ_chain_at (by kernel_rfl) ?_
          simp only [List.drop_succ_cons, List.drop_zero]
          go_wp2_with fail
          exact ⟨⟨ch, _, by omega, rfl, Lib.hid ⟨HROW4.out, HM2.out, HON4.out.drew⟩⟩, by simp [intOf]; omega⟩
end Go.Proofs.Ytnbncjebmlicgaa
