/- Walk: heapSortOrdered. -/
import Derived.Test.YtnbncjebmlicgaaSrtSift
namespace Go.Proofs.Ytnbncjebmlicgaa
open Go.RowKit Go.Sort

set_option linter.unusedSimpArgs false in
set_option maxRecDepth 20000 in
set_option maxHeartbeats 6400000 in
theorem srtheap_any (B g n c a b : Nat) (d : Array Nat) (w : World) (h : SRow B w g n c d) (hab : a < b) (hbn : b ≤ n) (hn : n ≤ 1000000000) :
    Calls Try.prog 79 #[.slice (some ⟨g, 0, none⟩) n c, .int .i64 a, .int .i64 b] w fun e w' => e = .returned (.tuple #[]) ∧ SRow B w' g n c (heapSort ltN d a b) ∧ Only w w' (fun q => q = g) := by
  have H := Lib.hid h
  obtain ⟨hi, hhi⟩ : ∃ hi, hi = b - a := ⟨_, rfl⟩
  obtain ⟨R, hR⟩ : ∃ R, R = heapSort ltN d a b := ⟨_, rfl⟩
  rw [← hR]
  obtain ⟨H1, hH1⟩ : ∃ H1, H1 = heapBuild ltN hi a ((hi - 1) / 2 + 1) d := ⟨_, rfl⟩
  have HR : Hid (heapPop ltN a hi H1 = R) := Lib.hid (by rw [hR, hH1, hhi]; rfl)
  have HH1 := Lib.hid hH1.symm
  have hhii : (b : Int) - (a : Int) = (hi : Int) := by omega
  have hi1 : 1 ≤ hi := by omega
  have hi2 : a + hi ≤ n := by omega
  obtain ⟨m, hm⟩ : ∃ m, m = (hi - 1) / 2 := ⟨_, rfl⟩
  have hmi : ((hi : Int) - 1).tdiv 2 = (m : Int) := by
    rw [hm, show (hi : Int) - 1 = ((hi - 1 : Nat) : Int) by omega]
    rfl
  have hm1 : m ≤ hi := by omega
  have HM := Lib.hid hm
  clear h hR hH1 hhi hm hab
  go_enter Try.func79, Try.ntmps79
  go_wp2_with fail
  go_loopw [9] (fun i wr => ∃ (k : Nat) (d' : Array Nat), k ≤ m + 1 ∧ i = .int .i64 ((k : Int) - 1) ∧ Hid (SRow B wr g n c d' ∧ heapBuild ltN hi a k d' = H1 ∧ Only w wr (fun q => q = g))) (fun i _ => (intOf i + 1).toNat)
  case atStart => exact ⟨m + 1, d, by omega, by congr 1; omega, Lib.hid ⟨H.out, by rw [HM.out]; exact HH1.out, Only.refl _ _⟩⟩
  case round =>
    clear HH1 H
    obtain ⟨k, d', hk, rfl, hin⟩ := hrel
    cases k with
    | zero =>
      have hm2 : d' = H1 := hin.out.2.1
      have HROW := Lib.hid hin.out.1
      have HON := Lib.hid hin.out.2.2
      rw [hm2] at HROW
      clear hm2 hin
      go_wp2_with fail
      go_loopw [10] (fun i ws => ∃ (k : Nat) (d' : Array Nat), k ≤ hi ∧ i = .int .i64 ((k : Int) - 1) ∧ Hid (SRow B ws g n c d' ∧ heapPop ltN a k d' = R ∧ Only w ws (fun q => q = g))) (fun i _ => (intOf i + 1).toNat)
      case atStart => exact ⟨hi, H1, by omega, rfl, Lib.hid ⟨HROW.out, HR.out, HON.out⟩⟩
      case round =>
        clear HROW HON HR
        obtain ⟨k, d', hk, rfl, hin⟩ := hrel
        cases k with
        | zero =>
          have hm2 : d' = R := hin.out.2.1
          have HROW := Lib.hid hin.out.1
          have HON := Lib.hid hin.out.2.2
          rw [hm2] at HROW
          clear hm2 hin
          go_wp2_with fail
          go_end0
          exact ⟨rfl, HROW.out, HON.out⟩
        | succ k =>
          have HMD : Hid (heapPop ltN a k (siftDown ltN k a 0 (swp d' a (a + k))) = R) := Lib.hid hin.out.2.1
          have HROW := Lib.hid hin.out.1
          have HON := Lib.hid hin.out.2.2
          clear hin
          have hki : ((k + 1 : Nat) : Int) - 1 = (k : Int) := by omega
          rw [hki]
          have hk0 : decide ((0 : Int) ≤ (k : Int)) = true := decide_eq_true (by omega)
          clear hki
          by_cases hk0' : k = 0
          · subst hk0'
            have aa : (0 : Int) ≤ (a : Int) := by omega
            have ab : (a : Int) < (n : Int) := by omega
            have ac : a < n := by omega
            have ae : IntKind.i64.wrap (a : Int) = (a : Int) := by rw [IntKind.wrap_i64]; omega
            obtain ⟨ka, fa⟩ := HROW.out.get (i := a) (by omega)
            obtain ⟨x, hx⟩ : ∃ x, x = d'[a]! := ⟨_, rfl⟩
            rw [← hx] at ka
            have HVx := Lib.hid hx
            clear hx
            obtain ⟨hk1, hf1⟩ := HROW.out.get (i := a) (by omega)
            obtain ⟨hk0, hf0⟩ := HROW.out.get (i := a) (by omega)
            have HROW2 := Lib.hid (HROW.out.swp (i := a) (j := a) (by omega) (by omega))
            try rw [← HVx.out] at hk1
            try rw [← HVx.out] at hk0
            try rw [← HVx.out] at hk0
            try rw [← HVx.out] at HROW2
            try rw [← HVx.out] at HROW2
            have HON2 := Lib.hid (one_only HON.out (swp_only wr g a a (.int .u64 x) (.int .u64 x)))
            clear HROW HON
            go_upto_region 10 with fail
            have hd1y : wr.drew.cell? ⟨g, a, none⟩ = some (.int .u64 x) := hk1
            have hd0y : wr.drew.cell? ⟨g, a, none⟩ = some (.int .u64 x) := hk0
            refine region_anyZ (z := 16) (S := fun w' => w'.cell? ⟨g, a, none⟩ = some (.int .u64 x) ∧ w'.cell? ⟨g, a, none⟩ = some (.int .u64 x)) (by kernel_rfl) ?_
            refine anyZ_begin (fun hcl0 => ?_)
            refine anyZ_held (by exact ⟨hd1y, hd0y⟩) (fun hHeld => ?_)
            -- 0: Op.move (Operand.tmp 0)
            refine' anyZ_pure (i := 0) (v := _) rfl (by rfl) (by kernel_rfl) (by kernel_rfl) (by kernel_rfl) hcl0 (fun _ _ _ h => h) (Or.inl ⟨by rfl, fun w _ => ?hy1⟩) (fun _ => hHeld) (fun hcl1 => ?ry1)
            case hy1 => (simp only [List.getElem_toArray, List.getElem_cons_zero]; first | (go_simp; with_reducible rfl) | (go_simp; done) | rfl)
            simp only [List.getElem_toArray, List.getElem_cons_zero, Act.put, List.setIfInBounds_toArray, List.set_cons_zero, List.set_cons_succ]
            -- 1: Op.move (Operand.tmp 6)
            refine' anyZ_pure (i := 1) (v := _) rfl (by rfl) (by kernel_rfl) (by kernel_rfl) (by kernel_rfl) hcl1 (fun _ _ _ h => h) (Or.inl ⟨by rfl, fun w _ => ?hy2⟩) (fun _ => hHeld) (fun hcl2 => ?ry2)
            case hy2 => (simp only [List.getElem_toArray, List.getElem_cons_succ, List.getElem_cons_zero]; first | (go_simp; with_reducible rfl) | (go_simp; done) | rfl)
            simp only [List.getElem_toArray, List.getElem_cons_succ, List.getElem_cons_zero, Act.put, List.setIfInBounds_toArray, List.set_cons_zero, List.set_cons_succ]
            -- 2: Op.move (Operand.tmp 0)
            refine' anyZ_pure (i := 2) (v := _) rfl (by rfl) (by kernel_rfl) (by kernel_rfl) (by kernel_rfl) hcl2 (fun _ _ _ h => h) (Or.inl ⟨by rfl, fun w _ => ?hy3⟩) (fun _ => hHeld) (fun hcl3 => ?ry3)
            case hy3 => (simp only [List.getElem_toArray, List.getElem_cons_succ, List.getElem_cons_zero]; first | (go_simp; with_reducible rfl) | (go_simp; done) | rfl)
            simp only [List.getElem_toArray, List.getElem_cons_succ, List.getElem_cons_zero, Act.put, List.setIfInBounds_toArray, List.set_cons_zero, List.set_cons_succ]
            -- 3: Op.move (Operand.tmp 6)
            refine' anyZ_pure (i := 3) (v := _) rfl (by rfl) (by kernel_rfl) (by kernel_rfl) (by kernel_rfl) hcl3 (fun _ _ _ h => h) (Or.inl ⟨by rfl, fun w _ => ?hy4⟩) (fun _ => hHeld) (fun hcl4 => ?ry4)
            case hy4 => (simp only [List.getElem_toArray, List.getElem_cons_succ, List.getElem_cons_zero]; first | (go_simp; with_reducible rfl) | (go_simp; done) | rfl)
            simp only [List.getElem_toArray, List.getElem_cons_succ, List.getElem_cons_zero, Act.put, List.setIfInBounds_toArray, List.set_cons_zero, List.set_cons_succ]
            -- 4: Op.move (Operand.tmp 10)
            refine' anyZ_pure (i := 4) (v := _) rfl (by rfl) (by kernel_rfl) (by kernel_rfl) (by kernel_rfl) hcl4 (fun _ _ _ h => h) (Or.inl ⟨by rfl, fun w _ => ?hy5⟩) (fun _ => hHeld) (fun hcl5 => ?ry5)
            case hy5 => (simp only [List.getElem_toArray, List.getElem_cons_succ, List.getElem_cons_zero]; first | (go_simp; with_reducible rfl) | (go_simp; done) | rfl)
            simp only [List.getElem_toArray, List.getElem_cons_succ, List.getElem_cons_zero, Act.put, List.setIfInBounds_toArray, List.set_cons_zero, List.set_cons_succ]
            -- 5: Op.binOp BinOp.add 3 (Operand.tmp 36) (Operand.tmp 37) 3
            refine' anyZ_pure (i := 5) (v := _) rfl (by rfl) (by kernel_rfl) (by kernel_rfl) (by kernel_rfl) hcl5 (fun _ _ _ h => h) (Or.inl ⟨by rfl, fun w _ => ?hy6⟩) (fun _ => hHeld) (fun hcl6 => ?ry6)
            case hy6 => (simp only [List.getElem_toArray, List.getElem_cons_succ, List.getElem_cons_zero]; first | (go_simp; with_reducible rfl) | (go_simp; done) | rfl)
            simp only [List.getElem_toArray, List.getElem_cons_succ, List.getElem_cons_zero, Act.put, List.setIfInBounds_toArray, List.set_cons_zero, List.set_cons_succ]
            -- 6: Op.move (Operand.tmp 0)
            refine' anyZ_pure (i := 6) (v := _) rfl (by rfl) (by kernel_rfl) (by kernel_rfl) (by kernel_rfl) hcl6 (fun _ _ _ h => h) (Or.inl ⟨by rfl, fun w _ => ?hy7⟩) (fun _ => hHeld) (fun hcl7 => ?ry7)
            case hy7 => (simp only [List.getElem_toArray, List.getElem_cons_succ, List.getElem_cons_zero]; first | (go_simp; with_reducible rfl) | (go_simp; done) | rfl)
            simp only [List.getElem_toArray, List.getElem_cons_succ, List.getElem_cons_zero, Act.put, List.setIfInBounds_toArray, List.set_cons_zero, List.set_cons_succ]
            -- 7: Op.move (Operand.tmp 6)
            refine' anyZ_pure (i := 7) (v := _) rfl (by rfl) (by kernel_rfl) (by kernel_rfl) (by kernel_rfl) hcl7 (fun _ _ _ h => h) (Or.inl ⟨by rfl, fun w _ => ?hy8⟩) (fun _ => hHeld) (fun hcl8 => ?ry8)
            case hy8 => (simp only [List.getElem_toArray, List.getElem_cons_succ, List.getElem_cons_zero]; first | (go_simp; with_reducible rfl) | (go_simp; done) | rfl)
            simp only [List.getElem_toArray, List.getElem_cons_succ, List.getElem_cons_zero, Act.put, List.setIfInBounds_toArray, List.set_cons_zero, List.set_cons_succ]
            -- 8: Op.move (Operand.tmp 10)
            refine' anyZ_pure (i := 8) (v := _) rfl (by rfl) (by kernel_rfl) (by kernel_rfl) (by kernel_rfl) hcl8 (fun _ _ _ h => h) (Or.inl ⟨by rfl, fun w _ => ?hy9⟩) (fun _ => hHeld) (fun hcl9 => ?ry9)
            case hy9 => (simp only [List.getElem_toArray, List.getElem_cons_succ, List.getElem_cons_zero]; first | (go_simp; with_reducible rfl) | (go_simp; done) | rfl)
            simp only [List.getElem_toArray, List.getElem_cons_succ, List.getElem_cons_zero, Act.put, List.setIfInBounds_toArray, List.set_cons_zero, List.set_cons_succ]
            -- 9: Op.binOp BinOp.add 3 (Operand.tmp 40) (Operand.tmp 41) 3
            refine' anyZ_pure (i := 9) (v := _) rfl (by rfl) (by kernel_rfl) (by kernel_rfl) (by kernel_rfl) hcl9 (fun _ _ _ h => h) (Or.inl ⟨by rfl, fun w _ => ?hy10⟩) (fun _ => hHeld) (fun hcl10 => ?ry10)
            case hy10 => (simp only [List.getElem_toArray, List.getElem_cons_succ, List.getElem_cons_zero]; first | (go_simp; with_reducible rfl) | (go_simp; done) | rfl)
            simp only [List.getElem_toArray, List.getElem_cons_succ, List.getElem_cons_zero, Act.put, List.setIfInBounds_toArray, List.set_cons_zero, List.set_cons_succ]
            -- 10: Op.indexAddr 27 (Operand.tmp 39) (Operand.tmp 42)
            refine' anyZ_pure (i := 10) (v := _) rfl (by rfl) (by kernel_rfl) (by kernel_rfl) (by kernel_rfl) hcl10 (fun _ _ _ h => h) (Or.inl ⟨by rfl, fun w _ => ?hy11⟩) (fun _ => hHeld) (fun hcl11 => ?ry11)
            case hy11 => (simp only [List.getElem_toArray, List.getElem_cons_succ, List.getElem_cons_zero]; first | (go_simp; with_reducible rfl) | (go_simp; done) | rfl)
            simp only [List.getElem_toArray, List.getElem_cons_succ, List.getElem_cons_zero, Act.put, List.setIfInBounds_toArray, List.set_cons_zero, List.set_cons_succ]
            -- 11: Op.load 26 (Operand.tmp 43)
            refine' anyZ_take (i := 11) (v := _) rfl (by rfl) (by kernel_rfl) (by kernel_rfl) (by kernel_rfl) hcl11 16 (by kernel_rfl) (by kernel_rfl) (fun _ _ _ h => h) (Or.inl ⟨by rfl, fun w hSw => ?hy12⟩) hHeld (fun hcl12 => ?ry12)
            case hy12 => (simp only [List.getElem_toArray, List.getElem_cons_succ, List.getElem_cons_zero]; obtain ⟨hS1, hS2⟩ := hSw; first | (go_simp; with_reducible rfl) | (go_simp; done) | rfl)
            simp only [List.getElem_toArray, List.getElem_cons_succ, List.getElem_cons_zero, Act.put, List.setIfInBounds_toArray, List.set_cons_zero, List.set_cons_succ]
            -- 12: Op.move (Operand.tmp 0)
            refine' anyZ_pure (i := 12) (v := _) rfl (by rfl) (by kernel_rfl) (by kernel_rfl) (by kernel_rfl) hcl12 (fun _ _ _ h => h) (Or.inl ⟨by rfl, fun w _ => ?hy13⟩) (fun _ => hHeld) (fun hcl13 => ?ry13)
            case hy13 => (simp only [List.getElem_toArray, List.getElem_cons_succ, List.getElem_cons_zero]; first | (go_simp; with_reducible rfl) | (go_simp; done) | rfl)
            simp only [List.getElem_toArray, List.getElem_cons_succ, List.getElem_cons_zero, Act.put, List.setIfInBounds_toArray, List.set_cons_zero, List.set_cons_succ]
            -- 13: Op.move (Operand.tmp 6)
            refine' anyZ_pure (i := 13) (v := _) rfl (by rfl) (by kernel_rfl) (by kernel_rfl) (by kernel_rfl) hcl13 (fun _ _ _ h => h) (Or.inl ⟨by rfl, fun w _ => ?hy14⟩) (fun _ => hHeld) (fun hcl14 => ?ry14)
            case hy14 => (simp only [List.getElem_toArray, List.getElem_cons_succ, List.getElem_cons_zero]; first | (go_simp; with_reducible rfl) | (go_simp; done) | rfl)
            simp only [List.getElem_toArray, List.getElem_cons_succ, List.getElem_cons_zero, Act.put, List.setIfInBounds_toArray, List.set_cons_zero, List.set_cons_succ]
            -- 14: Op.indexAddr 27 (Operand.tmp 45) (Operand.tmp 46)
            refine' anyZ_pure (i := 14) (v := _) rfl (by rfl) (by kernel_rfl) (by kernel_rfl) (by kernel_rfl) hcl14 (fun _ _ _ h => h) (Or.inl ⟨by rfl, fun w _ => ?hy15⟩) (fun _ => hHeld) (fun hcl15 => ?ry15)
            case hy15 => (simp only [List.getElem_toArray, List.getElem_cons_succ, List.getElem_cons_zero]; first | (go_simp; with_reducible rfl) | (go_simp; done) | rfl)
            simp only [List.getElem_toArray, List.getElem_cons_succ, List.getElem_cons_zero, Act.put, List.setIfInBounds_toArray, List.set_cons_zero, List.set_cons_succ]
            -- 15: Op.load 26 (Operand.tmp 47)
            refine' anyZ_take (i := 15) (v := _) rfl (by rfl) (by kernel_rfl) (by kernel_rfl) (by kernel_rfl) hcl15 16 (by kernel_rfl) (by kernel_rfl) (fun _ _ _ h => h) (Or.inl ⟨by rfl, fun w hSw => ?hy16⟩) hHeld (fun hcl16 => ?ry16)
            case hy16 => (simp only [List.getElem_toArray, List.getElem_cons_succ, List.getElem_cons_zero]; obtain ⟨hS1, hS2⟩ := hSw; first | (go_simp; with_reducible rfl) | (go_simp; done) | rfl)
            simp only [List.getElem_toArray, List.getElem_cons_succ, List.getElem_cons_zero, Act.put, List.setIfInBounds_toArray, List.set_cons_zero, List.set_cons_succ]
            clear hHeld
            refine anyZ_chain_at (by kernel_rfl) ?_
            simp only [List.drop_succ_cons, List.drop_zero]
            go_wp2_with fail
            refine (show Calls Try.prog 89 #[.slice (some ⟨g, 0, none⟩) n c, .int .i64 0, .int .i64 (0 : Nat), .int .i64 a] _ _ from srtsift_any B g n c 0 (0 : Nat) a _ _ HROW2.out.drew (by omega) (by omega) hn).mono ?_
            rintro e w4 ⟨rfl, hs4, ho4⟩
            have HROW4 := Lib.hid hs4
            have HON4 := Lib.hid (one_only HON2.out.drew ho4)
            clear hs4 ho4
            go_wp2_with fail
            go_roundw
            case rel => (repeat apply Exists.intro); exact ⟨⟨0, _, by omega, by first | rfl | (congr 1; omega), Lib.hid ⟨HROW4.out, HMD.out, HON4.out⟩⟩, rfl⟩
            case measure => (simp [intOf]; try omega)
          · have HPK0 : Hid (k ≠ 0) := Lib.hid hk0'
            clear hk0'
            obtain ⟨p, hp⟩ : ∃ p : Nat, p = a + k := ⟨_, rfl⟩
            have pi : (a : Int) + (k : Int) = (p : Int) := by omega
            have hne : ¬ a = p := by have := HPK0.out; omega
            have hne2 : ¬ p = a := by have := HPK0.out; omega
            have aa : (0 : Int) ≤ (a : Int) := by omega
            have ab : (a : Int) < (n : Int) := by omega
            have ac : a < n := by omega
            have ae : IntKind.i64.wrap (a : Int) = (a : Int) := by rw [IntKind.wrap_i64]; omega
            have pa : (0 : Int) ≤ (p : Int) := by omega
            have pb : (p : Int) < (n : Int) := by omega
            have pc : p < n := by omega
            have pe : IntKind.i64.wrap (p : Int) = (p : Int) := by rw [IntKind.wrap_i64]; omega
            obtain ⟨ka, fa⟩ := HROW.out.get (i := a) (by omega)
            obtain ⟨x, hx⟩ : ∃ x, x = d'[a]! := ⟨_, rfl⟩
            rw [← hx] at ka
            have HVx := Lib.hid hx
            clear hx
            obtain ⟨kp, fp⟩ := HROW.out.get (i := p) (by omega)
            obtain ⟨y, hy⟩ : ∃ y, y = d'[p]! := ⟨_, rfl⟩
            rw [← hy] at kp
            have HVy := Lib.hid hy
            clear hy
            have HP := Lib.hid hp
            clear hp
            obtain ⟨hk1, hf1⟩ := HROW.out.get (i := a) (by omega)
            obtain ⟨hk0, hf0⟩ := HROW.out.get (i := p) (by omega)
            have HROW2 := Lib.hid (HROW.out.swp (i := a) (j := p) (by omega) (by omega))
            try rw [← HVx.out] at hk1
            try rw [← HVx.out] at hk0
            try rw [← HVy.out] at hk0
            try rw [← HVx.out] at HROW2
            try rw [← HVy.out] at HROW2
            have HON2 := Lib.hid (one_only HON.out (swp_only wr g a p (.int .u64 y) (.int .u64 x)))
            clear HROW HON
            go_upto_region 10 with fail
            have hd1z : wr.drew.cell? ⟨g, a, none⟩ = some (.int .u64 x) := hk1
            have hd0z : wr.drew.cell? ⟨g, p, none⟩ = some (.int .u64 y) := hk0
            refine region_anyZ (z := 16) (S := fun w' => w'.cell? ⟨g, a, none⟩ = some (.int .u64 x) ∧ w'.cell? ⟨g, p, none⟩ = some (.int .u64 y)) (by kernel_rfl) ?_
            refine anyZ_begin (fun hcl0 => ?_)
            refine anyZ_held (by exact ⟨hd1z, hd0z⟩) (fun hHeld => ?_)
            -- 0: Op.move (Operand.tmp 0)
            refine' anyZ_pure (i := 0) (v := _) rfl (by rfl) (by kernel_rfl) (by kernel_rfl) (by kernel_rfl) hcl0 (fun _ _ _ h => h) (Or.inl ⟨by rfl, fun w _ => ?hz1⟩) (fun _ => hHeld) (fun hcl1 => ?rz1)
            case hz1 => (simp only [List.getElem_toArray, List.getElem_cons_zero]; first | (go_simp; with_reducible rfl) | (go_simp; done) | rfl)
            simp only [List.getElem_toArray, List.getElem_cons_zero, Act.put, List.setIfInBounds_toArray, List.set_cons_zero, List.set_cons_succ]
            -- 1: Op.move (Operand.tmp 6)
            refine' anyZ_pure (i := 1) (v := _) rfl (by rfl) (by kernel_rfl) (by kernel_rfl) (by kernel_rfl) hcl1 (fun _ _ _ h => h) (Or.inl ⟨by rfl, fun w _ => ?hz2⟩) (fun _ => hHeld) (fun hcl2 => ?rz2)
            case hz2 => (simp only [List.getElem_toArray, List.getElem_cons_succ, List.getElem_cons_zero]; first | (go_simp; with_reducible rfl) | (go_simp; done) | rfl)
            simp only [List.getElem_toArray, List.getElem_cons_succ, List.getElem_cons_zero, Act.put, List.setIfInBounds_toArray, List.set_cons_zero, List.set_cons_succ]
            -- 2: Op.move (Operand.tmp 0)
            refine' anyZ_pure (i := 2) (v := _) rfl (by rfl) (by kernel_rfl) (by kernel_rfl) (by kernel_rfl) hcl2 (fun _ _ _ h => h) (Or.inl ⟨by rfl, fun w _ => ?hz3⟩) (fun _ => hHeld) (fun hcl3 => ?rz3)
            case hz3 => (simp only [List.getElem_toArray, List.getElem_cons_succ, List.getElem_cons_zero]; first | (go_simp; with_reducible rfl) | (go_simp; done) | rfl)
            simp only [List.getElem_toArray, List.getElem_cons_succ, List.getElem_cons_zero, Act.put, List.setIfInBounds_toArray, List.set_cons_zero, List.set_cons_succ]
            -- 3: Op.move (Operand.tmp 6)
            refine' anyZ_pure (i := 3) (v := _) rfl (by rfl) (by kernel_rfl) (by kernel_rfl) (by kernel_rfl) hcl3 (fun _ _ _ h => h) (Or.inl ⟨by rfl, fun w _ => ?hz4⟩) (fun _ => hHeld) (fun hcl4 => ?rz4)
            case hz4 => (simp only [List.getElem_toArray, List.getElem_cons_succ, List.getElem_cons_zero]; first | (go_simp; with_reducible rfl) | (go_simp; done) | rfl)
            simp only [List.getElem_toArray, List.getElem_cons_succ, List.getElem_cons_zero, Act.put, List.setIfInBounds_toArray, List.set_cons_zero, List.set_cons_succ]
            -- 4: Op.move (Operand.tmp 10)
            refine' anyZ_pure (i := 4) (v := _) rfl (by rfl) (by kernel_rfl) (by kernel_rfl) (by kernel_rfl) hcl4 (fun _ _ _ h => h) (Or.inl ⟨by rfl, fun w _ => ?hz5⟩) (fun _ => hHeld) (fun hcl5 => ?rz5)
            case hz5 => (simp only [List.getElem_toArray, List.getElem_cons_succ, List.getElem_cons_zero]; first | (go_simp; with_reducible rfl) | (go_simp; done) | rfl)
            simp only [List.getElem_toArray, List.getElem_cons_succ, List.getElem_cons_zero, Act.put, List.setIfInBounds_toArray, List.set_cons_zero, List.set_cons_succ]
            -- 5: Op.binOp BinOp.add 3 (Operand.tmp 36) (Operand.tmp 37) 3
            refine' anyZ_pure (i := 5) (v := _) rfl (by rfl) (by kernel_rfl) (by kernel_rfl) (by kernel_rfl) hcl5 (fun _ _ _ h => h) (Or.inl ⟨by rfl, fun w _ => ?hz6⟩) (fun _ => hHeld) (fun hcl6 => ?rz6)
            case hz6 => (simp only [List.getElem_toArray, List.getElem_cons_succ, List.getElem_cons_zero]; first | (go_simp; with_reducible rfl) | (go_simp; done) | rfl)
            simp only [List.getElem_toArray, List.getElem_cons_succ, List.getElem_cons_zero, Act.put, List.setIfInBounds_toArray, List.set_cons_zero, List.set_cons_succ]
            -- 6: Op.move (Operand.tmp 0)
            refine' anyZ_pure (i := 6) (v := _) rfl (by rfl) (by kernel_rfl) (by kernel_rfl) (by kernel_rfl) hcl6 (fun _ _ _ h => h) (Or.inl ⟨by rfl, fun w _ => ?hz7⟩) (fun _ => hHeld) (fun hcl7 => ?rz7)
            case hz7 => (simp only [List.getElem_toArray, List.getElem_cons_succ, List.getElem_cons_zero]; first | (go_simp; with_reducible rfl) | (go_simp; done) | rfl)
            simp only [List.getElem_toArray, List.getElem_cons_succ, List.getElem_cons_zero, Act.put, List.setIfInBounds_toArray, List.set_cons_zero, List.set_cons_succ]
            -- 7: Op.move (Operand.tmp 6)
            refine' anyZ_pure (i := 7) (v := _) rfl (by rfl) (by kernel_rfl) (by kernel_rfl) (by kernel_rfl) hcl7 (fun _ _ _ h => h) (Or.inl ⟨by rfl, fun w _ => ?hz8⟩) (fun _ => hHeld) (fun hcl8 => ?rz8)
            case hz8 => (simp only [List.getElem_toArray, List.getElem_cons_succ, List.getElem_cons_zero]; first | (go_simp; with_reducible rfl) | (go_simp; done) | rfl)
            simp only [List.getElem_toArray, List.getElem_cons_succ, List.getElem_cons_zero, Act.put, List.setIfInBounds_toArray, List.set_cons_zero, List.set_cons_succ]
            -- 8: Op.move (Operand.tmp 10)
            refine' anyZ_pure (i := 8) (v := _) rfl (by rfl) (by kernel_rfl) (by kernel_rfl) (by kernel_rfl) hcl8 (fun _ _ _ h => h) (Or.inl ⟨by rfl, fun w _ => ?hz9⟩) (fun _ => hHeld) (fun hcl9 => ?rz9)
            case hz9 => (simp only [List.getElem_toArray, List.getElem_cons_succ, List.getElem_cons_zero]; first | (go_simp; with_reducible rfl) | (go_simp; done) | rfl)
            simp only [List.getElem_toArray, List.getElem_cons_succ, List.getElem_cons_zero, Act.put, List.setIfInBounds_toArray, List.set_cons_zero, List.set_cons_succ]
            -- 9: Op.binOp BinOp.add 3 (Operand.tmp 40) (Operand.tmp 41) 3
            refine' anyZ_pure (i := 9) (v := _) rfl (by rfl) (by kernel_rfl) (by kernel_rfl) (by kernel_rfl) hcl9 (fun _ _ _ h => h) (Or.inl ⟨by rfl, fun w _ => ?hz10⟩) (fun _ => hHeld) (fun hcl10 => ?rz10)
            case hz10 => (simp only [List.getElem_toArray, List.getElem_cons_succ, List.getElem_cons_zero]; first | (go_simp; with_reducible rfl) | (go_simp; done) | rfl)
            simp only [List.getElem_toArray, List.getElem_cons_succ, List.getElem_cons_zero, Act.put, List.setIfInBounds_toArray, List.set_cons_zero, List.set_cons_succ]
            -- 10: Op.indexAddr 27 (Operand.tmp 39) (Operand.tmp 42)
            refine' anyZ_pure (i := 10) (v := _) rfl (by rfl) (by kernel_rfl) (by kernel_rfl) (by kernel_rfl) hcl10 (fun _ _ _ h => h) (Or.inl ⟨by rfl, fun w _ => ?hz11⟩) (fun _ => hHeld) (fun hcl11 => ?rz11)
            case hz11 => (simp only [List.getElem_toArray, List.getElem_cons_succ, List.getElem_cons_zero]; first | (go_simp; with_reducible rfl) | (go_simp; done) | rfl)
            simp only [List.getElem_toArray, List.getElem_cons_succ, List.getElem_cons_zero, Act.put, List.setIfInBounds_toArray, List.set_cons_zero, List.set_cons_succ]
            -- 11: Op.load 26 (Operand.tmp 43)
            refine' anyZ_take (i := 11) (v := _) rfl (by rfl) (by kernel_rfl) (by kernel_rfl) (by kernel_rfl) hcl11 16 (by kernel_rfl) (by kernel_rfl) (fun _ _ _ h => h) (Or.inl ⟨by rfl, fun w hSw => ?hz12⟩) hHeld (fun hcl12 => ?rz12)
            case hz12 => (simp only [List.getElem_toArray, List.getElem_cons_succ, List.getElem_cons_zero]; obtain ⟨hS1, hS2⟩ := hSw; first | (go_simp; with_reducible rfl) | (go_simp; done) | rfl)
            simp only [List.getElem_toArray, List.getElem_cons_succ, List.getElem_cons_zero, Act.put, List.setIfInBounds_toArray, List.set_cons_zero, List.set_cons_succ]
            -- 12: Op.move (Operand.tmp 0)
            refine' anyZ_pure (i := 12) (v := _) rfl (by rfl) (by kernel_rfl) (by kernel_rfl) (by kernel_rfl) hcl12 (fun _ _ _ h => h) (Or.inl ⟨by rfl, fun w _ => ?hz13⟩) (fun _ => hHeld) (fun hcl13 => ?rz13)
            case hz13 => (simp only [List.getElem_toArray, List.getElem_cons_succ, List.getElem_cons_zero]; first | (go_simp; with_reducible rfl) | (go_simp; done) | rfl)
            simp only [List.getElem_toArray, List.getElem_cons_succ, List.getElem_cons_zero, Act.put, List.setIfInBounds_toArray, List.set_cons_zero, List.set_cons_succ]
            -- 13: Op.move (Operand.tmp 6)
            refine' anyZ_pure (i := 13) (v := _) rfl (by rfl) (by kernel_rfl) (by kernel_rfl) (by kernel_rfl) hcl13 (fun _ _ _ h => h) (Or.inl ⟨by rfl, fun w _ => ?hz14⟩) (fun _ => hHeld) (fun hcl14 => ?rz14)
            case hz14 => (simp only [List.getElem_toArray, List.getElem_cons_succ, List.getElem_cons_zero]; first | (go_simp; with_reducible rfl) | (go_simp; done) | rfl)
            simp only [List.getElem_toArray, List.getElem_cons_succ, List.getElem_cons_zero, Act.put, List.setIfInBounds_toArray, List.set_cons_zero, List.set_cons_succ]
            -- 14: Op.indexAddr 27 (Operand.tmp 45) (Operand.tmp 46)
            refine' anyZ_pure (i := 14) (v := _) rfl (by rfl) (by kernel_rfl) (by kernel_rfl) (by kernel_rfl) hcl14 (fun _ _ _ h => h) (Or.inl ⟨by rfl, fun w _ => ?hz15⟩) (fun _ => hHeld) (fun hcl15 => ?rz15)
            case hz15 => (simp only [List.getElem_toArray, List.getElem_cons_succ, List.getElem_cons_zero]; first | (go_simp; with_reducible rfl) | (go_simp; done) | rfl)
            simp only [List.getElem_toArray, List.getElem_cons_succ, List.getElem_cons_zero, Act.put, List.setIfInBounds_toArray, List.set_cons_zero, List.set_cons_succ]
            -- 15: Op.load 26 (Operand.tmp 47)
            refine' anyZ_take (i := 15) (v := _) rfl (by rfl) (by kernel_rfl) (by kernel_rfl) (by kernel_rfl) hcl15 16 (by kernel_rfl) (by kernel_rfl) (fun _ _ _ h => h) (Or.inl ⟨by rfl, fun w hSw => ?hz16⟩) hHeld (fun hcl16 => ?rz16)
            case hz16 => (simp only [List.getElem_toArray, List.getElem_cons_succ, List.getElem_cons_zero]; obtain ⟨hS1, hS2⟩ := hSw; first | (go_simp; with_reducible rfl) | (go_simp; done) | rfl)
            simp only [List.getElem_toArray, List.getElem_cons_succ, List.getElem_cons_zero, Act.put, List.setIfInBounds_toArray, List.set_cons_zero, List.set_cons_succ]
            clear hHeld
            refine anyZ_chain_at (by kernel_rfl) ?_
            simp only [List.drop_succ_cons, List.drop_zero]
            go_wp2_with fail
            refine (show Calls Try.prog 89 #[.slice (some ⟨g, 0, none⟩) n c, .int .i64 0, .int .i64 k, .int .i64 a] _ _ from srtsift_any B g n c 0 k a _ _ HROW2.out.drew (by omega) (by omega) hn).mono ?_
            rintro e w4 ⟨rfl, hs4, ho4⟩
            have HROW4 := Lib.hid hs4
            have HON4 := Lib.hid (one_only HON2.out.drew ho4)
            clear hs4 ho4
            go_wp2_with fail
            go_roundw
            case rel => (repeat apply Exists.intro); exact ⟨⟨k, _, by omega, by first | rfl | (congr 1; omega), Lib.hid ⟨HROW4.out, by rw [HP.out]; exact HMD.out, HON4.out⟩⟩, rfl⟩
            case measure => (simp [intOf]; try omega)
    | succ k =>
      have HMD : Hid (heapBuild ltN hi a k (siftDown ltN hi a k d') = H1) := Lib.hid hin.out.2.1
      have HROW := Lib.hid hin.out.1
      have HON := Lib.hid hin.out.2.2
      clear hin
      have hki : ((k + 1 : Nat) : Int) - 1 = (k : Int) := by omega
      rw [hki]
      have hk0 : decide ((0 : Int) ≤ (k : Int)) = true := decide_eq_true (by omega)
      clear hki
      go_wp2_with fail
      refine (srtsift_any B g n c k hi a d' wr HROW.out (by omega) (by omega) hn).mono ?_
      rintro e w4 ⟨rfl, hs4, ho4⟩
      have HROW4 := Lib.hid hs4
      have HON4 := Lib.hid (one_only HON.out ho4)
      clear hs4 ho4
      go_wp2_with fail
      exact ⟨⟨k, _, by omega, by first | rfl | (congr 1; omega), Lib.hid ⟨HROW4.out, HMD.out, HON4.out⟩⟩, by simp [intOf]; try omega⟩
end Go.Proofs.Ytnbncjebmlicgaa
