/- Walk: all names. -/
import Derived.Test.YtljdphpbalioaaaGreatDoorGnH
namespace Go.Proofs.YtljdphpbalioaaaGreatDoor
open Go.RowKit

theorem countL_cons (t : LT Nat) (r : List (LT Nat)) : LT.countL (t :: r) = t.count + LT.countL r := rfl
theorem countL_nil : LT.countL ([] : List (LT Nat)) = 0 := rfl
set_option linter.unusedSimpArgs false in
set_option maxRecDepth 40000 in
set_option maxHeartbeats 6400000 in
theorem nall_any (J : World → Prop) (Keep : List Nat) (gm N0 : Nat) (L : List (LT Nat)) (I : Nat → Nat) (ga : Value) (n bf bm : Nat) (w : World) (c : Nat) (cv uv sv : Value) (t : LT Nat) (hsub : ∀ a ∈ t.nodes, a ∈ L) (hbm : N0 ≤ bm ∧ bm ∉ Keep)
    (h : FsM (fun _ => True) (bm :: Keep) gm N0 L I ga n bf (.map (some bm)) w ⟨fun _ => none, [], fun _ => 0⟩ c cv uv sv) (hj : Rob (Far N0 L Keep) J w) (hm : ModM w bm 0 (fun _ => false)) (hc : c + 8 * t.count ≤ 900000) :
    Calls Tryz.prog 16 #[.pointer (some ⟨gm, 0, none⟩), ptrG t.lab] w fun e w' => e = .returned (.int .i64 ((Nm.all I t).1 : Nat)) ∧
      (((Nm.all I t).1 = 0 ∧ Rob (Far N0 L Keep) J w' ∧ MemT w' N0 L I (Nm.all I t).2 (fun _ => .slice none 0 0) ∧ ∃ cv' uv' sv', BoxM w' gm ga n (.map (some bf)) (.map (some bm)) cv' uv' sv') ∨ ((Nm.all I t).1 ≠ 0 ∧ Rob (Far N0 L Keep) J w')) := by
  have htL : t ∈ L := hsub t (LT.nodes_self t)
  have HKS : Hid (∀ k ∈ t.kids, ∀ a ∈ k.nodes, a ∈ L) := Lib.hid (fun k hk a ha => hsub a (LT.nodes_kid hk ha))
  have hcount := LT.count_kids t
  have HC := Lib.hid hc
  have HBM := Lib.hid hbm
  obtain ⟨V, hV⟩ : ∃ V, V = Nm.all I t := ⟨_, rfl⟩
  obtain ⟨ML, hML⟩ : ∃ ML, ML = Nm.modsL I t.kids (fun _ => false) ⟨fun _ => none, [], fun _ => 0⟩ := ⟨_, rfl⟩
  rw [← hV]
  have HV : Hid (V = if (Nm.modsL I t.kids (fun _ => false) ⟨fun _ => none, [], fun _ => 0⟩).1 = 0 then Nm.callsL I (Nm.modsL I t.kids (fun _ => false) ⟨fun _ => none, [], fun _ => 0⟩).2.calls (Nm.modsL I t.kids (fun _ => false) ⟨fun _ => none, [], fun _ => 0⟩).2.funcs (Nm.modsL I t.kids (fun _ => false) ⟨fun _ => none, [], fun _ => 0⟩).2.ref else ((Nm.modsL I t.kids (fun _ => false) ⟨fun _ => none, [], fun _ => 0⟩).1, (Nm.modsL I t.kids (fun _ => false) ⟨fun _ => none, [], fun _ => 0⟩).2.ref)) := Lib.hid hV
  have HML := Lib.hid hML
  obtain ⟨q, cq, hrow, hkr⟩ := h.mem.kr htL
  have g8 := cell_of_row w t.lab 8 _ _ _ hrow
  replace g8 : w.cell? ⟨t.lab, 8, none⟩ = some (.slice q t.kids.length cq) := g8
  obtain ⟨M, hM⟩ : ∃ M, M = t.kids.length := ⟨_, rfl⟩
  rw [← hM] at g8
  have HMM := Lib.hid hM
  have hfew : M ≤ 900000 := by rw [hM]; have := countL_len t.kids; omega
  have HF0 := Lib.hid (h.ja hj hm hkr (KR.low N0 L q t.kids) hbm.1)
  clear hsub hV hML h hj hm hrow hkr hM hbm hc
  go_enter Tryz.func16, Tryz.ntmps16
  unfold ptrG
  go_upto_region 2 with fail
  go_loopw [6, 8, 9, 18] (fun _ _ _ i wr => ∃ (j : Nat) (fs' : Nm.Fs Nat) (c' cm : Nat) (mset : Bs → Bool) (cv' uv' sv' : Value), j ≤ M ∧ i = .int .i64 j ∧ cm ≤ j ∧ Hid (Nm.modsL I (t.kids.drop j) mset fs' = ML) ∧ Hid (c' + 8 * LT.countL (t.kids.drop j) ≤ c + 8 * t.count) ∧ Hid (FsM (JA N0 L Keep J bm cm mset (KR N0 L q t.kids)) (bm :: Keep) gm N0 L I ga n bf (.map (some bm)) wr fs' c' cv' uv' sv')) (fun _ _ _ i _ => M - (intOf i).toNat)
  case atStart => exact ⟨0, _, c, 0, _, cv, uv, sv, by omega, rfl, Nat.le_refl _, Lib.hid (by rw [List.drop_zero, HML.out]), Lib.hid (by rw [List.drop_zero]; omega), HF0⟩
  case round =>
    clear HF0 g8
    obtain ⟨j, fs', c', cm, mset, cv', uv', sv', hj, rfl, hcm, hrd, hcn, hns⟩ := hrel
    rename World => wr
    by_cases hlt : j < M
    · have d1 : decide ((j : Int) < (M : Int)) = true := decide_eq_true (by omega)
      have d1n : decide (j < M) = true := decide_eq_true hlt
      have hjl : j < t.kids.length := by rw [← HMM.out]; exact hlt
      obtain ⟨m, hm⟩ : ∃ m, t.kids[j]? = some m := ⟨_, List.getElem?_eq_getElem hjl⟩
      have hmt : m ∈ t.kids := List.mem_of_getElem? hm
      have hmL : m ∈ L := HKS.out m hmt m (LT.nodes_self m)
      have hdr : t.kids.drop j = m :: t.kids.drop (j + 1) := by
        rw [List.drop_eq_getElem_cons hjl]
        rw [List.getElem?_eq_getElem hjl] at hm
        rw [Option.some.inj hm]
      obtain ⟨b0, hqb, -, -, hcell⟩ := hns.out.here.2.2 j m hm
      have HQT := Lib.hid hqb
      have k1 : (0 : Int) ≤ (j : Int) := by omega
      have k2 : (j : Int) < (M : Int) := by omega
      have HRDm : Hid (Nm.modsL I (m :: t.kids.drop (j + 1)) mset fs' = ML) := Lib.hid (by rw [← hrd.out, hdr])
      have HCB : Hid (c' + 8 * m.count + 8 * LT.countL (t.kids.drop (j + 1)) ≤ c + 8 * t.count ∧ c + 8 * t.count ≤ 900000) := Lib.hid ⟨by have h1 := hcn.out; rw [hdr, countL_cons] at h1; omega, HC.out⟩
      have hms := (hns.out.short m hmL).1
      have HN2 := Lib.hid (hns.out.below (bdr (bre wr)))
      obtain ⟨kvm, hrowm⟩ := HN2.out.mem.row hmL
      have a1 := cell_of_row _ m.lab 1 _ _ _ hrowm
      replace a1 : wr.drew.cell? ⟨m.lab, 1, none⟩ = some (.string (mk8 m.name)) := a1
      have m3 := cell_of_row _ gm 3 _ _ _ HN2.out.box
      replace m3 : wr.drew.cell? ⟨gm, 3, none⟩ = some (.map (some bm)) := m3
      obtain ⟨fm, hfm, hfmu⟩ := HN2.out.here.2.1
      have hrun := hfm.look1 keyedS undMB (zeroBool wr.drew) m.name (keyS m.name hms)
      rw [hfmu m.name] at hrun
      unfold encS at hrun
      have HSB : wr.drew.cell? ⟨gm, 3, none⟩ = some (.map (some bm)) ∧ wr.drew.cell? ⟨m.lab, 1, none⟩ = some (.string (mk8 m.name)) := ⟨m3, a1⟩
      obtain ⟨bu, hbu⟩ : ∃ b, b = mset m.name := ⟨_, rfl⟩
      rw [← hbu] at hrun
      have HBU := Lib.hid hbu
      unfold ptrG at hcell
      rw [hqb]
      clear hm hdr hrd hcn hjl hns hrowm a1 m3 hfm hfmu hbu hqb
      go_upto_region 4 with fail
      clear hcell
      refine region_anyZ (z := 9) (S := fun w' => w'.cell? ⟨gm, 3, none⟩ = some (.map (some bm)) ∧ w'.cell? ⟨m.lab, 1, none⟩ = some (.string (mk8 m.name))) (by kernel_rfl) ?_
      refine anyZ_begin (fun hcl0 => ?_)
      refine anyZ_held (by exact HSB) (fun hHeld => ?_)
      -- 0: Op.move (Operand.tmp 0)
      refine' anyZ_pure (i := 0) (v := _) rfl (by rfl) (by kernel_rfl) (by kernel_rfl) (by kernel_rfl) hcl0 (fun _ _ _ h => h) (Or.inl ⟨by rfl, fun w _ => ?hz1⟩) (fun _ => hHeld) (fun hcl1 => ?rz1)
      case hz1 => (simp only [List.getElem_toArray, List.getElem_cons_zero]; first | (go_simp; with_reducible rfl) | (go_simp; done) | rfl)
      simp only [List.getElem_toArray, List.getElem_cons_zero, Act.put, List.setIfInBounds_toArray, List.set_cons_zero, List.set_cons_succ]
      -- 1: Op.nilCheck (Operand.tmp 22)
      refine' anyZ_pure (i := 1) (v := _) rfl (by rfl) (by kernel_rfl) (by kernel_rfl) (by kernel_rfl) hcl1 (fun _ _ _ h => h) (Or.inl ⟨by rfl, fun w _ => ?hz2⟩) (fun _ => hHeld) (fun hcl2 => ?rz2)
      case hz2 => (simp only [List.getElem_toArray, List.getElem_cons_succ, List.getElem_cons_zero]; first | (go_simp; with_reducible rfl) | (go_simp; done) | rfl)
      simp only [List.getElem_toArray, List.getElem_cons_succ, List.getElem_cons_zero, Act.put, List.setIfInBounds_toArray, List.set_cons_zero, List.set_cons_succ]
      -- 2: Op.fieldAddr 57 (Operand.tmp 23) 3
      refine' anyZ_pure (i := 2) (v := _) rfl (by rfl) (by kernel_rfl) (by kernel_rfl) (by kernel_rfl) hcl2 (fun _ _ _ h => h) (Or.inl ⟨by rfl, fun w _ => ?hz3⟩) (fun _ => hHeld) (fun hcl3 => ?rz3)
      case hz3 => (simp only [List.getElem_toArray, List.getElem_cons_succ, List.getElem_cons_zero]; first | (go_simp; with_reducible rfl) | (go_simp; done) | rfl)
      simp only [List.getElem_toArray, List.getElem_cons_succ, List.getElem_cons_zero, Act.put, List.setIfInBounds_toArray, List.set_cons_zero, List.set_cons_succ]
      -- 3: Op.load 53 (Operand.tmp 24)
      refine' anyZ_take (i := 3) (v := _) rfl (by rfl) (by kernel_rfl) (by kernel_rfl) (by kernel_rfl) hcl3 15 (by kernel_rfl) (by kernel_rfl) (fun _ _ _ h => h) (Or.inl ⟨by rfl, fun w hSw => ?hz4⟩) hHeld (fun hcl4 => ?rz4)
      case hz4 => (simp only [List.getElem_toArray, List.getElem_cons_succ, List.getElem_cons_zero]; obtain ⟨hS1, hS2⟩ := hSw; first | (go_simp; with_reducible rfl) | (go_simp; done) | rfl)
      simp only [List.getElem_toArray, List.getElem_cons_succ, List.getElem_cons_zero, Act.put, List.setIfInBounds_toArray, List.set_cons_zero, List.set_cons_succ]
      -- 4: Op.move (Operand.tmp 6)
      refine' anyZ_pure (i := 4) (v := _) rfl (by rfl) (by kernel_rfl) (by kernel_rfl) (by kernel_rfl) hcl4 (fun _ _ _ h => h) (Or.inl ⟨by rfl, fun w _ => ?hz5⟩) (fun _ => hHeld) (fun hcl5 => ?rz5)
      case hz5 => (simp only [List.getElem_toArray, List.getElem_cons_succ, List.getElem_cons_zero]; first | (go_simp; with_reducible rfl) | (go_simp; done) | rfl)
      simp only [List.getElem_toArray, List.getElem_cons_succ, List.getElem_cons_zero, Act.put, List.setIfInBounds_toArray, List.set_cons_zero, List.set_cons_succ]
      -- 5: Op.nilCheck (Operand.tmp 26)
      refine' anyZ_pure (i := 5) (v := _) rfl (by rfl) (by kernel_rfl) (by kernel_rfl) (by kernel_rfl) hcl5 (fun _ _ _ h => h) (Or.inl ⟨by rfl, fun w _ => ?hz6⟩) (fun _ => hHeld) (fun hcl6 => ?rz6)
      case hz6 => (simp only [List.getElem_toArray, List.getElem_cons_succ, List.getElem_cons_zero]; first | (go_simp; with_reducible rfl) | (go_simp; done) | rfl)
      simp only [List.getElem_toArray, List.getElem_cons_succ, List.getElem_cons_zero, Act.put, List.setIfInBounds_toArray, List.set_cons_zero, List.set_cons_succ]
      -- 6: Op.fieldAddr 74 (Operand.tmp 27) 0
      refine' anyZ_pure (i := 6) (v := _) rfl (by rfl) (by kernel_rfl) (by kernel_rfl) (by kernel_rfl) hcl6 (fun _ _ _ h => h) (Or.inl ⟨by rfl, fun w _ => ?hz7⟩) (fun _ => hHeld) (fun hcl7 => ?rz7)
      case hz7 => (simp only [List.getElem_toArray, List.getElem_cons_succ, List.getElem_cons_zero]; first | (go_simp; with_reducible rfl) | (go_simp; done) | rfl)
      simp only [List.getElem_toArray, List.getElem_cons_succ, List.getElem_cons_zero, Act.put, List.setIfInBounds_toArray, List.set_cons_zero, List.set_cons_succ]
      -- 7: Op.fieldAddr 38 (Operand.tmp 28) 1
      refine' anyZ_pure (i := 7) (v := _) rfl (by rfl) (by kernel_rfl) (by kernel_rfl) (by kernel_rfl) hcl7 (fun _ _ _ h => h) (Or.inl ⟨by rfl, fun w _ => ?hz8⟩) (fun _ => hHeld) (fun hcl8 => ?rz8)
      case hz8 => (simp only [List.getElem_toArray, List.getElem_cons_succ, List.getElem_cons_zero]; first | (go_simp; with_reducible rfl) | (go_simp; done) | rfl)
      simp only [List.getElem_toArray, List.getElem_cons_succ, List.getElem_cons_zero, Act.put, List.setIfInBounds_toArray, List.set_cons_zero, List.set_cons_succ]
      -- 8: Op.load 9 (Operand.tmp 29)
      refine' anyZ_take (i := 8) (v := _) rfl (by rfl) (by kernel_rfl) (by kernel_rfl) (by kernel_rfl) hcl8 15 (by kernel_rfl) (by kernel_rfl) (fun _ _ _ h => h) (Or.inl ⟨by rfl, fun w hSw => ?hz9⟩) hHeld (fun hcl9 => ?rz9)
      case hz9 => (simp only [List.getElem_toArray, List.getElem_cons_succ, List.getElem_cons_zero]; obtain ⟨hS1, hS2⟩ := hSw; first | (go_simp; with_reducible rfl) | (go_simp; done) | rfl)
      simp only [List.getElem_toArray, List.getElem_cons_succ, List.getElem_cons_zero, Act.put, List.setIfInBounds_toArray, List.set_cons_zero, List.set_cons_succ]
      clear hHeld
      refine anyZ_chain_at (by kernel_rfl) ?_
      simp only [List.drop_succ_cons, List.drop_zero]
      generalize wr.drew = w1 at *
      cases bu with
      | true =>
        replace hrun : (Instr.lookup 52 (.map (some bm)) (.string (mk8 m.name)) false).run Tryz.prog w1 = .ok (.bool true) w1 := hrun
        have HV2 : Hid (V.1 = 10) := Lib.hid (by
          have h1 : ML = (10, fs') := by
            rw [← HRDm.out]
            unfold Nm.modsL
            rw [← HBU.out]
            rfl
          rw [HV.out, ← HML.out, h1]
          rfl)
        have HJ3 := Lib.hid HN2.out.here.1
        clear HSB HN2
        go_wp2_with fail
        refine bodyPost_ret (v := .int .i64 10) (by simp [results, Tryz.results16, go_sem]) rfl ?_
        exact ⟨by rw [HV2.out]; rfl, .inr ⟨by rw [HV2.out]; exact (show (10 : Nat) ≠ 0 by decide), HJ3.out⟩⟩
      | false =>
        replace hrun : (Instr.lookup 52 (.map (some bm)) (.string (mk8 m.name)) false).run Tryz.prog w1 = .ok (.bool false) w1 := hrun
        have HMS : Hid (mset m.name = false) := Lib.hid HBU.out.symm
        clear HSB
        go_upto_region 6 with fail
        clear hrun
        have HN3 := Lib.hid (HN2.out.below (bdr (bre w1)))
        obtain ⟨kvm, hrowm⟩ := HN3.out.mem.row hmL
        have a1 := cell_of_row _ m.lab 1 _ _ _ hrowm
        replace a1 : w1.drew.cell? ⟨m.lab, 1, none⟩ = some (.string (mk8 m.name)) := a1
        have m3 := cell_of_row _ gm 3 _ _ _ HN3.out.box
        replace m3 : w1.drew.cell? ⟨gm, 3, none⟩ = some (.map (some bm)) := m3
        have HSB : w1.drew.cell? ⟨gm, 3, none⟩ = some (.map (some bm)) ∧ w1.drew.cell? ⟨m.lab, 1, none⟩ = some (.string (mk8 m.name)) := ⟨m3, a1⟩
        obtain ⟨fm, hfm, hfmu⟩ := HN3.out.here.2.1
        obtain ⟨w5, hrun5, hf5, ho5, -⟩ := hfm.store keyedS undMB encS_inj m.name (.bool true) (keyS m.name hms) (by unfold maxLen; omega)
        unfold encS at hrun5
        have HF5 := Lib.hid (HN3.out.modded (KR.low N0 L q t.kids) HBM.out m.name hf5 (Nat.le_refl _) hfmu ho5)
        clear hrowm a1 m3 hfm hfmu hf5 ho5 HN3 HN2
        refine region_anyZ (z := 9) (S := fun w' => w'.cell? ⟨gm, 3, none⟩ = some (.map (some bm)) ∧ w'.cell? ⟨m.lab, 1, none⟩ = some (.string (mk8 m.name))) (by kernel_rfl) ?_
        refine anyZ_begin (fun hcl0 => ?_)
        refine anyZ_held (by exact HSB) (fun hHeld => ?_)
        -- 0: Op.move (Operand.tmp 0)
        refine' anyZ_pure (i := 0) (v := _) rfl (by rfl) (by kernel_rfl) (by kernel_rfl) (by kernel_rfl) hcl0 (fun _ _ _ h => h) (Or.inl ⟨by rfl, fun w _ => ?hy1⟩) (fun _ => hHeld) (fun hcl1 => ?ry1)
        case hy1 => (simp only [List.getElem_toArray, List.getElem_cons_zero]; first | (go_simp; with_reducible rfl) | (go_simp; done) | rfl)
        simp only [List.getElem_toArray, List.getElem_cons_zero, Act.put, List.setIfInBounds_toArray, List.set_cons_zero, List.set_cons_succ]
        -- 1: Op.nilCheck (Operand.tmp 32)
        refine' anyZ_pure (i := 1) (v := _) rfl (by rfl) (by kernel_rfl) (by kernel_rfl) (by kernel_rfl) hcl1 (fun _ _ _ h => h) (Or.inl ⟨by rfl, fun w _ => ?hy2⟩) (fun _ => hHeld) (fun hcl2 => ?ry2)
        case hy2 => (simp only [List.getElem_toArray, List.getElem_cons_succ, List.getElem_cons_zero]; first | (go_simp; with_reducible rfl) | (go_simp; done) | rfl)
        simp only [List.getElem_toArray, List.getElem_cons_succ, List.getElem_cons_zero, Act.put, List.setIfInBounds_toArray, List.set_cons_zero, List.set_cons_succ]
        -- 2: Op.fieldAddr 57 (Operand.tmp 33) 3
        refine' anyZ_pure (i := 2) (v := _) rfl (by rfl) (by kernel_rfl) (by kernel_rfl) (by kernel_rfl) hcl2 (fun _ _ _ h => h) (Or.inl ⟨by rfl, fun w _ => ?hy3⟩) (fun _ => hHeld) (fun hcl3 => ?ry3)
        case hy3 => (simp only [List.getElem_toArray, List.getElem_cons_succ, List.getElem_cons_zero]; first | (go_simp; with_reducible rfl) | (go_simp; done) | rfl)
        simp only [List.getElem_toArray, List.getElem_cons_succ, List.getElem_cons_zero, Act.put, List.setIfInBounds_toArray, List.set_cons_zero, List.set_cons_succ]
        -- 3: Op.load 53 (Operand.tmp 34)
        refine' anyZ_take (i := 3) (v := _) rfl (by rfl) (by kernel_rfl) (by kernel_rfl) (by kernel_rfl) hcl3 15 (by kernel_rfl) (by kernel_rfl) (fun _ _ _ h => h) (Or.inl ⟨by rfl, fun w hSw => ?hy4⟩) hHeld (fun hcl4 => ?ry4)
        case hy4 => (simp only [List.getElem_toArray, List.getElem_cons_succ, List.getElem_cons_zero]; obtain ⟨hS1, hS2⟩ := hSw; first | (go_simp; with_reducible rfl) | (go_simp; done) | rfl)
        simp only [List.getElem_toArray, List.getElem_cons_succ, List.getElem_cons_zero, Act.put, List.setIfInBounds_toArray, List.set_cons_zero, List.set_cons_succ]
        -- 4: Op.move (Operand.tmp 6)
        refine' anyZ_pure (i := 4) (v := _) rfl (by rfl) (by kernel_rfl) (by kernel_rfl) (by kernel_rfl) hcl4 (fun _ _ _ h => h) (Or.inl ⟨by rfl, fun w _ => ?hy5⟩) (fun _ => hHeld) (fun hcl5 => ?ry5)
        case hy5 => (simp only [List.getElem_toArray, List.getElem_cons_succ, List.getElem_cons_zero]; first | (go_simp; with_reducible rfl) | (go_simp; done) | rfl)
        simp only [List.getElem_toArray, List.getElem_cons_succ, List.getElem_cons_zero, Act.put, List.setIfInBounds_toArray, List.set_cons_zero, List.set_cons_succ]
        -- 5: Op.nilCheck (Operand.tmp 36)
        refine' anyZ_pure (i := 5) (v := _) rfl (by rfl) (by kernel_rfl) (by kernel_rfl) (by kernel_rfl) hcl5 (fun _ _ _ h => h) (Or.inl ⟨by rfl, fun w _ => ?hy6⟩) (fun _ => hHeld) (fun hcl6 => ?ry6)
        case hy6 => (simp only [List.getElem_toArray, List.getElem_cons_succ, List.getElem_cons_zero]; first | (go_simp; with_reducible rfl) | (go_simp; done) | rfl)
        simp only [List.getElem_toArray, List.getElem_cons_succ, List.getElem_cons_zero, Act.put, List.setIfInBounds_toArray, List.set_cons_zero, List.set_cons_succ]
        -- 6: Op.fieldAddr 74 (Operand.tmp 37) 0
        refine' anyZ_pure (i := 6) (v := _) rfl (by rfl) (by kernel_rfl) (by kernel_rfl) (by kernel_rfl) hcl6 (fun _ _ _ h => h) (Or.inl ⟨by rfl, fun w _ => ?hy7⟩) (fun _ => hHeld) (fun hcl7 => ?ry7)
        case hy7 => (simp only [List.getElem_toArray, List.getElem_cons_succ, List.getElem_cons_zero]; first | (go_simp; with_reducible rfl) | (go_simp; done) | rfl)
        simp only [List.getElem_toArray, List.getElem_cons_succ, List.getElem_cons_zero, Act.put, List.setIfInBounds_toArray, List.set_cons_zero, List.set_cons_succ]
        -- 7: Op.fieldAddr 38 (Operand.tmp 38) 1
        refine' anyZ_pure (i := 7) (v := _) rfl (by rfl) (by kernel_rfl) (by kernel_rfl) (by kernel_rfl) hcl7 (fun _ _ _ h => h) (Or.inl ⟨by rfl, fun w _ => ?hy8⟩) (fun _ => hHeld) (fun hcl8 => ?ry8)
        case hy8 => (simp only [List.getElem_toArray, List.getElem_cons_succ, List.getElem_cons_zero]; first | (go_simp; with_reducible rfl) | (go_simp; done) | rfl)
        simp only [List.getElem_toArray, List.getElem_cons_succ, List.getElem_cons_zero, Act.put, List.setIfInBounds_toArray, List.set_cons_zero, List.set_cons_succ]
        -- 8: Op.load 9 (Operand.tmp 39)
        refine' anyZ_take (i := 8) (v := _) rfl (by rfl) (by kernel_rfl) (by kernel_rfl) (by kernel_rfl) hcl8 15 (by kernel_rfl) (by kernel_rfl) (fun _ _ _ h => h) (Or.inl ⟨by rfl, fun w hSw => ?hy9⟩) hHeld (fun hcl9 => ?ry9)
        case hy9 => (simp only [List.getElem_toArray, List.getElem_cons_succ, List.getElem_cons_zero]; obtain ⟨hS1, hS2⟩ := hSw; first | (go_simp; with_reducible rfl) | (go_simp; done) | rfl)
        simp only [List.getElem_toArray, List.getElem_cons_succ, List.getElem_cons_zero, Act.put, List.setIfInBounds_toArray, List.set_cons_zero, List.set_cons_succ]
        clear hHeld
        refine anyZ_chain_at (by kernel_rfl) ?_
        simp only [List.drop_succ_cons, List.drop_zero]
        clear HSB
        go_upto_region 7 with fail
        clear hrun5
        obtain ⟨q2, cq2, hrow2, hkr2⟩ := HF5.out.mem.kr hmL
        have g8m := cell_of_row w5 m.lab 8 _ _ _ hrow2
        replace g8m : w5.cell? ⟨m.lab, 8, none⟩ = some (.slice q2 m.kids.length cq2) := g8m
        have g1m := cell_of_row w5 m.lab 1 _ _ _ hrow2
        have hja := HF5.out.here
        have hf6 := HF5.out.ja hja.1 hja.2.1 (X := fun w' => KR N0 L q t.kids w' ∧ KR N0 L q2 m.kids w') ⟨hja.2.2, hkr2⟩ ((KR.low N0 L q t.kids).and (KR.low N0 L q2 m.kids)) HBM.out.1
        obtain ⟨M2, hM2⟩ : ∃ M2, M2 = m.kids.length := ⟨_, rfl⟩
        rw [← hM2] at g8m
        have HMM2 := Lib.hid hM2
        have hfew2 : M2 ≤ 900000 := by rw [hM2]; have h1 := countL_len m.kids; have h2 := HCB.out; have h3 := LT.count_kids m; omega
        obtain ⟨FL, hFL⟩ : ∃ FL, FL = Nm.funcsL I m.name m.kids fs' := ⟨_, rfl⟩
        have HFL := Lib.hid hFL
        have HF6 := Lib.hid hf6
        clear hrow2 hkr2 hja hf6 hM2 hFL HF5
        go_upto_region 8 with fail
        go_loopw [8, 9, 46] (fun _ _ i wv => ∃ (ji : Nat) (fs2 : Nm.Fs Nat) (c2 : Nat) (cv2 uv2 sv2 : Value), ji ≤ M2 ∧ i = .int .i64 ji ∧ Hid (Nm.funcsL I m.name (m.kids.drop ji) fs2 = FL) ∧ Hid (c2 + 8 * LT.countL (m.kids.drop ji) ≤ c' + 8 * LT.countL m.kids) ∧ Hid (FsM (JA N0 L Keep J bm (cm + 1) (fun y => decide (y = m.name) || mset y) (fun w' => KR N0 L q t.kids w' ∧ KR N0 L q2 m.kids w')) (bm :: Keep) gm N0 L I ga n bf (.map (some bm)) wv fs2 c2 cv2 uv2 sv2)) (fun _ _ i _ => M2 - (intOf i).toNat)
        case atStart => exact ⟨0, fs', c', cv', uv', sv', by omega, rfl, Lib.hid (by rw [List.drop_zero, HFL.out]), Lib.hid (by rw [List.drop_zero]; exact Nat.le_refl _), HF6⟩
        case round =>
          clear HF6 g8m g1m
          obtain ⟨ji, fs2, c2, cv2, uv2, sv2, hji, rfl, hrdi, hcni, hnsi⟩ := hrel
          rename World => wv
          by_cases hlti : ji < M2
          · have d1 : decide ((ji : Int) < (M2 : Int)) = true := decide_eq_true (by omega)
            have d1n : decide (ji < M2) = true := decide_eq_true hlti
            have hjl : ji < m.kids.length := by rw [← HMM2.out]; exact hlti
            obtain ⟨k, hk⟩ : ∃ k, m.kids[ji]? = some k := ⟨_, List.getElem?_eq_getElem hjl⟩
            have hkm : k ∈ m.kids := List.mem_of_getElem? hk
            have hdr : m.kids.drop ji = k :: m.kids.drop (ji + 1) := by
              rw [List.drop_eq_getElem_cons hjl]
              rw [List.getElem?_eq_getElem hjl] at hk
              rw [Option.some.inj hk]
            obtain ⟨b, hqb, -, -, hcell⟩ := hnsi.out.here.2.2.2 ji k hk
            have k1 : (0 : Int) ≤ (ji : Int) := by omega
            have k2 : (ji : Int) < (M2 : Int) := by omega
            have HSK : Hid (∀ a ∈ k.nodes, a ∈ L) := Lib.hid (fun a ha => HKS.out m hmt a (LT.nodes_kid hkm ha))
            have hk0 : 1 ≤ k.count := by rw [LT.count_kids]; omega
            have HRD : Hid (Nm.funcsL I m.name (k :: m.kids.drop (ji + 1)) fs2 = FL) := Lib.hid (by rw [← hrdi.out, hdr])
            have HCN : Hid (c2 + 3 * k.count + 5 + 8 * LT.countL (m.kids.drop (ji + 1)) ≤ c' + 8 * LT.countL m.kids) := Lib.hid (by have h1 := hcni.out; rw [hdr, countL_cons] at h1; omega)
            obtain ⟨kvm, hrowm⟩ := hnsi.out.mem.row hmL
            have g1m := cell_of_row wv m.lab 1 _ _ _ hrowm
            replace g1m : wv.cell? ⟨m.lab, 1, none⟩ = some (.string (mk8 m.name)) := g1m
            have hms := (hnsi.out.short m hmL).1
            unfold ptrG at hcell
            have HQB := Lib.hid hqb
            rw [hqb]
            clear hk hkm hdr hrdi hcni hjl hrowm hqb
            go_wp2_with fail
            refine (func_any _ (bm :: Keep) gm N0 L I ga n bf (.map (some bm)) wv fs2 c2 cv2 uv2 sv2 m.name hms k HSK.out hnsi.out (by have h1 := HCN.out; have h2 := HCB.out; have h3 := LT.count_kids m; omega)).mono ?_
            rintro e w6 ⟨rfl, hres⟩
            obtain ⟨VK, hVK⟩ : ∃ VK, VK = Nm.func I m.name k fs2 := ⟨_, rfl⟩
            rw [← hVK] at hres ⊢
            have HVK := Lib.hid hVK
            obtain ⟨ve, vst⟩ := VK
            replace hres : (ve = 0 ∧ ∃ cv' uv' sv', FsM (JA N0 L Keep J bm (cm + 1) (fun y => decide (y = m.name) || mset y) (fun w' => KR N0 L q t.kids w' ∧ KR N0 L q2 m.kids w')) (bm :: Keep) gm N0 L I ga n bf (.map (some bm)) w6 vst (c2 + 3 * k.count + 5) cv' uv' sv') ∨ (ve ≠ 0 ∧ Rob (Far N0 L (bm :: Keep)) (JA N0 L Keep J bm (cm + 1) (fun y => decide (y = m.name) || mset y) (fun w' => KR N0 L q t.kids w' ∧ KR N0 L q2 m.kids w')) w6) := hres
            clear hnsi hcell hVK g1m
            rcases hres with ⟨hv0, cv3, uv3, sv3, hn3⟩ | ⟨hv0, hj3⟩
            · have d0 : decide ((ve : Int) = 0) = true := decide_eq_true (by omega)
              have b0 : ((ve : Int) == 0) = true := beq_iff_eq.2 (by omega)
              have e1 : ((ve : Int) != 0) = false := by rw [hv0]; rfl
              have HRD2 : Hid (Nm.funcsL I m.name (m.kids.drop (ji + 1)) vst = FL) := Lib.hid (by
                rw [← HRD.out]
                conv => rhs; unfold Nm.funcsL
                rw [← HVK.out]
                exact (if_pos hv0).symm)
              have HN3 := Lib.hid hn3
              clear hv0 hn3 HRD HVK
              go_wp2_with fail
              go_roundw
              case rel => first | exact ⟨ji + 1, _, _, cv3, uv3, sv3, by omega, by go_num, HRD2, HCN, Lib.hid (by first | exact HN3.out | (rw [← HQB.out]; exact HN3.out))⟩ | ((repeat apply Exists.intro); exact ⟨⟨ji + 1, _, _, cv3, uv3, sv3, by omega, by go_num, HRD2, HCN, Lib.hid (by first | exact HN3.out | (rw [← HQB.out]; exact HN3.out))⟩, rfl⟩)
              case measure => simp [intOf]; omega
            · have d0 : decide ((ve : Int) = 0) = false := decide_eq_false (by omega)
              have b0 : ((ve : Int) == 0) = false := by rw [beq_eq_false_iff_ne]; omega
              have e1 : ((ve : Int) != 0) = true := by simp only [bne_iff_ne, ne_eq]; omega
              have HRE : Hid (FL = (ve, vst)) := Lib.hid (by
                rw [← HRD.out]
                unfold Nm.funcsL
                rw [← HVK.out]
                exact if_neg hv0)
              have HV2 : Hid (V.1 = ve ∧ ve ≠ 0) := Lib.hid ⟨by
                have h1 : ML = (ve, vst) := by
                  rw [← HRDm.out]
                  unfold Nm.modsL
                  rw [HMS.out]
                  simp only [Bool.false_eq_true, if_false]
                  rw [← HFL.out, HRE.out]
                  exact if_neg hv0
                rw [HV.out, ← HML.out, h1, if_neg hv0], hv0⟩
              have HJ3 := Lib.hid hj3.here.1
              clear hv0 hj3 HRD HVK
              go_wp2_with fail
              refine bodyPost_ret (v := .int .i64 (ve : Nat)) (by simp [results, Tryz.results16, go_sem]) rfl ?_
              exact ⟨by rw [HV2.out.1], .inr ⟨by rw [HV2.out.1]; exact HV2.out.2, HJ3.out⟩⟩
          · have d1 : decide ((ji : Int) < (M2 : Int)) = false := decide_eq_false (by omega)
            have d1n : decide (ji < M2) = false := decide_eq_false hlti
            have hz : m.kids.drop ji = [] := List.drop_eq_nil_of_le (by rw [← HMM2.out]; omega)
            have HRE : Hid (FL = (0, fs2)) := Lib.hid (by rw [← hrdi.out, hz]; rfl)
            have HRD2 : Hid (Nm.modsL I (t.kids.drop (j + 1)) (fun y => decide (y = m.name) || mset y) fs2 = ML) := Lib.hid (by
              rw [← HRDm.out]
              conv => rhs; unfold Nm.modsL
              rw [HMS.out]
              simp only [Bool.false_eq_true, if_false]
              rw [← HFL.out, HRE.out]
              rfl)
            have HCN2 : Hid (c2 + 1 + 8 * LT.countL (t.kids.drop (j + 1)) ≤ c + 8 * t.count) := Lib.hid (by have h1 := hcni.out; have h2 := HCB.out; have h3 := LT.count_kids m; rw [hz, countL_nil] at h1; omega)
            have hja := hnsi.out.here
            have HN3 := Lib.hid ((hnsi.out.ja hja.1 hja.2.1 hja.2.2.1 (KR.low N0 L q t.kids) HBM.out.1).mono (Nat.le_succ c2))
            clear hrdi hcni hnsi hz HRE hja
            go_wp2_with fail
            go_roundw
            case rel => first | exact ⟨j + 1, fs2, c2 + 1, cm + 1, _, cv2, uv2, sv2, by omega, by go_num, by omega, HRD2, HCN2, Lib.hid (by first | exact HN3.out | (rw [← HQT.out]; exact HN3.out))⟩ | ((repeat apply Exists.intro); exact ⟨⟨j + 1, fs2, c2 + 1, cm + 1, _, cv2, uv2, sv2, by omega, by go_num, by omega, HRD2, HCN2, Lib.hid (by first | exact HN3.out | (rw [← HQT.out]; exact HN3.out))⟩, rfl⟩)
            case measure => simp [intOf]; omega
    · have d1 : decide ((j : Int) < (M : Int)) = false := decide_eq_false (by omega)
      have d1n : decide (j < M) = false := decide_eq_false hlt
      have hz : t.kids.drop j = [] := List.drop_eq_nil_of_le (by rw [← HMM.out]; omega)
      have HRE : Hid (ML = (0, fs')) := Lib.hid (by rw [← hrd.out, hz]; rfl)
      have HV2 : Hid (V = Nm.callsL I fs'.calls fs'.funcs fs'.ref) := Lib.hid (by rw [HV.out, ← HML.out, HRE.out]; rfl)
      have HCT : Hid (c' ≤ 900000) := Lib.hid (by have h1 := hcn.out; have h2 := HC.out; omega)
      clear hrd hcn hz HRE HV HML
      have hcl := hns.out.callRow
      obtain ⟨qc, capc, hcv, -⟩ := hcl
      have m4 := cell_of_row wr gm 4 _ _ _ hns.out.box
      replace m4 : wr.cell? ⟨gm, 4, none⟩ = some cv' := m4
      obtain ⟨CN, hCN⟩ : ∃ CN, CN = fs'.calls.length := ⟨_, rfl⟩
      have hCNb : CN ≤ 900000 := by rw [hCN]; have h1 := hns.out.few; have h2 := HCT.out; omega
      rw [hcv, ← hCN] at m4
      have HCV := Lib.hid hcv
      have HCN := Lib.hid hCN
      have HF0 := hns
      clear hcv hCN hns
      go_upto_region 16 with fail
      go_loopw [11, 12, 68] (fun _ _ i wv => ∃ (ji : Nat) (R' : Nat → Nat), ji ≤ CN ∧ i = .int .i64 ji ∧ Hid (Nm.callsL I (fs'.calls.drop ji) fs'.funcs R' = V) ∧ Hid (FsM (JA N0 L Keep J bm cm mset (KR N0 L q t.kids)) (bm :: Keep) gm N0 L I ga n bf (.map (some bm)) wv ⟨fs'.funcs, fs'.calls, R'⟩ c' cv' uv' sv')) (fun _ _ i _ => CN - (intOf i).toNat)
      case atStart => exact ⟨0, fs'.ref, by omega, rfl, Lib.hid (by rw [List.drop_zero, HV2.out]), HF0⟩
      case round =>
        clear HF0 m4 HV2
        obtain ⟨ji, R', hji, rfl, hrdi, hnsi⟩ := hrel
        rename World => wv
        by_cases hlti : ji < CN
        · have d1 : decide ((ji : Int) < (CN : Int)) = true := decide_eq_true (by omega)
          have d1n : decide (ji < CN) = true := decide_eq_true hlti
          have hjl : ji < fs'.calls.length := by rw [← HCN.out]; exact hlti
          obtain ⟨x, hx⟩ : ∃ x, fs'.calls[ji]? = some x := ⟨_, List.getElem?_eq_getElem hjl⟩
          have hxm : x ∈ fs'.calls := List.mem_of_getElem? hx
          have hdr : fs'.calls.drop ji = x :: fs'.calls.drop (ji + 1) := by
            rw [List.drop_eq_getElem_cons hjl]
            rw [List.getElem?_eq_getElem hjl] at hx
            rw [Option.some.inj hx]
          obtain ⟨a, haL, hal, ham, hat⟩ := hnsi.out.callsL x hxm
          obtain ⟨qc2, cap2, hcv2, hcells⟩ := hnsi.out.callRow
          have hqq : qc2 = qc := by
            have h1 := hcv2.symm.trans HCV.out
            injection h1
          obtain ⟨b1, hqb, hcell⟩ := hcells ji x hx
          rw [hqq] at hqb
          have HQC := Lib.hid hqb
          rw [← hal] at hcell
          unfold ptrG at hcell
          have k1 : (0 : Int) ≤ (ji : Int) := by omega
          have k2 : (ji : Int) < (CN : Int) := by omega
          have HRD : Hid (Nm.callsL I (x :: fs'.calls.drop (ji + 1)) fs'.funcs R' = V) := Lib.hid (by rw [← hrdi.out, hdr])
          have HXE : Hid (a.lab = x.2.2 ∧ a.mod = x.1 ∧ a.tgt = x.2.1) := Lib.hid ⟨hal, ham, hat⟩
          have hsh := hnsi.out.short a haL
          have HN2 := Lib.hid (hnsi.out.below (bdr (bre wv)))
          obtain ⟨kva, hrowa⟩ := HN2.out.mem.row haL
          have a6 := cell_of_row _ a.lab 6 _ _ _ hrowa
          replace a6 : wv.drew.cell? ⟨a.lab, 6, none⟩ = some (.string (mk8 a.mod)) := a6
          have a7 := cell_of_row _ a.lab 7 _ _ _ hrowa
          replace a7 : wv.drew.cell? ⟨a.lab, 7, none⟩ = some (.string (mk8 a.tgt)) := a7
          have m2 := cell_of_row _ gm 2 _ _ _ HN2.out.box
          replace m2 : wv.drew.cell? ⟨gm, 2, none⟩ = some (.map (some bf)) := m2
          have HSB : wv.drew.cell? ⟨gm, 2, none⟩ = some (.map (some bf)) ∧ wv.drew.cell? ⟨a.lab, 6, none⟩ = some (.string (mk8 a.mod)) ∧ wv.drew.cell? ⟨a.lab, 7, none⟩ = some (.string (mk8 a.tgt)) := ⟨m2, a6, a7⟩
          obtain ⟨⟨fm, hf, hfu⟩, hflab⟩ := HN2.out.funcs
          have hrun := hf.look1 keyedF undMF (zeroPtr wv.drew) (a.mod, a.tgt) (keyF a.mod a.tgt hsh.2.2 hsh.2.1)
          rw [hfu (a.mod, a.tgt)] at hrun
          unfold encF fullV at hrun
          obtain ⟨fo, hfo⟩ : ∃ o, o = fs'.funcs (a.mod, a.tgt) := ⟨_, rfl⟩
          have hflab2 : ∀ b, fo = some b → Lb L b := fun b hb => hflab _ b (by rw [← hfo]; exact hb)
          replace hrun : (Instr.lookup 51 (.map (some bf)) (.agg #[.string (mk8 a.mod), .string (mk8 a.tgt)]) false).run Tryz.prog wv.drew = .ok ((fo.map ptrG).getD (.pointer none)) wv.drew := by rw [hfo]; exact hrun
          have HFO := Lib.hid hfo
          rw [hqb]
          clear hx hxm hdr hal ham hat hcv2 hcells hqq hqb hrdi hnsi hjl hrowa a6 a7 m2 hf hfu hflab hfo
          go_upto_region 18 with fail
          clear hcell
          refine region_anyZ (z := 13) (S := fun w' => w'.cell? ⟨gm, 2, none⟩ = some (.map (some bf)) ∧ w'.cell? ⟨a.lab, 6, none⟩ = some (.string (mk8 a.mod)) ∧ w'.cell? ⟨a.lab, 7, none⟩ = some (.string (mk8 a.tgt))) (by kernel_rfl) ?_
          refine anyZ_begin (fun hcl0 => ?_)
          refine anyZ_held (by exact HSB) (fun hHeld => ?_)
          -- 0: Op.move (Operand.tmp 0)
          refine' anyZ_pure (i := 0) (v := _) rfl (by rfl) (by kernel_rfl) (by kernel_rfl) (by kernel_rfl) hcl0 (fun _ _ _ h => h) (Or.inl ⟨by rfl, fun w _ => ?hx1⟩) (fun _ => hHeld) (fun hcl1 => ?rx1)
          case hx1 => (simp only [List.getElem_toArray, List.getElem_cons_zero]; first | (go_simp; with_reducible rfl) | (go_simp; done) | rfl)
          simp only [List.getElem_toArray, List.getElem_cons_zero, Act.put, List.setIfInBounds_toArray, List.set_cons_zero, List.set_cons_succ]
          -- 1: Op.nilCheck (Operand.tmp 72)
          refine' anyZ_pure (i := 1) (v := _) rfl (by rfl) (by kernel_rfl) (by kernel_rfl) (by kernel_rfl) hcl1 (fun _ _ _ h => h) (Or.inl ⟨by rfl, fun w _ => ?hx2⟩) (fun _ => hHeld) (fun hcl2 => ?rx2)
          case hx2 => (simp only [List.getElem_toArray, List.getElem_cons_succ, List.getElem_cons_zero]; first | (go_simp; with_reducible rfl) | (go_simp; done) | rfl)
          simp only [List.getElem_toArray, List.getElem_cons_succ, List.getElem_cons_zero, Act.put, List.setIfInBounds_toArray, List.set_cons_zero, List.set_cons_succ]
          -- 2: Op.fieldAddr 57 (Operand.tmp 73) 2
          refine' anyZ_pure (i := 2) (v := _) rfl (by rfl) (by kernel_rfl) (by kernel_rfl) (by kernel_rfl) hcl2 (fun _ _ _ h => h) (Or.inl ⟨by rfl, fun w _ => ?hx3⟩) (fun _ => hHeld) (fun hcl3 => ?rx3)
          case hx3 => (simp only [List.getElem_toArray, List.getElem_cons_succ, List.getElem_cons_zero]; first | (go_simp; with_reducible rfl) | (go_simp; done) | rfl)
          simp only [List.getElem_toArray, List.getElem_cons_succ, List.getElem_cons_zero, Act.put, List.setIfInBounds_toArray, List.set_cons_zero, List.set_cons_succ]
          -- 3: Op.load 52 (Operand.tmp 74)
          refine' anyZ_take (i := 3) (v := _) rfl (by rfl) (by kernel_rfl) (by kernel_rfl) (by kernel_rfl) hcl3 15 (by kernel_rfl) (by kernel_rfl) (fun _ _ _ h => h) (Or.inl ⟨by rfl, fun w hSw => ?hx4⟩) hHeld (fun hcl4 => ?rx4)
          case hx4 => (simp only [List.getElem_toArray, List.getElem_cons_succ, List.getElem_cons_zero]; obtain ⟨hS1, hS2, hS3⟩ := hSw; first | (go_simp; with_reducible rfl) | (go_simp; done) | rfl)
          simp only [List.getElem_toArray, List.getElem_cons_succ, List.getElem_cons_zero, Act.put, List.setIfInBounds_toArray, List.set_cons_zero, List.set_cons_succ]
          -- 4: Op.move (Operand.tmp 11)
          refine' anyZ_pure (i := 4) (v := _) rfl (by rfl) (by kernel_rfl) (by kernel_rfl) (by kernel_rfl) hcl4 (fun _ _ _ h => h) (Or.inl ⟨by rfl, fun w _ => ?hx5⟩) (fun _ => hHeld) (fun hcl5 => ?rx5)
          case hx5 => (simp only [List.getElem_toArray, List.getElem_cons_succ, List.getElem_cons_zero]; first | (go_simp; with_reducible rfl) | (go_simp; done) | rfl)
          simp only [List.getElem_toArray, List.getElem_cons_succ, List.getElem_cons_zero, Act.put, List.setIfInBounds_toArray, List.set_cons_zero, List.set_cons_succ]
          -- 5: Op.nilCheck (Operand.tmp 76)
          refine' anyZ_pure (i := 5) (v := _) rfl (by rfl) (by kernel_rfl) (by kernel_rfl) (by kernel_rfl) hcl5 (fun _ _ _ h => h) (Or.inl ⟨by rfl, fun w _ => ?hx6⟩) (fun _ => hHeld) (fun hcl6 => ?rx6)
          case hx6 => (simp only [List.getElem_toArray, List.getElem_cons_succ, List.getElem_cons_zero]; first | (go_simp; with_reducible rfl) | (go_simp; done) | rfl)
          simp only [List.getElem_toArray, List.getElem_cons_succ, List.getElem_cons_zero, Act.put, List.setIfInBounds_toArray, List.set_cons_zero, List.set_cons_succ]
          -- 6: Op.fieldAddr 74 (Operand.tmp 77) 1
          refine' anyZ_pure (i := 6) (v := _) rfl (by rfl) (by kernel_rfl) (by kernel_rfl) (by kernel_rfl) hcl6 (fun _ _ _ h => h) (Or.inl ⟨by rfl, fun w _ => ?hx7⟩) (fun _ => hHeld) (fun hcl7 => ?rx7)
          case hx7 => (simp only [List.getElem_toArray, List.getElem_cons_succ, List.getElem_cons_zero]; first | (go_simp; with_reducible rfl) | (go_simp; done) | rfl)
          simp only [List.getElem_toArray, List.getElem_cons_succ, List.getElem_cons_zero, Act.put, List.setIfInBounds_toArray, List.set_cons_zero, List.set_cons_succ]
          -- 7: Op.load 9 (Operand.tmp 78)
          refine' anyZ_take (i := 7) (v := _) rfl (by rfl) (by kernel_rfl) (by kernel_rfl) (by kernel_rfl) hcl7 15 (by kernel_rfl) (by kernel_rfl) (fun _ _ _ h => h) (Or.inl ⟨by rfl, fun w hSw => ?hx8⟩) hHeld (fun hcl8 => ?rx8)
          case hx8 => (simp only [List.getElem_toArray, List.getElem_cons_succ, List.getElem_cons_zero]; obtain ⟨hS1, hS2, hS3⟩ := hSw; first | (go_simp; with_reducible rfl) | (go_simp; done) | rfl)
          simp only [List.getElem_toArray, List.getElem_cons_succ, List.getElem_cons_zero, Act.put, List.setIfInBounds_toArray, List.set_cons_zero, List.set_cons_succ]
          -- 8: Op.move (Operand.tmp 11)
          refine' anyZ_pure (i := 8) (v := _) rfl (by rfl) (by kernel_rfl) (by kernel_rfl) (by kernel_rfl) hcl8 (fun _ _ _ h => h) (Or.inl ⟨by rfl, fun w _ => ?hx9⟩) (fun _ => hHeld) (fun hcl9 => ?rx9)
          case hx9 => (simp only [List.getElem_toArray, List.getElem_cons_succ, List.getElem_cons_zero]; first | (go_simp; with_reducible rfl) | (go_simp; done) | rfl)
          simp only [List.getElem_toArray, List.getElem_cons_succ, List.getElem_cons_zero, Act.put, List.setIfInBounds_toArray, List.set_cons_zero, List.set_cons_succ]
          -- 9: Op.nilCheck (Operand.tmp 80)
          refine' anyZ_pure (i := 9) (v := _) rfl (by rfl) (by kernel_rfl) (by kernel_rfl) (by kernel_rfl) hcl9 (fun _ _ _ h => h) (Or.inl ⟨by rfl, fun w _ => ?hx10⟩) (fun _ => hHeld) (fun hcl10 => ?rx10)
          case hx10 => (simp only [List.getElem_toArray, List.getElem_cons_succ, List.getElem_cons_zero]; first | (go_simp; with_reducible rfl) | (go_simp; done) | rfl)
          simp only [List.getElem_toArray, List.getElem_cons_succ, List.getElem_cons_zero, Act.put, List.setIfInBounds_toArray, List.set_cons_zero, List.set_cons_succ]
          -- 10: Op.fieldAddr 74 (Operand.tmp 81) 2
          refine' anyZ_pure (i := 10) (v := _) rfl (by rfl) (by kernel_rfl) (by kernel_rfl) (by kernel_rfl) hcl10 (fun _ _ _ h => h) (Or.inl ⟨by rfl, fun w _ => ?hx11⟩) (fun _ => hHeld) (fun hcl11 => ?rx11)
          case hx11 => (simp only [List.getElem_toArray, List.getElem_cons_succ, List.getElem_cons_zero]; first | (go_simp; with_reducible rfl) | (go_simp; done) | rfl)
          simp only [List.getElem_toArray, List.getElem_cons_succ, List.getElem_cons_zero, Act.put, List.setIfInBounds_toArray, List.set_cons_zero, List.set_cons_succ]
          -- 11: Op.load 9 (Operand.tmp 82)
          refine' anyZ_take (i := 11) (v := _) rfl (by rfl) (by kernel_rfl) (by kernel_rfl) (by kernel_rfl) hcl11 15 (by kernel_rfl) (by kernel_rfl) (fun _ _ _ h => h) (Or.inl ⟨by rfl, fun w hSw => ?hx12⟩) hHeld (fun hcl12 => ?rx12)
          case hx12 => (simp only [List.getElem_toArray, List.getElem_cons_succ, List.getElem_cons_zero]; obtain ⟨hS1, hS2, hS3⟩ := hSw; first | (go_simp; with_reducible rfl) | (go_simp; done) | rfl)
          simp only [List.getElem_toArray, List.getElem_cons_succ, List.getElem_cons_zero, Act.put, List.setIfInBounds_toArray, List.set_cons_zero, List.set_cons_succ]
          -- 12: Op.build 80 #[(0, Operand.tmp 79), (1, Operand.tmp 83)]
          refine' anyZ_pure (i := 12) (v := _) rfl (by rfl) (by kernel_rfl) (by kernel_rfl) (by kernel_rfl) hcl12 (fun _ _ _ h => h) (Or.inl ⟨by rfl, fun w _ => ?hx13⟩) (fun _ => hHeld) (fun hcl13 => ?rx13)
          case hx13 => (simp only [List.getElem_toArray, List.getElem_cons_succ, List.getElem_cons_zero]; first | (go_simp; with_reducible rfl) | (go_simp; done) | rfl)
          simp only [List.getElem_toArray, List.getElem_cons_succ, List.getElem_cons_zero, Act.put, List.setIfInBounds_toArray, List.set_cons_zero, List.set_cons_succ]
          clear hHeld
          refine anyZ_chain_at (by kernel_rfl) ?_
          simp only [List.drop_succ_cons, List.drop_zero]
          generalize wv.drew = w1 at *
          cases fo with
          | none =>
            replace hrun : (Instr.lookup 51 (.map (some bf)) (.agg #[.string (mk8 a.mod), .string (mk8 a.tgt)]) false).run Tryz.prog w1 = .ok (.pointer none) w1 := hrun
            have HV3 : Hid (V.1 = 9) := Lib.hid (by
              rw [← HRD.out]
              unfold Nm.callsL
              rw [← HXE.out.2.1, ← HXE.out.2.2, ← HFO.out])
            have HJ3 := Lib.hid HN2.out.here.1
            clear HSB HN2 hflab2
            go_wp2_with fail
            refine bodyPost_ret (v := .int .i64 9) (by simp [results, Tryz.results16, go_sem]) rfl ?_
            exact ⟨by rw [HV3.out]; rfl, .inr ⟨by rw [HV3.out]; exact (show (9 : Nat) ≠ 0 by decide), HJ3.out⟩⟩
          | some b =>
            replace hrun : (Instr.lookup 51 (.map (some bf)) (.agg #[.string (mk8 a.mod), .string (mk8 a.tgt)]) false).run Tryz.prog w1 = .ok (.pointer (some ⟨b, 0, none⟩)) w1 := hrun
            obtain ⟨a2, ha2, hab2⟩ := hflab2 b rfl
            obtain ⟨kv2, hrow2⟩ := HN2.out.mem.row ha2
            rw [hab2] at hrow2
            have c9 := cell_of_row _ b 9 _ _ _ hrow2
            replace c9 : w1.cell? ⟨b, 9, none⟩ = some (.int .u64 (I b : Nat)) := c9
            obtain ⟨kv3, hrow3⟩ := HN2.out.mem.row haL
            have c4 := cell_of_row _ a.lab 4 _ _ _ hrow3
            have cf := fun i => frozen_of_row _ a.lab i _ _ hrow3
            have HN3 := Lib.hid (HN2.out.refs haL (I b))
            have HRD2 : Hid (Nm.callsL I (fs'.calls.drop (ji + 1)) fs'.funcs (updF R' a.lab (I b)) = V) := Lib.hid (by
              rw [← HRD.out]
              conv => rhs; unfold Nm.callsL
              rw [← HXE.out.2.1, ← HXE.out.2.2, ← HFO.out, HXE.out.1])
            clear HSB hrow2 hrow3 hflab2 hab2
            go_wp2_with fail
            go_roundw
            case rel => first | exact ⟨ji + 1, _, by omega, by go_num, HRD2, HN3⟩ | ((repeat apply Exists.intro); exact ⟨⟨ji + 1, _, by omega, by go_num, HRD2, HN3⟩, rfl⟩)
            case measure => simp [intOf]; omega
        · have d1 : decide ((ji : Int) < (CN : Int)) = false := decide_eq_false (by omega)
          have d1n : decide (ji < CN) = false := decide_eq_false hlti
          have HVE : Hid (V = (0, R')) := Lib.hid (by rw [← hrdi.out, List.drop_eq_nil_of_le (by rw [← HCN.out]; omega)]; rfl)
          have HNZ := hnsi
          clear hrdi hnsi
          go_wp2_with fail
          refine bodyPost_ret (v := .int .i64 0) (by simp [results, Tryz.results16, go_sem]) rfl ?_
          exact ⟨by rw [HVE.out]; rfl, .inl ⟨by rw [HVE.out], HNZ.out.here.1, by rw [HVE.out]; exact HNZ.out.mem, _, _, _, HNZ.out.box⟩⟩
end Go.Proofs.YtljdphpbalioaaaGreatDoor
