/- Walk: a function's names. -/
import Derived.Test.YtljdphpbalioaaaGreatDoorGnG
namespace Go.Proofs.YtljdphpbalioaaaGreatDoor
open Go.RowKit

set_option linter.unusedSimpArgs false in
set_option maxRecDepth 40000 in
set_option maxHeartbeats 3200000 in
theorem func_any (J : World → Prop) (Keep : List Nat) (gm N0 : Nat) (L : List (LT Nat)) (I : Nat → Nat) (ga : Value) (n bf : Nat) (mm : Value) (w : World) (fs : Nm.Fs Nat) (c : Nat) (cv uv sv : Value) (mod : Bs) (hmod : mod.length ≤ 1000000) (f : LT Nat) (hsub : ∀ a ∈ f.nodes, a ∈ L) (h : FsM J Keep gm N0 L I ga n bf mm w fs c cv uv sv) (hc : c + 3 * f.count + 5 ≤ 900000) :
    Calls Tryz.prog 29 #[.pointer (some ⟨gm, 0, none⟩), .string (mk8 mod), ptrG f.lab] w fun e w' => e = .returned (.int .i64 ((Nm.func I mod f fs).1 : Nat)) ∧
      (((Nm.func I mod f fs).1 = 0 ∧ ∃ cv' uv' sv', FsM J Keep gm N0 L I ga n bf mm w' (Nm.func I mod f fs).2 (c + 3 * f.count + 5) cv' uv' sv') ∨ ((Nm.func I mod f fs).1 ≠ 0 ∧ Rob (Far N0 L Keep) J w')) := by
  have hfL : f ∈ L := hsub f (LT.nodes_self f)
  have hsh := (h.short f hfL).1
  have HKS : Hid (∀ k ∈ f.kids, (∀ a ∈ k.nodes, a ∈ L)) := Lib.hid (fun k hk a ha => hsub a (LT.nodes_kid hk ha))
  have hcount := LT.count_kids f
  have HCNT : Hid (c + 2 + 3 * LT.countL f.kids + 3 ≤ c + 3 * f.count + 5) := Lib.hid (by omega)
  have HC := Lib.hid hc
  have hc3 : c + 5 ≤ 900000 := by omega
  obtain ⟨V, hV⟩ : ∃ V, V = Nm.func I mod f fs := ⟨_, rfl⟩
  rw [← hV]
  have HV0 := Lib.hid hV
  obtain ⟨kv, hrow⟩ := h.mem.row hfL
  have c1 := cell_of_row w f.lab 1 _ _ _ hrow
  replace c1 : w.cell? ⟨f.lab, 1, none⟩ = some (.string (mk8 f.name)) := c1
  have H1 := Lib.hid h
  clear hsub hcount hV h hrow hc
  go_enter Tryz.func29, Tryz.ntmps29
  unfold ptrG
  go_upto_region 2 with fail
  obtain ⟨kb, hkb⟩ : ∃ q, q = w.heap.size := ⟨_, rfl⟩
  have hb1 := bal (bre w) (.cells #[.string (mk8 mod), .string (mk8 f.name)] 81)
  have hr1 := heap_alloc_new w (.cells #[.string (mk8 mod), .string (mk8 f.name)] 81)
  rw [← hkb] at hr1 ⊢
  have h2 := H1.out.below hb1
  generalize w.alloc (.cells #[.string (mk8 mod), .string (mk8 f.name)] 81) = w1 at *
  have HK1 : Hid (w1.heap[kb]? = some (.cells #[.string (mk8 mod), .string (mk8 f.name)] 81 (0, 0))) := Lib.hid hr1
  have hkN : gm ≠ kb := fun e => by have := (Array.getElem?_eq_some_iff.1 H1.out.box).1; omega
  have H2 := Lib.hid (h2.below (bdr (bre w1)))
  have m2 := cell_of_row _ gm 2 _ _ _ H2.out.box
  replace m2 : w1.drew.cell? ⟨gm, 2, none⟩ = some (.map (some bf)) := m2
  have hk1 : w1.drew.heap[kb]? = some (.cells #[.string (mk8 mod), .string (mk8 f.name)] 81 (0, 0)) := hr1
  have q0 := cell_of_row _ kb 0 _ _ _ hk1
  have q1 := cell_of_row _ kb 1 _ _ _ hk1
  replace q0 : w1.drew.cell? ⟨kb, 0, none⟩ = some (.string (mk8 mod)) := q0
  replace q1 : w1.drew.cell? ⟨kb, 1, none⟩ = some (.string (mk8 f.name)) := q1
  have HSB : w1.drew.cell? ⟨gm, 2, none⟩ = some (.map (some bf)) ∧ w1.drew.cell? ⟨kb, 0, none⟩ = some (.string (mk8 mod)) ∧ w1.drew.cell? ⟨kb, 1, none⟩ = some (.string (mk8 f.name)) := ⟨m2, q0, q1⟩
  obtain ⟨⟨fm, hf, hfu⟩, hflab⟩ := H2.out.funcs
  have hrun := hf.look1 keyedF undMF (zeroPtr w1.drew) (mod, f.name) (keyF mod f.name hmod hsh)
  rw [hfu (mod, f.name)] at hrun
  unfold encF fullV at hrun
  obtain ⟨fo, hfo⟩ : ∃ o, o = fs.funcs (mod, f.name) := ⟨_, rfl⟩
  rw [← hfo] at hrun
  have HFO := Lib.hid hfo
  clear hb1 hr1 hk1 h2 m2 q0 q1 hf hfu hflab hfo c1 hkb
  refine region_anyZ (z := 5) (S := fun w' => w'.cell? ⟨gm, 2, none⟩ = some (.map (some bf)) ∧ w'.cell? ⟨kb, 0, none⟩ = some (.string (mk8 mod)) ∧ w'.cell? ⟨kb, 1, none⟩ = some (.string (mk8 f.name))) (by kernel_rfl) ?_
  refine anyZ_begin (fun hcl0 => ?_)
  refine anyZ_held (by exact HSB) (fun hHeld => ?_)
  -- 0: Op.move (Operand.tmp 0)
  refine' anyZ_pure (i := 0) (v := _) rfl (by rfl) (by kernel_rfl) (by kernel_rfl) (by kernel_rfl) hcl0 (fun _ _ _ h => h) (Or.inl ⟨by rfl, fun w _ => ?hz1⟩) (fun _ => hHeld) (fun hcl1 => ?rz1)
  case hz1 => (simp only [List.getElem_toArray, List.getElem_cons_zero]; first | (go_simp; with_reducible rfl) | (go_simp; done) | rfl)
  simp only [List.getElem_toArray, List.getElem_cons_zero, Act.put, List.setIfInBounds_toArray, List.set_cons_zero, List.set_cons_succ]
  -- 1: Op.nilCheck (Operand.tmp 18)
  refine' anyZ_pure (i := 1) (v := _) rfl (by rfl) (by kernel_rfl) (by kernel_rfl) (by kernel_rfl) hcl1 (fun _ _ _ h => h) (Or.inl ⟨by rfl, fun w _ => ?hz2⟩) (fun _ => hHeld) (fun hcl2 => ?rz2)
  case hz2 => (simp only [List.getElem_toArray, List.getElem_cons_succ, List.getElem_cons_zero]; first | (go_simp; with_reducible rfl) | (go_simp; done) | rfl)
  simp only [List.getElem_toArray, List.getElem_cons_succ, List.getElem_cons_zero, Act.put, List.setIfInBounds_toArray, List.set_cons_zero, List.set_cons_succ]
  -- 2: Op.fieldAddr 57 (Operand.tmp 19) 2
  refine' anyZ_pure (i := 2) (v := _) rfl (by rfl) (by kernel_rfl) (by kernel_rfl) (by kernel_rfl) hcl2 (fun _ _ _ h => h) (Or.inl ⟨by rfl, fun w _ => ?hz3⟩) (fun _ => hHeld) (fun hcl3 => ?rz3)
  case hz3 => (simp only [List.getElem_toArray, List.getElem_cons_succ, List.getElem_cons_zero]; first | (go_simp; with_reducible rfl) | (go_simp; done) | rfl)
  simp only [List.getElem_toArray, List.getElem_cons_succ, List.getElem_cons_zero, Act.put, List.setIfInBounds_toArray, List.set_cons_zero, List.set_cons_succ]
  -- 3: Op.load 52 (Operand.tmp 20)
  refine' anyZ_take (i := 3) (v := _) rfl (by rfl) (by kernel_rfl) (by kernel_rfl) (by kernel_rfl) hcl3 8 (by kernel_rfl) (by kernel_rfl) (fun _ _ _ h => h) (Or.inl ⟨by rfl, fun w hSw => ?hz4⟩) hHeld (fun hcl4 => ?rz4)
  case hz4 => (simp only [List.getElem_toArray, List.getElem_cons_succ, List.getElem_cons_zero]; obtain ⟨hS1, hS2, hS3⟩ := hSw; first | (go_simp; with_reducible rfl) | (go_simp; done) | rfl)
  simp only [List.getElem_toArray, List.getElem_cons_succ, List.getElem_cons_zero, Act.put, List.setIfInBounds_toArray, List.set_cons_zero, List.set_cons_succ]
  -- 4: Op.load 80 (Operand.tmp 7)
  refine' anyZ_take (i := 4) (v := _) rfl (by rfl) (by kernel_rfl) (by kernel_rfl) (by kernel_rfl) hcl4 8 (by kernel_rfl) (by kernel_rfl) (fun _ _ _ h => h) (Or.inl ⟨by rfl, fun w hSw => ?hz5⟩) hHeld (fun hcl5 => ?rz5)
  case hz5 => (simp only [List.getElem_toArray, List.getElem_cons_succ, List.getElem_cons_zero]; obtain ⟨hS1, hS2, hS3⟩ := hSw; first | (go_simp; with_reducible rfl) | (go_simp; done) | rfl)
  simp only [List.getElem_toArray, List.getElem_cons_succ, List.getElem_cons_zero, Act.put, List.setIfInBounds_toArray, List.set_cons_zero, List.set_cons_succ]
  clear hHeld
  refine anyZ_chain_at (by kernel_rfl) ?_
  simp only [List.drop_succ_cons, List.drop_zero]
  have hk2 : w1.drew.heap[kb]? = some (.cells #[.string (mk8 mod), .string (mk8 f.name)] 81 (0, 0)) := HK1.out
  clear HK1
  generalize w1.drew = w2 at *
  have HK2 := Lib.hid hk2
  clear hk2
  cases fo with
  | some b =>
    replace hrun : (Instr.lookup 51 (.map (some bf)) (.agg #[.string (mk8 mod), .string (mk8 f.name)]) false).run Tryz.prog w2 = .ok (.pointer (some ⟨b, 0, none⟩)) w2 := hrun
    have HV2 : Hid (V = (10, fs)) := Lib.hid (by rw [HV0.out]; unfold Nm.func; rw [← HFO.out]; rfl)
    have HJ := Lib.hid H2.out.inv
    clear HSB H1 H2 HV0 HFO
    go_wp2_with fail
    refine bodyPost_ret (v := .int .i64 10) (by simp [results, Tryz.results29, go_sem]) rfl ?_
    exact ⟨by rw [HV2.out]; rfl, .inr ⟨by rw [HV2.out]; exact (show (10 : Nat) ≠ 0 by decide), HJ.out⟩⟩
  | none =>
    replace hrun : (Instr.lookup 51 (.map (some bf)) (.agg #[.string (mk8 mod), .string (mk8 f.name)]) false).run Tryz.prog w2 = .ok (.pointer none) w2 := hrun
    obtain ⟨VL, hVL⟩ : ∃ VL, VL = Nm.funcL I f.kids ⟨fun _ => false, [fun _ => none], fs.calls, fs.ref⟩ := ⟨_, rfl⟩
    have HV : Hid (V = (VL.1, ⟨Nm.putF fs.funcs (mod, f.name) f.lab, VL.2.calls, VL.2.ref⟩)) := Lib.hid (by rw [HV0.out]; unfold Nm.func; rw [← HFO.out, hVL]; rfl)
    have HVL := Lib.hid hVL
    clear HSB H1 HV0 HFO hVL
    go_upto_region 4 with fail
    clear hrun
    have H3 := Lib.hid (H2.out.below (bdr (bre w2)))
    have m2 := cell_of_row _ gm 2 _ _ _ H3.out.box
    replace m2 : w2.drew.cell? ⟨gm, 2, none⟩ = some (.map (some bf)) := m2
    have hk1 : w2.drew.heap[kb]? = some (.cells #[.string (mk8 mod), .string (mk8 f.name)] 81 (0, 0)) := HK2.out
    have q0 := cell_of_row _ kb 0 _ _ _ hk1
    have q1 := cell_of_row _ kb 1 _ _ _ hk1
    replace q0 : w2.drew.cell? ⟨kb, 0, none⟩ = some (.string (mk8 mod)) := q0
    replace q1 : w2.drew.cell? ⟨kb, 1, none⟩ = some (.string (mk8 f.name)) := q1
    have HSB : w2.drew.cell? ⟨gm, 2, none⟩ = some (.map (some bf)) ∧ w2.drew.cell? ⟨kb, 0, none⟩ = some (.string (mk8 mod)) ∧ w2.drew.cell? ⟨kb, 1, none⟩ = some (.string (mk8 f.name)) := ⟨m2, q0, q1⟩
    obtain ⟨⟨fm, hf, hfu⟩, hflab⟩ := H3.out.funcs
    obtain ⟨w4, hrun4, hf4, ho4, -⟩ := hf.store keyedF undMF encF_inj (mod, f.name) (.pointer (some ⟨f.lab, 0, none⟩)) (keyF mod f.name hmod hsh) (by unfold maxLen; omega)
    have hn4 := H3.out.stored (mod, f.name) ⟨f, hfL, rfl⟩ hf4 (Nat.le_refl _) hfu ho4
    unfold encF fullV at hrun4
    clear m2 hk1 q0 q1 hf hfu hflab hf4 ho4 H3 H2 HK2
    refine region_anyZ (z := 6) (S := fun w' => w'.cell? ⟨gm, 2, none⟩ = some (.map (some bf)) ∧ w'.cell? ⟨kb, 0, none⟩ = some (.string (mk8 mod)) ∧ w'.cell? ⟨kb, 1, none⟩ = some (.string (mk8 f.name))) (by kernel_rfl) ?_
    refine anyZ_begin (fun hcl0 => ?_)
    refine anyZ_held (by exact HSB) (fun hHeld => ?_)
    -- 0: Op.move (Operand.tmp 0)
    refine' anyZ_pure (i := 0) (v := _) rfl (by rfl) (by kernel_rfl) (by kernel_rfl) (by kernel_rfl) hcl0 (fun _ _ _ h => h) (Or.inl ⟨by rfl, fun w _ => ?hy1⟩) (fun _ => hHeld) (fun hcl1 => ?ry1)
    case hy1 => (simp only [List.getElem_toArray, List.getElem_cons_zero]; first | (go_simp; with_reducible rfl) | (go_simp; done) | rfl)
    simp only [List.getElem_toArray, List.getElem_cons_zero, Act.put, List.setIfInBounds_toArray, List.set_cons_zero, List.set_cons_succ]
    -- 1: Op.nilCheck (Operand.tmp 25)
    refine' anyZ_pure (i := 1) (v := _) rfl (by rfl) (by kernel_rfl) (by kernel_rfl) (by kernel_rfl) hcl1 (fun _ _ _ h => h) (Or.inl ⟨by rfl, fun w _ => ?hy2⟩) (fun _ => hHeld) (fun hcl2 => ?ry2)
    case hy2 => (simp only [List.getElem_toArray, List.getElem_cons_succ, List.getElem_cons_zero]; first | (go_simp; with_reducible rfl) | (go_simp; done) | rfl)
    simp only [List.getElem_toArray, List.getElem_cons_succ, List.getElem_cons_zero, Act.put, List.setIfInBounds_toArray, List.set_cons_zero, List.set_cons_succ]
    -- 2: Op.fieldAddr 57 (Operand.tmp 26) 2
    refine' anyZ_pure (i := 2) (v := _) rfl (by rfl) (by kernel_rfl) (by kernel_rfl) (by kernel_rfl) hcl2 (fun _ _ _ h => h) (Or.inl ⟨by rfl, fun w _ => ?hy3⟩) (fun _ => hHeld) (fun hcl3 => ?ry3)
    case hy3 => (simp only [List.getElem_toArray, List.getElem_cons_succ, List.getElem_cons_zero]; first | (go_simp; with_reducible rfl) | (go_simp; done) | rfl)
    simp only [List.getElem_toArray, List.getElem_cons_succ, List.getElem_cons_zero, Act.put, List.setIfInBounds_toArray, List.set_cons_zero, List.set_cons_succ]
    -- 3: Op.load 52 (Operand.tmp 27)
    refine' anyZ_take (i := 3) (v := _) rfl (by rfl) (by kernel_rfl) (by kernel_rfl) (by kernel_rfl) hcl3 8 (by kernel_rfl) (by kernel_rfl) (fun _ _ _ h => h) (Or.inl ⟨by rfl, fun w hSw => ?hy4⟩) hHeld (fun hcl4 => ?ry4)
    case hy4 => (simp only [List.getElem_toArray, List.getElem_cons_succ, List.getElem_cons_zero]; obtain ⟨hS1, hS2, hS3⟩ := hSw; first | (go_simp; with_reducible rfl) | (go_simp; done) | rfl)
    simp only [List.getElem_toArray, List.getElem_cons_succ, List.getElem_cons_zero, Act.put, List.setIfInBounds_toArray, List.set_cons_zero, List.set_cons_succ]
    -- 4: Op.load 80 (Operand.tmp 7)
    refine' anyZ_take (i := 4) (v := _) rfl (by rfl) (by kernel_rfl) (by kernel_rfl) (by kernel_rfl) hcl4 8 (by kernel_rfl) (by kernel_rfl) (fun _ _ _ h => h) (Or.inl ⟨by rfl, fun w hSw => ?hy5⟩) hHeld (fun hcl5 => ?ry5)
    case hy5 => (simp only [List.getElem_toArray, List.getElem_cons_succ, List.getElem_cons_zero]; obtain ⟨hS1, hS2, hS3⟩ := hSw; first | (go_simp; with_reducible rfl) | (go_simp; done) | rfl)
    simp only [List.getElem_toArray, List.getElem_cons_succ, List.getElem_cons_zero, Act.put, List.setIfInBounds_toArray, List.set_cons_zero, List.set_cons_succ]
    -- 5: Op.move (Operand.tmp 2)
    refine' anyZ_pure (i := 5) (v := _) rfl (by rfl) (by kernel_rfl) (by kernel_rfl) (by kernel_rfl) hcl5 (fun _ _ _ h => h) (Or.inl ⟨by rfl, fun w _ => ?hy6⟩) (fun _ => hHeld) (fun hcl6 => ?ry6)
    case hy6 => (simp only [List.getElem_toArray, List.getElem_cons_succ, List.getElem_cons_zero]; first | (go_simp; with_reducible rfl) | (go_simp; done) | rfl)
    simp only [List.getElem_toArray, List.getElem_cons_succ, List.getElem_cons_zero, Act.put, List.setIfInBounds_toArray, List.set_cons_zero, List.set_cons_succ]
    clear hHeld
    refine anyZ_chain_at (by kernel_rfl) ?_
    simp only [List.drop_succ_cons, List.drop_zero]
    clear HSB
    have m5 := cell_of_row _ gm 5 _ _ _ hn4.box
    have m6 := cell_of_row _ gm 6 _ _ _ hn4.box
    have mfz := fun i => frozen_of_row _ gm i _ _ hn4.box
    have hmm := @run_makeMap Tryz.prog
    have hgl := (Array.getElem?_eq_some_iff.1 hn4.box).1
    have hin := hn4.inside
    have hb1 := bal (bre w4) (.map #[] 0)
    have hb2 := bal (bre (w4.alloc (.map #[] 0))) (.map #[] 0)
    have hb3 := bal (bre ((w4.alloc (.map #[] 0)).alloc (.map #[] 0))) (.cells #[.map (some (w4.heap.size + 1))] 99)
    have hbox3 := ((hn4.below hb1).below hb2).below hb3
    have n5 := cell_of_row _ gm 5 _ _ _ hbox3.box
    have n6 := cell_of_row _ gm 6 _ _ _ hbox3.box
    have nfz := fun i => frozen_of_row _ gm i _ _ hbox3.box
    have HIN := Lib.hid hin
    have HLOW := Lib.hid hn4.low
    clear hb1 hb2 hb3 hbox3 hin hn4 m5 m6 mfz hgl
    go_upto_region 6 with fail
    generalize ((((w4.alloc (.map #[] 0)).alloc (.map #[] 0)).alloc (.cells #[.map (some (w4.heap.size + 1))] 99)).setCell ⟨gm, 5, none⟩ (.map (some w4.heap.size))).setCell ⟨gm, 6, none⟩ (.slice (some ⟨w4.heap.size + 1 + 1, 0, none⟩) 1 1) = w5 at *
    clear n5 n6 nfz hrun4 hmm
    obtain ⟨q, cq, hrow, hn1⟩ := HIN.out.kidsRow hfL
    have g8 := cell_of_row w5 f.lab 8 _ _ _ hrow
    replace g8 : w5.cell? ⟨f.lab, 8, none⟩ = some (.slice q f.kids.length cq) := g8
    obtain ⟨M, hM⟩ : ∃ M, M = f.kids.length := ⟨_, rfl⟩
    rw [← hM] at g8
    have HMM := Lib.hid hM
    have hfew : M ≤ 900000 := by rw [hM]; have := countL_len f.kids; have := HC.out; have := LT.count_kids f; omega
    have HNN : Hid (VisM (fun w' => (Rob (Far N0 L Keep) J w' ∧ FunM w' L bf (c + 1) (Nm.putF fs.funcs (mod, f.name) f.lab) ∧ KeepOk Keep w') ∧ KidsRow q f.kids w') gm N0 L I ga n (.map (some bf)) mm w5 ⟨fun _ => false, [fun _ => none], fs.calls, fs.ref⟩ (c + 1 + 1) w4.heap.size [w4.heap.size + 1] cv (.slice (some ⟨w4.heap.size + 1 + 1, 0, none⟩) 1 1)) := Lib.hid hn1
    clear hrow hn1 hM HIN
    go_upto_region 7 with fail
    go_loopw [9, 10, 45] (fun _ _ i wr => ∃ (j : Nat) (st' : Nm.St Nat) (c' : Nat) (ms' : List Nat) (cv' sv' : Value), j ≤ M ∧ i = .int .i64 j ∧ Hid (Nm.funcL I (f.kids.drop j) st' = VL) ∧ Hid (c' + 3 * LT.countL (f.kids.drop j) + 3 ≤ c + 3 * f.count + 5) ∧ Hid (VisM (fun w' => (Rob (Far N0 L Keep) J w' ∧ FunM w' L bf (c + 1) (Nm.putF fs.funcs (mod, f.name) f.lab) ∧ KeepOk Keep w') ∧ KidsRow q f.kids w') gm N0 L I ga n (.map (some bf)) mm wr st' c' w4.heap.size ms' cv' sv')) (fun _ _ i _ => M - (intOf i).toNat)
    case atStart => exact ⟨0, _, c + 1 + 1, _, cv, _, by omega, rfl, Lib.hid (by rw [List.drop_zero, HVL.out]), Lib.hid (by rw [List.drop_zero]; have := HCNT.out; omega), HNN⟩
    case round =>
      clear HNN g8 HVL
      obtain ⟨j, st', c', ms', cv', sv', hj, rfl, hrd, hcn, hns⟩ := hrel
      rename World => wr
      by_cases hlt : j < M
      · have d1 : decide ((j : Int) < (M : Int)) = true := decide_eq_true (by omega)
        have d1n : decide (j < M) = true := decide_eq_true hlt
        have hjl : j < f.kids.length := by rw [← HMM.out]; exact hlt
        obtain ⟨k, hk⟩ : ∃ k, f.kids[j]? = some k := ⟨_, List.getElem?_eq_getElem hjl⟩
        have hkm : k ∈ f.kids := List.mem_of_getElem? hk
        have hdr : f.kids.drop j = k :: f.kids.drop (j + 1) := by
          rw [List.drop_eq_getElem_cons hjl]
          rw [List.getElem?_eq_getElem hjl] at hk
          rw [Option.some.inj hk]
        obtain ⟨b, hqb, hcell⟩ := hns.out.holds.2 j k hk
        have k1 : (0 : Int) ≤ (j : Int) := by omega
        have k2 : (j : Int) < (M : Int) := by omega
        have HSK := Lib.hid (HKS.out k hkm)
        have hkL : k ∈ L := HSK.out k (LT.nodes_self k)
        have HRD : Hid (Nm.funcL I (k :: f.kids.drop (j + 1)) st' = VL) := Lib.hid (by rw [← hrd.out, hdr])
        have hk0 : 1 ≤ k.count := by rw [LT.count_kids]; omega
        have HCN : Hid (c' + 3 * k.count + 3 * LT.countL (f.kids.drop (j + 1)) + 3 ≤ c + 3 * f.count + 5) := Lib.hid (by have := hcn.out; rw [hdr] at this; unfold LT.countL at this; omega)
        obtain ⟨kvk, hrowk⟩ := hns.out.mem.row hkL
        have ck0 := cell_of_row wr k.lab 0 _ _ _ hrowk
        replace ck0 : wr.cell? ⟨k.lab, 0, none⟩ = some (.int .u8 (k.kind : Nat)) := ck0
        unfold ptrG at hcell
        subst hqb
        clear hk hkm hdr hrd hcn hjl hrowk
        by_cases h4 : k.kind = 4
        · have HKD : Hid ((k.kind = 4) = True) := Lib.hid (eq_true h4)
          have d4 : decide ((k.kind : Int) = 4) = true := decide_eq_true (by omega)
          have b4 : ((k.kind : Int) == 4) = true := beq_iff_eq.2 (by omega)
          clear h4
          go_wp2_with fail
          refine (declare_any _ gm N0 L I ga n (.map (some bf)) mm wr st' c' w4.heap.size ms' cv' sv' k hkL (by have := HCN.out; have := HC.out; omega) hns.out).mono ?_
          rintro e w6 ⟨rfl, hn6⟩
          obtain ⟨VK, hVK⟩ : ∃ VK, VK = Nm.declare k.name k.lab st' := ⟨_, rfl⟩
          rw [← hVK] at hn6 ⊢
          have HVK := Lib.hid hVK
          obtain ⟨ve, vst⟩ := VK
          have hres : (ve = 0 ∧ ∃ ms' cv' sv', VisM (fun w' => (Rob (Far N0 L Keep) J w' ∧ FunM w' L bf (c + 1) (Nm.putF fs.funcs (mod, f.name) f.lab) ∧ KeepOk Keep w') ∧ KidsRow (some ⟨b, 0, none⟩) f.kids w') gm N0 L I ga n (.map (some bf)) mm w6 vst (c' + 3 * k.count) w4.heap.size ms' cv' sv') ∨ (ve ≠ 0 ∧ ((Rob (Far N0 L Keep) J w6 ∧ FunM w6 L bf (c + 1) (Nm.putF fs.funcs (mod, f.name) f.lab) ∧ KeepOk Keep w6) ∧ KidsRow (some ⟨b, 0, none⟩) f.kids w6)) := by
            by_cases hv : ve = 0
            · exact .inl ⟨hv, ms', cv', sv', hn6.mono (by omega)⟩
            · exact .inr ⟨hv, hn6.holds⟩
          clear hns hcell hVK hn6 ck0
          rcases hres with ⟨hv0, ms2, cv2, sv2, hn3⟩ | ⟨hv0, hj3⟩
          · have d0 : decide ((ve : Int) = 0) = true := decide_eq_true (by omega)
            have b0 : ((ve : Int) == 0) = true := beq_iff_eq.2 (by omega)
            have e1 : ((ve : Int) != 0) = false := by rw [hv0]; rfl
            have HRD2 : Hid (Nm.funcL I (f.kids.drop (j + 1)) vst = VL) := Lib.hid (by
              rw [← HRD.out]
              conv => rhs; unfold Nm.funcL
              simp only [HKD.out, if_true, if_false]
              rw [← HVK.out]
              exact (if_pos hv0).symm)
            have HN3 := Lib.hid hn3
            clear hv0 hn3 HRD HVK
            go_wp2_with fail
            go_roundw
            case rel => first | exact ⟨j + 1, _, _, ms2, cv2, sv2, by omega, by go_num, HRD2, HCN, HN3⟩ | ((repeat apply Exists.intro); exact ⟨⟨j + 1, _, _, ms2, cv2, sv2, by omega, by go_num, HRD2, HCN, HN3⟩, rfl⟩)
            case measure => simp [intOf]; omega
          · have d0 : decide ((ve : Int) = 0) = false := decide_eq_false (by omega)
            have b0 : ((ve : Int) == 0) = false := by rw [beq_eq_false_iff_ne]; omega
            have e1 : ((ve : Int) != 0) = true := by simp only [bne_iff_ne, ne_eq]; omega
            have HRE : Hid (VL = (ve, vst)) := Lib.hid (by
              rw [← HRD.out]
              unfold Nm.funcL
              simp only [HKD.out, if_true, if_false]
              rw [← HVK.out]
              exact if_neg hv0)
            have HV2 : Hid (V.1 = ve ∧ ve ≠ 0) := Lib.hid ⟨by rw [HV.out, HRE.out], hv0⟩
            have HJ3 := Lib.hid hj3.1.1
            clear hv0 hj3 HRD HVK
            go_wp2_with fail
            refine bodyPost_ret (v := .int .i64 (ve : Nat)) (by simp [results, Tryz.results29, go_sem]) rfl ?_
            exact ⟨by rw [HV2.out.1], .inr ⟨by rw [HV2.out.1]; exact HV2.out.2, HJ3.out⟩⟩
        · have HKD : Hid ((k.kind = 4) = False) := Lib.hid (eq_false h4)
          have d4 : decide ((k.kind : Int) = 4) = false := decide_eq_false (by omega)
          have b4 : ((k.kind : Int) == 4) = false := by rw [beq_eq_false_iff_ne]; omega
          clear h4
          go_wp2_with fail
          refine (visit_any gm N0 L I ga n (.map (some bf)) mm k.count k (Nat.le_refl _) _ wr st' c' w4.heap.size ms' cv' sv' HSK.out hns.out (by have := HCN.out; have := HC.out; omega)).mono ?_
          rintro e w6 ⟨rfl, hres⟩
          obtain ⟨VK, hVK⟩ : ∃ VK, VK = Nm.visit I k st' := ⟨_, rfl⟩
          rw [← hVK] at hres ⊢
          have HVK := Lib.hid hVK
          obtain ⟨ve, vst⟩ := VK
          replace hres : (ve = 0 ∧ ∃ ms' cv' sv', VisM (fun w' => (Rob (Far N0 L Keep) J w' ∧ FunM w' L bf (c + 1) (Nm.putF fs.funcs (mod, f.name) f.lab) ∧ KeepOk Keep w') ∧ KidsRow (some ⟨b, 0, none⟩) f.kids w') gm N0 L I ga n (.map (some bf)) mm w6 vst (c' + 3 * k.count) w4.heap.size ms' cv' sv') ∨ (ve ≠ 0 ∧ ((Rob (Far N0 L Keep) J w6 ∧ FunM w6 L bf (c + 1) (Nm.putF fs.funcs (mod, f.name) f.lab) ∧ KeepOk Keep w6) ∧ KidsRow (some ⟨b, 0, none⟩) f.kids w6)) := hres
          clear hns hcell hVK ck0
          rcases hres with ⟨hv0, ms2, cv2, sv2, hn3⟩ | ⟨hv0, hj3⟩
          · have d0 : decide ((ve : Int) = 0) = true := decide_eq_true (by omega)
            have b0 : ((ve : Int) == 0) = true := beq_iff_eq.2 (by omega)
            have e1 : ((ve : Int) != 0) = false := by rw [hv0]; rfl
            have HRD2 : Hid (Nm.funcL I (f.kids.drop (j + 1)) vst = VL) := Lib.hid (by
              rw [← HRD.out]
              conv => rhs; unfold Nm.funcL
              simp only [HKD.out, if_true, if_false]
              rw [← HVK.out]
              exact (if_pos hv0).symm)
            have HN3 := Lib.hid hn3
            clear hv0 hn3 HRD HVK
            go_wp2_with fail
            go_roundw
            case rel => first | exact ⟨j + 1, _, _, ms2, cv2, sv2, by omega, by go_num, HRD2, HCN, HN3⟩ | ((repeat apply Exists.intro); exact ⟨⟨j + 1, _, _, ms2, cv2, sv2, by omega, by go_num, HRD2, HCN, HN3⟩, rfl⟩)
            case measure => simp [intOf]; omega
          · have d0 : decide ((ve : Int) = 0) = false := decide_eq_false (by omega)
            have b0 : ((ve : Int) == 0) = false := by rw [beq_eq_false_iff_ne]; omega
            have e1 : ((ve : Int) != 0) = true := by simp only [bne_iff_ne, ne_eq]; omega
            have HRE : Hid (VL = (ve, vst)) := Lib.hid (by
              rw [← HRD.out]
              unfold Nm.funcL
              simp only [HKD.out, if_true, if_false]
              rw [← HVK.out]
              exact if_neg hv0)
            have HV2 : Hid (V.1 = ve ∧ ve ≠ 0) := Lib.hid ⟨by rw [HV.out, HRE.out], hv0⟩
            have HJ3 := Lib.hid hj3.1.1
            clear hv0 hj3 HRD HVK
            go_wp2_with fail
            refine bodyPost_ret (v := .int .i64 (ve : Nat)) (by simp [results, Tryz.results29, go_sem]) rfl ?_
            exact ⟨by rw [HV2.out.1], .inr ⟨by rw [HV2.out.1]; exact HV2.out.2, HJ3.out⟩⟩
      · have d1 : decide ((j : Int) < (M : Int)) = false := decide_eq_false (by omega)
        have d1n : decide (j < M) = false := decide_eq_false hlt
        have hz : f.kids.drop j = [] := List.drop_eq_nil_of_le (by rw [← HMM.out]; omega)
        have HRE : Hid (VL = (0, st')) := Lib.hid (by rw [← hrd.out, hz]; rfl)
        have HV2 : Hid (V = (0, ⟨Nm.putF fs.funcs (mod, f.name) f.lab, st'.calls, st'.ref⟩)) := Lib.hid (by rw [HV.out, HRE.out])
        have hc1 : c + 1 ≤ c' ∨ c' < c + 1 := by omega
        have HNZ : Hid (FsM J Keep gm N0 L I ga n bf mm wr ⟨Nm.putF fs.funcs (mod, f.name) f.lab, st'.calls, st'.ref⟩ (c + 3 * f.count + 5) cv' (.map (some w4.heap.size)) sv') := Lib.hid (by
          have h9 := (hns.out.mono (c' := c + 3 * f.count + 5) (by have := hcn.out; omega)).outside (c := c + 1) HLOW.out (by omega)
          exact h9)
        clear hrd hcn hns hz HRE HV
        go_wp2_with fail
        refine bodyPost_ret (v := .int .i64 0) (by simp [results, Tryz.results29, go_sem]) rfl ?_
        exact ⟨by rw [HV2.out]; rfl, .inl ⟨by rw [HV2.out], _, _, _, by rw [HV2.out]; exact HNZ.out⟩⟩
end Go.Proofs.YtljdphpbalioaaaGreatDoor
