/- Walk: the reference's bytes of a page. -/
import Derived.Test.YtacfkhnajdneeaaDoorPreC
import Derived.Test.YtacfkhnajdneeaaDoorRNum
import Derived.Test.YtacfkhnajdneeaaDoorPreA
namespace Go.Proofs.YtacfkhnajdneeaaDoor
open Go.RowKit

theorem wrap64 (n : Nat) (h : n < 18446744073709551616) : IntKind.u64.wrap (n : Int) = (n : Int) := by
  simp [IntKind.wrap, IntKind.signed, IntKind.bits]
  omega

set_option maxRecDepth 10000 in
theorem rnum_step (t s n k : Nat) (hn : n < 18446744073709551616) (hk1 : 1 ≤ k) (hk2 : k ≤ 1000000) (o : Oper) (a : Act) (w1 : World) (K : Act → World → Prop) (Q : Exit → Act → World → Prop) (ho : o.op = .call { callee := .value (.func 60), args := #[.tmp t, .const (.int .i64 k)], argTypes := #[87, 3] }) (hd : o.dst = some s)
    (he : a.eval (.tmp t) = .int .u64 n) (hK : ∀ ad c w2, Bytes w2 (.slice ad k c) (bes k n) → Below w1.heap.size w1 w2 → K (a.put (some s) (.slice ad k c)) w2) : o.wp Tryd.prog a w1 K Q := by
  have hrun : (execOp a.eval o).run Tryd.prog w1 = .ok (.enter 60 #[.int .u64 n, .int .i64 k]) w1 := by
    unfold execOp
    simp only [ho, resolve, invoke, Sem.run_bind, List.map_toArray, List.map_cons, List.map_nil, he]
    rfl
  unfold Oper.wp
  rw [hrun, Oper.upon_enter]
  refine (rfnum_any n k hn hk1 hk2 w1).mono ?_
  rintro e w2 ⟨v2, rfl, ho2, hb2⟩
  obtain ⟨a2, c2, rfl, -⟩ := id ho2.bytes
  rw [hd]
  have := ho2.bytes
  rw [bes_length] at this ⊢
  exact hK a2 c2 w2 this hb2

set_option maxRecDepth 10000 in
set_option maxHeartbeats 3200000 in
theorem rpbytes_any (v : Value) (p : Pg) (w : World) (hv : PgAt w v p) (ok : p.Ok) (hd : p.data.length ≤ 491) :
    Calls Tryd.prog 36 #[v] w fun e w' => ∃ v', e = .returned v' ∧ Own8 5 w.heap.size w' v' (seal8 p.raw) ∧ Below w.heap.size w w' := by
  obtain ⟨vd, rfl, hvd⟩ := hv
  obtain ⟨ad, cd, rfl, hm, hc, -, -⟩ := id hvd
  obtain ⟨o1, o2, o3, o4⟩ := ok
  have hd1 : (p.data.length : Int) ≤ 491 := by omega
  have HVD := Lib.hid hvd
  clear hvd hm hc
  go_enter Tryd.func36, Tryd.ntmps36
  go_upto_region 1 with fail
  obtain ⟨n0, hn0⟩ : ∃ n0, n0 = w.heap.size := ⟨_, rfl⟩
  have hr0 := heap_alloc_new w (.cells #[.int .u32 p.gen, .int .u32 p.serial, .int .u32 p.number, .int .u8 p.kind, .slice ad p.data.length cd] 66)
  have hb0 := bal (bre w) (.cells #[.int .u32 p.gen, .int .u32 p.serial, .int .u32 p.number, .int .u8 p.kind, .slice ad p.data.length cd] 66)
  rw [← hn0] at hr0 ⊢
  generalize w.alloc (.cells #[.int .u32 p.gen, .int .u32 p.serial, .int .u32 p.number, .int .u8 p.kind, .slice ad p.data.length cd] 66) = W at *
  have hlt := (Array.getElem?_eq_some_iff.1 hr0).1
  have f0 := cell_of_row W n0 0 _ _ _ hr0
  have f1 := cell_of_row W n0 1 _ _ _ hr0
  have f2 := cell_of_row W n0 2 _ _ _ hr0
  have f3 := cell_of_row W n0 3 _ _ _ hr0
  have f4 := cell_of_row W n0 4 _ _ _ hr0
  have hSB : ∀ w', Below W.heap.size W w' → (w'.cell? ⟨n0, 0, none⟩ = some (.int .u32 p.gen) ∧ w'.cell? ⟨n0, 1, none⟩ = some (.int .u32 p.serial) ∧ w'.cell? ⟨n0, 2, none⟩ = some (.int .u32 p.number) ∧ w'.cell? ⟨n0, 3, none⟩ = some (.int .u8 p.kind) ∧ w'.cell? ⟨n0, 4, none⟩ = some (.slice ad p.data.length cd)) := fun w' hb =>
    ⟨(hb.cell (p := ⟨n0, 0, none⟩) hlt).trans f0, (hb.cell (p := ⟨n0, 1, none⟩) hlt).trans f1, (hb.cell (p := ⟨n0, 2, none⟩) hlt).trans f2, (hb.cell (p := ⟨n0, 3, none⟩) hlt).trans f3, (hb.cell (p := ⟨n0, 4, none⟩) hlt).trans f4⟩
  have HSB := Lib.hid hSB
  have HB0 := Lib.hid hb0
  have HDW := Lib.hid (HVD.out.below hb0)
  clear hr0 hb0 hn0 hSB f0 f1 f2 f3 f4
  refine region_anyZ (z := 23) (S := fun w' => (w'.cell? ⟨n0, 0, none⟩ = some (.int .u32 p.gen) ∧ w'.cell? ⟨n0, 1, none⟩ = some (.int .u32 p.serial) ∧ w'.cell? ⟨n0, 2, none⟩ = some (.int .u32 p.number) ∧ w'.cell? ⟨n0, 3, none⟩ = some (.int .u8 p.kind) ∧ w'.cell? ⟨n0, 4, none⟩ = some (.slice ad p.data.length cd))) (by kernel_rfl) ?_
  refine anyZ_begin (fun hcl0 => ?_)
  refine anyZ_held (by exact HSB.out _ (bdr (bre W))) (fun hHeld => ?_)
  -- 1: Op.fieldAddr 34 (Operand.tmp 1) 0
  refine' anyZ_pure (i := 1) (v := _) rfl (by rfl) (by kernel_rfl) (by kernel_rfl) (by kernel_rfl) hcl0 (fun _ _ _ h => h) (Or.inl ⟨by rfl, fun w _ => ?h1⟩) (fun _ => hHeld) (fun hcl1 => ?r1)
  case h1 => (simp only [List.getElem_toArray, List.getElem_cons_succ, List.getElem_cons_zero]; first | (go_simp; with_reducible rfl) | (go_simp; done) | rfl)
  simp only [List.getElem_toArray, List.getElem_cons_succ, List.getElem_cons_zero, Act.put, List.setIfInBounds_toArray, List.set_cons_zero, List.set_cons_succ]
  -- 2: Op.load 22 (Operand.tmp 5)
  refine' anyZ_take (i := 2) (v := _) rfl (by rfl) (by kernel_rfl) (by kernel_rfl) (by kernel_rfl) hcl1 5 (by kernel_rfl) (by kernel_rfl) (fun _ _ _ h => h) (Or.inl ⟨by rfl, fun w hSw => ?h2⟩) hHeld (fun hcl2 => ?r2)
  case h2 => (simp only [List.getElem_toArray, List.getElem_cons_succ, List.getElem_cons_zero]; obtain ⟨hS1, hS2, hS3, hS4, hS5⟩ := hSw; first | (go_simp; with_reducible rfl) | (go_simp; done) | rfl)
  simp only [List.getElem_toArray, List.getElem_cons_succ, List.getElem_cons_zero, Act.put, List.setIfInBounds_toArray, List.set_cons_zero, List.set_cons_succ]
  -- 3: Op.convert 22 57 (Operand.tmp 6)
  refine' anyZ_pure (i := 3) (v := _) rfl (by rfl) (by kernel_rfl) (by kernel_rfl) (by kernel_rfl) hcl2 (fun _ _ _ h => h) (Or.inl ⟨by rfl, fun w _ => ?h3⟩) (fun _ => hHeld) (fun hcl3 => ?r3)
  case h3 => (simp only [List.getElem_toArray, List.getElem_cons_succ, List.getElem_cons_zero]; first | (go_simp; with_reducible rfl) | (go_simp; done) | rfl)
  simp only [List.getElem_toArray, List.getElem_cons_succ, List.getElem_cons_zero, Act.put, List.setIfInBounds_toArray, List.set_cons_zero, List.set_cons_succ]
  -- 5: Op.fieldAddr 34 (Operand.tmp 1) 1
  refine' anyZ_pure (i := 5) (v := _) rfl (by rfl) (by kernel_rfl) (by kernel_rfl) (by kernel_rfl) hcl3 (fun _ _ _ h => h) (Or.inl ⟨by rfl, fun w _ => ?h4⟩) (fun _ => hHeld) (fun hcl4 => ?r4)
  case h4 => (simp only [List.getElem_toArray, List.getElem_cons_succ, List.getElem_cons_zero]; first | (go_simp; with_reducible rfl) | (go_simp; done) | rfl)
  simp only [List.getElem_toArray, List.getElem_cons_succ, List.getElem_cons_zero, Act.put, List.setIfInBounds_toArray, List.set_cons_zero, List.set_cons_succ]
  -- 6: Op.load 22 (Operand.tmp 9)
  refine' anyZ_take (i := 6) (v := _) rfl (by rfl) (by kernel_rfl) (by kernel_rfl) (by kernel_rfl) hcl4 5 (by kernel_rfl) (by kernel_rfl) (fun _ _ _ h => h) (Or.inl ⟨by rfl, fun w hSw => ?h5⟩) hHeld (fun hcl5 => ?r5)
  case h5 => (simp only [List.getElem_toArray, List.getElem_cons_succ, List.getElem_cons_zero]; obtain ⟨hS1, hS2, hS3, hS4, hS5⟩ := hSw; first | (go_simp; with_reducible rfl) | (go_simp; done) | rfl)
  simp only [List.getElem_toArray, List.getElem_cons_succ, List.getElem_cons_zero, Act.put, List.setIfInBounds_toArray, List.set_cons_zero, List.set_cons_succ]
  -- 7: Op.convert 22 57 (Operand.tmp 10)
  refine' anyZ_pure (i := 7) (v := _) rfl (by rfl) (by kernel_rfl) (by kernel_rfl) (by kernel_rfl) hcl5 (fun _ _ _ h => h) (Or.inl ⟨by rfl, fun w _ => ?h6⟩) (fun _ => hHeld) (fun hcl6 => ?r6)
  case h6 => (simp only [List.getElem_toArray, List.getElem_cons_succ, List.getElem_cons_zero]; first | (go_simp; with_reducible rfl) | (go_simp; done) | rfl)
  simp only [List.getElem_toArray, List.getElem_cons_succ, List.getElem_cons_zero, Act.put, List.setIfInBounds_toArray, List.set_cons_zero, List.set_cons_succ]
  -- 9: Op.fieldAddr 34 (Operand.tmp 1) 2
  refine' anyZ_pure (i := 9) (v := _) rfl (by rfl) (by kernel_rfl) (by kernel_rfl) (by kernel_rfl) hcl6 (fun _ _ _ h => h) (Or.inl ⟨by rfl, fun w _ => ?h7⟩) (fun _ => hHeld) (fun hcl7 => ?r7)
  case h7 => (simp only [List.getElem_toArray, List.getElem_cons_succ, List.getElem_cons_zero]; first | (go_simp; with_reducible rfl) | (go_simp; done) | rfl)
  simp only [List.getElem_toArray, List.getElem_cons_succ, List.getElem_cons_zero, Act.put, List.setIfInBounds_toArray, List.set_cons_zero, List.set_cons_succ]
  -- 10: Op.load 22 (Operand.tmp 13)
  refine' anyZ_take (i := 10) (v := _) rfl (by rfl) (by kernel_rfl) (by kernel_rfl) (by kernel_rfl) hcl7 5 (by kernel_rfl) (by kernel_rfl) (fun _ _ _ h => h) (Or.inl ⟨by rfl, fun w hSw => ?h8⟩) hHeld (fun hcl8 => ?r8)
  case h8 => (simp only [List.getElem_toArray, List.getElem_cons_succ, List.getElem_cons_zero]; obtain ⟨hS1, hS2, hS3, hS4, hS5⟩ := hSw; first | (go_simp; with_reducible rfl) | (go_simp; done) | rfl)
  simp only [List.getElem_toArray, List.getElem_cons_succ, List.getElem_cons_zero, Act.put, List.setIfInBounds_toArray, List.set_cons_zero, List.set_cons_succ]
  -- 11: Op.convert 22 57 (Operand.tmp 14)
  refine' anyZ_pure (i := 11) (v := _) rfl (by rfl) (by kernel_rfl) (by kernel_rfl) (by kernel_rfl) hcl8 (fun _ _ _ h => h) (Or.inl ⟨by rfl, fun w _ => ?h9⟩) (fun _ => hHeld) (fun hcl9 => ?r9)
  case h9 => (simp only [List.getElem_toArray, List.getElem_cons_succ, List.getElem_cons_zero]; first | (go_simp; with_reducible rfl) | (go_simp; done) | rfl)
  simp only [List.getElem_toArray, List.getElem_cons_succ, List.getElem_cons_zero, Act.put, List.setIfInBounds_toArray, List.set_cons_zero, List.set_cons_succ]
  -- 13: Op.fieldAddr 34 (Operand.tmp 1) 3
  refine' anyZ_pure (i := 13) (v := _) rfl (by rfl) (by kernel_rfl) (by kernel_rfl) (by kernel_rfl) hcl9 (fun _ _ _ h => h) (Or.inl ⟨by rfl, fun w _ => ?h10⟩) (fun _ => hHeld) (fun hcl10 => ?r10)
  case h10 => (simp only [List.getElem_toArray, List.getElem_cons_succ, List.getElem_cons_zero]; first | (go_simp; with_reducible rfl) | (go_simp; done) | rfl)
  simp only [List.getElem_toArray, List.getElem_cons_succ, List.getElem_cons_zero, Act.put, List.setIfInBounds_toArray, List.set_cons_zero, List.set_cons_succ]
  -- 14: Op.load 5 (Operand.tmp 17)
  refine' anyZ_take (i := 14) (v := _) rfl (by rfl) (by kernel_rfl) (by kernel_rfl) (by kernel_rfl) hcl10 5 (by kernel_rfl) (by kernel_rfl) (fun _ _ _ h => h) (Or.inl ⟨by rfl, fun w hSw => ?h11⟩) hHeld (fun hcl11 => ?r11)
  case h11 => (simp only [List.getElem_toArray, List.getElem_cons_succ, List.getElem_cons_zero]; obtain ⟨hS1, hS2, hS3, hS4, hS5⟩ := hSw; first | (go_simp; with_reducible rfl) | (go_simp; done) | rfl)
  simp only [List.getElem_toArray, List.getElem_cons_succ, List.getElem_cons_zero, Act.put, List.setIfInBounds_toArray, List.set_cons_zero, List.set_cons_succ]
  -- 16: Op.fieldAddr 34 (Operand.tmp 1) 4
  refine' anyZ_pure (i := 16) (v := _) rfl (by rfl) (by kernel_rfl) (by kernel_rfl) (by kernel_rfl) hcl11 (fun _ _ _ h => h) (Or.inl ⟨by rfl, fun w _ => ?h12⟩) (fun _ => hHeld) (fun hcl12 => ?r12)
  case h12 => (simp only [List.getElem_toArray, List.getElem_cons_succ, List.getElem_cons_zero]; first | (go_simp; with_reducible rfl) | (go_simp; done) | rfl)
  simp only [List.getElem_toArray, List.getElem_cons_succ, List.getElem_cons_zero, Act.put, List.setIfInBounds_toArray, List.set_cons_zero, List.set_cons_succ]
  -- 17: Op.load 23 (Operand.tmp 20)
  refine' anyZ_take (i := 17) (v := _) rfl (by rfl) (by kernel_rfl) (by kernel_rfl) (by kernel_rfl) hcl12 5 (by kernel_rfl) (by kernel_rfl) (fun _ _ _ h => h) (Or.inl ⟨by rfl, fun w hSw => ?h13⟩) hHeld (fun hcl13 => ?r13)
  case h13 => (simp only [List.getElem_toArray, List.getElem_cons_succ, List.getElem_cons_zero]; obtain ⟨hS1, hS2, hS3, hS4, hS5⟩ := hSw; first | (go_simp; with_reducible rfl) | (go_simp; done) | rfl)
  simp only [List.getElem_toArray, List.getElem_cons_succ, List.getElem_cons_zero, Act.put, List.setIfInBounds_toArray, List.set_cons_zero, List.set_cons_succ]
  -- 18: Op.call { callee := Callee.builtin Builtin.len, args := #[Op
  refine' anyZ_pure (i := 18) (v := _) rfl (by rfl) (by kernel_rfl) (by kernel_rfl) (by kernel_rfl) hcl13 (fun _ _ _ h => h) (Or.inl ⟨by rfl, fun w _ => ?h14⟩) (fun _ => hHeld) (fun hcl14 => ?r14)
  case h14 => (simp only [List.getElem_toArray, List.getElem_cons_succ, List.getElem_cons_zero]; first | (go_simp; with_reducible rfl) | (go_simp; done) | rfl)
  simp only [List.getElem_toArray, List.getElem_cons_succ, List.getElem_cons_zero, Act.put, List.setIfInBounds_toArray, List.set_cons_zero, List.set_cons_succ]
  -- 19: Op.convert 3 57 (Operand.tmp 22)
  refine' anyZ_pure (i := 19) (v := _) rfl (by rfl) (by kernel_rfl) (by kernel_rfl) (by kernel_rfl) hcl14 (fun _ _ _ h => h) (Or.inl ⟨by rfl, fun w _ => ?h15⟩) (fun _ => hHeld) (fun hcl15 => ?r15)
  case h15 => (simp only [List.getElem_toArray, List.getElem_cons_succ, List.getElem_cons_zero]; first | (go_simp; with_reducible rfl) | (go_simp; done) | rfl)
  simp only [List.getElem_toArray, List.getElem_cons_succ, List.getElem_cons_zero, Act.put, List.setIfInBounds_toArray, List.set_cons_zero, List.set_cons_succ]
  -- 21: Op.fieldAddr 34 (Operand.tmp 1) 4
  refine' anyZ_pure (i := 21) (v := _) rfl (by rfl) (by kernel_rfl) (by kernel_rfl) (by kernel_rfl) hcl15 (fun _ _ _ h => h) (Or.inl ⟨by rfl, fun w _ => ?h16⟩) (fun _ => hHeld) (fun hcl16 => ?r16)
  case h16 => (simp only [List.getElem_toArray, List.getElem_cons_succ, List.getElem_cons_zero]; first | (go_simp; with_reducible rfl) | (go_simp; done) | rfl)
  simp only [List.getElem_toArray, List.getElem_cons_succ, List.getElem_cons_zero, Act.put, List.setIfInBounds_toArray, List.set_cons_zero, List.set_cons_succ]
  -- 22: Op.load 23 (Operand.tmp 25)
  refine' anyZ_take (i := 22) (v := _) rfl (by rfl) (by kernel_rfl) (by kernel_rfl) (by kernel_rfl) hcl16 5 (by kernel_rfl) (by kernel_rfl) (fun _ _ _ h => h) (Or.inl ⟨by rfl, fun w hSw => ?h17⟩) hHeld (fun hcl17 => ?r17)
  case h17 => (simp only [List.getElem_toArray, List.getElem_cons_succ, List.getElem_cons_zero]; obtain ⟨hS1, hS2, hS3, hS4, hS5⟩ := hSw; first | (go_simp; with_reducible rfl) | (go_simp; done) | rfl)
  simp only [List.getElem_toArray, List.getElem_cons_succ, List.getElem_cons_zero, Act.put, List.setIfInBounds_toArray, List.set_cons_zero, List.set_cons_succ]
  refine anyZ_cast (listed' := #[false, true, true, true, false, true, true, true, false, true, true, true, false, true, true, false, true, true, true, true, false, true, true, false, false, false]) (by kernel_rfl) ?_
  refine anyZ_name (fun T Wp R HT HR Hop HE => ?_)
  generalize hA : Act.mk _ _ = A
  have E7 : A.eval (.tmp 7) = .int .u64 p.gen := by rw [← hA]; exact congrArg (Value.int .u64) (wrap64 p.gen (by omega))
  have E11 : A.eval (.tmp 11) = .int .u64 p.serial := by rw [← hA]; exact congrArg (Value.int .u64) (wrap64 p.serial (by omega))
  have E15 : A.eval (.tmp 15) = .int .u64 p.number := by rw [← hA]; exact congrArg (Value.int .u64) (wrap64 p.number (by omega))
  have E18 : A.eval (.tmp 18) = .int .u8 p.kind := by rw [← hA]; rfl
  have E23 : A.eval (.tmp 23) = .int .u64 p.data.length := by rw [← hA]; exact congrArg (Value.int .u64) (wrap64 p.data.length (by omega))
  have HA := Lib.hid hA
  clear hA
  have M0 : ∀ (a : Act) (w1 : World) (K : Act → World → Prop), (∀ ad c w2, Bytes w2 (.slice ad 2 c) mark → Below w1.heap.size w1 w2 → K (a.put (some 4) (.slice ad 2 c)) w2) → Wp 0 K a w1 := by
    intro a w1 K hK
    refine Hop 0 _ a w1 K (by simp only [List.getElem?_toArray, List.getElem?_cons_zero]; rfl) rfl ?_
    go_simp
    refine hK _ _ _ (own8_lit _ w1 _ mark 2 ?_ rfl (by simp [mark, maxLen])).bytes (bal (bre w1) _)
    rfl
  have M4 : ∀ (a : Act) (w1 : World) (K : Act → World → Prop), a.eval (.tmp 7) = .int .u64 p.gen → (∀ ad c w2, Bytes w2 (.slice ad 4 c) (bes 4 p.gen) → Below w1.heap.size w1 w2 → K (a.put (some 8) (.slice ad 4 c)) w2) → Wp 4 K a w1 := by
    intro a w1 K he hK
    exact Hop 4 _ a w1 K (by simp only [List.getElem?_toArray, List.getElem?_cons_succ, List.getElem?_cons_zero]; rfl) rfl (rnum_step 7 8 p.gen 4 (by omega) (by omega) (by omega) _ a w1 K _ rfl rfl he hK)
  have M8 : ∀ (a : Act) (w1 : World) (K : Act → World → Prop), a.eval (.tmp 11) = .int .u64 p.serial → (∀ ad c w2, Bytes w2 (.slice ad 4 c) (bes 4 p.serial) → Below w1.heap.size w1 w2 → K (a.put (some 12) (.slice ad 4 c)) w2) → Wp 8 K a w1 := by
    intro a w1 K he hK
    exact Hop 8 _ a w1 K (by simp only [List.getElem?_toArray, List.getElem?_cons_succ, List.getElem?_cons_zero]; rfl) rfl (rnum_step 11 12 p.serial 4 (by omega) (by omega) (by omega) _ a w1 K _ rfl rfl he hK)
  have M12 : ∀ (a : Act) (w1 : World) (K : Act → World → Prop), a.eval (.tmp 15) = .int .u64 p.number → (∀ ad c w2, Bytes w2 (.slice ad 4 c) (bes 4 p.number) → Below w1.heap.size w1 w2 → K (a.put (some 16) (.slice ad 4 c)) w2) → Wp 12 K a w1 := by
    intro a w1 K he hK
    exact Hop 12 _ a w1 K (by simp only [List.getElem?_toArray, List.getElem?_cons_succ, List.getElem?_cons_zero]; rfl) rfl (rnum_step 15 16 p.number 4 (by omega) (by omega) (by omega) _ a w1 K _ rfl rfl he hK)
  have M20 : ∀ (a : Act) (w1 : World) (K : Act → World → Prop), a.eval (.tmp 23) = .int .u64 p.data.length → (∀ ad c w2, Bytes w2 (.slice ad 2 c) (bes 2 p.data.length) → Below w1.heap.size w1 w2 → K (a.put (some 24) (.slice ad 2 c)) w2) → Wp 20 K a w1 := by
    intro a w1 K he hK
    exact Hop 20 _ a w1 K (by simp only [List.getElem?_toArray, List.getElem?_cons_succ, List.getElem?_cons_zero]; rfl) rfl (rnum_step 23 24 p.data.length 2 (by omega) (by omega) (by omega) _ a w1 K _ rfl rfl he hK)
  have M15 : ∀ (a : Act) (w1 : World) (K : Act → World → Prop), a.eval (.tmp 18) = .int .u8 p.kind → (∀ ad c w2, Bytes w2 (.slice ad 1 c) [UInt8.ofNat p.kind] → Below w1.heap.size w1 w2 → K (a.put (some 19) (.slice ad 1 c)) w2) → Wp 15 K a w1 := by
    intro a w1 K e1 hK
    simp only [Act.eval, Array.getD_eq_getD_getElem?] at e1
    refine Hop 15 _ a w1 K (by simp only [List.getElem?_toArray, List.getElem?_cons_succ, List.getElem?_cons_zero]; rfl) rfl ?_
    go_simp
    refine hK _ _ _ (own8_lit _ w1 _ [UInt8.ofNat p.kind] 1 ?_ rfl (by simp [maxLen])).bytes (bal (bre w1) _)
    simp only [List.map_cons, List.map_nil]
    rw [B8_ofNat _ o4]
  clear Hop
  have st0_4_8_12_15_20_ : ∀ (a4 : Option Addr) (c4 : Nat) (a8 : Option Addr) (c8 : Nat) (a12 : Option Addr) (c12 : Nat) (a16 : Option Addr) (c16 : Nat) (a19 : Option Addr) (c19 : Nat) (a24 : Option Addr) (c24 : Nat) (w1 : World), Below W.heap.size W w1 → Bytes w1 (.slice a4 2 c4) mark → Bytes w1 (.slice a8 4 c8) (bes 4 p.gen) → Bytes w1 (.slice a12 4 c12) (bes 4 p.serial) → Bytes w1 (.slice a16 4 c16) (bes 4 p.number) → Bytes w1 (.slice a19 1 c19) [UInt8.ofNat p.kind] → Bytes w1 (.slice a24 2 c24) (bes 2 p.data.length) → T 3 #[true, true, true, true, true, true, true, true, true, true, true, true, true, true, true, true, true, true, true, true, true, true, true, false, false, false] ((((((A.put (some 4) (.slice a4 2 c4)).put (some 8) (.slice a8 4 c8)).put (some 12) (.slice a12 4 c12)).put (some 16) (.slice a16 4 c16)).put (some 19) (.slice a19 1 c19)).put (some 24) (.slice a24 2 c24)) w1 := by
    intro a4 c4 a8 c8 a12 c12 a16 c16 a19 c19 a24 c24 w1 hb f4 f8 f12 f16 f19 f24
    refine HE _ _ _ _ (anyZ_chain_at (by kernel_rfl) ?_)
    simp only [List.drop_succ_cons, List.drop_zero]
    rw [← HA.out]
    simp only [Act.put, List.setIfInBounds_toArray, List.set_cons_zero, List.set_cons_succ]
    obtain ⟨q, hq⟩ : ∃ q, q = [mark, bes 4 p.gen, bes 4 p.serial, bes 4 p.number, [UInt8.ofNat p.kind], bes 2 p.data.length, p.data].flatten := ⟨_, rfl⟩
    have hql : q = p.head ++ p.data := by
      rw [hq]
      unfold Pg.head
      rw [bes_four, bes_four, bes_four, bes_two]
      simp [List.append_assoc]
    have hqn : q.length = 17 + p.data.length := by rw [hql, List.length_append, head_length]
    have hrow : ∀ (j : Nat) (v : Value) (l : List UInt8), [Value.slice a4 2 c4, .slice a8 4 c8, .slice a12 4 c12, .slice a16 4 c16, .slice a19 1 c19, .slice a24 2 c24, .slice ad p.data.length cd][j]? = some v → [mark, bes 4 p.gen, bes 4 p.serial, bes 4 p.number, [UInt8.ofNat p.kind], bes 2 p.data.length, p.data][j]? = some l → Bytes w1 v l := by
      intro j v l h1 h2
      match j, h1, h2 with
      | 0, h1, h2 => cases h1; cases h2; exact f4
      | 1, h1, h2 => cases h1; cases h2; exact f8
      | 2, h1, h2 => cases h1; cases h2; exact f12
      | 3, h1, h2 => cases h1; cases h2; exact f16
      | 4, h1, h2 => cases h1; cases h2; exact f19
      | 5, h1, h2 => cases h1; cases h2; exact f24
      | 6, h1, h2 => cases h1; cases h2; exact HDW.out.below hb
      | j + 7, h1, h2 => cases h1
    have hrl := rows_lit w1 [Value.slice a4 2 c4, .slice a8 4 c8, .slice a12 4 c12, .slice a16 4 c16, .slice a19 1 c19, .slice a24 2 c24, .slice ad p.data.length cd] _ 23 w1.heap.size 7 rfl rfl rfl (by simp [maxLen]) hrow
    have HRL := Lib.hid hrl
    have HQ := Lib.hid hq
    have HQL := Lib.hid hql
    have HQN := Lib.hid hqn
    clear HT HR HE M0 M4 M8 M12 M15 M20 E7 E11 E15 E18 E23 f4 f8 f12 f16 f19 f24 hrow hrl hq hql hqn HSB
    go_wp2_with fail
    have hb2 := HB0.out.trans ((bal hb (.cells #[Value.slice a4 2 c4, .slice a8 4 c8, .slice a12 4 c12, .slice a16 4 c16, .slice a19 1 c19, .slice a24 2 c24, .slice ad p.data.length cd] 23)).mono HB0.out.size)
    have hrl := HRL.out
    generalize hW2 : w1.alloc (.cells #[Value.slice a4 2 c4, .slice a8 4 c8, .slice a12 4 c12, .slice a16 4 c16, .slice a19 1 c19, .slice a24 2 c24, .slice ad p.data.length cd] 23) = W2 at *
    refine (join_any _ _ W2 (by first | exact hrl | (rw [← hW2]; exact HRL.out)) (by rw [← HQ.out, HQN.out]; omega)).mono ?_
    rintro e w3 ⟨v3, rfl, ho3, hb3⟩
    rw [← HQ.out] at ho3
    have hb03 := hb2.trans (hb3.mono hb2.size)
    have HO3 := Lib.hid ho3
    have HB03 := Lib.hid hb03
    obtain ⟨a3, n3, c3, rfl⟩ := ho3.isSlice
    clear ho3 hb3 hb2 hb03 hrl hb HRL
    go_wp2_with (refine wpList_make8 rfl _ _ 23 5 make8 rfl 508 rfl rfl (by omega) (fun w4 how hbw => ?_))
    have hb04 := HB03.out.trans (hbw.mono HB03.out.size)
    have hy4 := HO3.out.bytes.below hbw
    have hrl := rows_lit2 w4 (.slice a3 n3 c3) (.slice (some ⟨w3.heap.size, 0, none⟩) 508 508) q (List.replicate 508 0) 23 w4.heap.size rfl hy4 how.bytes
    generalize w3.heap.size = z4 at *
    have HRL := Lib.hid hrl
    have HB04 := Lib.hid hb04
    clear how hbw hy4 hb04 hrl
    go_wp2_with fail
    have hb5 := HB04.out.trans ((bal (bre w4) (.cells #[.slice a3 n3 c3, .slice (some ⟨z4, 0, none⟩) 508 508] 23)).mono HB04.out.size)
    have hrl := HRL.out
    generalize w4.alloc (.cells #[.slice a3 n3 c3, .slice (some ⟨z4, 0, none⟩) 508 508] 23) = w5 at *
    refine (join_any _ [q, List.replicate 508 0] w5 hrl (by simp [HQN.out]; omega)).mono ?_
    rintro e w6 ⟨v6, rfl, ho6, hb6⟩
    have hb06 := hb5.trans (hb6.mono hb5.size)
    have HB06 := Lib.hid hb06
    have HO6 := Lib.hid ho6.bytes
    clear hb5 hb6 ho6 hb06 hrl HRL
    go_wp2_with fail
    refine (cut_any v6 _ 508 (by omega) (by omega) w6 HO6.out).mono ?_
    rintro e w7 ⟨v7, rfl, ho7, hb7⟩
    have hraw : ([q, List.replicate 508 0].flatten).take (508 : Int).toNat = p.raw := by
      rw [show (508 : Int).toNat = 508 by rfl, HQL.out]
      unfold Pg.raw
      simp only [List.flatten_cons, List.flatten_nil, List.append_nil]
      rw [List.take_append, List.take_of_length_le (by rw [List.length_append, head_length]; omega), List.take_replicate, List.length_append, head_length]
      congr 2
      omega
    rw [hraw] at ho7
    have hb07 := HB06.out.trans (hb7.mono HB06.out.size)
    have HB07 := Lib.hid hb07
    have HO7 := Lib.hid ho7.bytes
    have hrl := raw_length p hd
    have HRL := Lib.hid hrl
    clear ho7 hb7 hb07 hraw hrl
    go_wp2_with fail
    refine (rseal_any v7 p.raw w7 HO7.out (by rw [HRL.out]; omega)).mono ?_
    rintro e w8 ⟨v8, rfl, ho8, hb8⟩
    have ho9 := ownsRow_base (base' := w.heap.size) ho8 HB07.out.size
    have hb08 := HB07.out.trans (hb8.mono HB07.out.size)
    have HO9 := Lib.hid ho9
    have HB08 := Lib.hid hb08
    clear ho8 hb8 ho9 hb08
    go_wp2
    go_ret
    exact ⟨v8, rfl, HO9.out, HB08.out⟩
  have st0_4_8_12_20_ : ∀ (a4 : Option Addr) (c4 : Nat) (a8 : Option Addr) (c8 : Nat) (a12 : Option Addr) (c12 : Nat) (a16 : Option Addr) (c16 : Nat) (a24 : Option Addr) (c24 : Nat) (w1 : World), Below W.heap.size W w1 → Bytes w1 (.slice a4 2 c4) mark → Bytes w1 (.slice a8 4 c8) (bes 4 p.gen) → Bytes w1 (.slice a12 4 c12) (bes 4 p.serial) → Bytes w1 (.slice a16 4 c16) (bes 4 p.number) → Bytes w1 (.slice a24 2 c24) (bes 2 p.data.length) → T 4 #[true, true, true, true, true, true, true, true, true, true, true, true, true, true, true, false, true, true, true, true, true, true, true, false, false, false] (((((A.put (some 4) (.slice a4 2 c4)).put (some 8) (.slice a8 4 c8)).put (some 12) (.slice a12 4 c12)).put (some 16) (.slice a16 4 c16)).put (some 24) (.slice a24 2 c24)) w1 := by
    intro a4 c4 a8 c8 a12 c12 a16 c16 a24 c24 w1 hb f4 f8 f12 f16 f24
    refine HT _ _ _ _ [15] (by rw [HR]; kernel_rfl) (by decide) ?_
    refine List.forall_mem_cons.2 ⟨?_, fun _ h => by cases h⟩
    · refine M15 _ _ _ (by rw [eval_put _ 24 18 _ (by decide), eval_put _ 16 18 _ (by decide), eval_put _ 12 18 _ (by decide), eval_put _ 8 18 _ (by decide), eval_put _ 4 18 _ (by decide)]; exact E18) (fun a19 c19 w2 hf hb2 => ⟨fun _ => HSB.out w2 (btr hb hb2), ?_⟩)
      rw [show (#[true, true, true, true, true, true, true, true, true, true, true, true, true, true, true, false, true, true, true, true, true, true, true, false, false, false] : Array Bool).setIfInBounds 15 true = #[true, true, true, true, true, true, true, true, true, true, true, true, true, true, true, true, true, true, true, true, true, true, true, false, false, false] from by kernel_rfl, put_swap _ 24 19 _ _ (by decide)]
      exact st0_4_8_12_15_20_ a4 c4 a8 c8 a12 c12 a16 c16 a19 c19 a24 c24 w2 (btr hb hb2) (f4.below hb2) (f8.below hb2) (f12.below hb2) (f16.below hb2) hf (f24.below hb2)
  have st4_8_12_15_20_ : ∀ (a8 : Option Addr) (c8 : Nat) (a12 : Option Addr) (c12 : Nat) (a16 : Option Addr) (c16 : Nat) (a19 : Option Addr) (c19 : Nat) (a24 : Option Addr) (c24 : Nat) (w1 : World), Below W.heap.size W w1 → Bytes w1 (.slice a8 4 c8) (bes 4 p.gen) → Bytes w1 (.slice a12 4 c12) (bes 4 p.serial) → Bytes w1 (.slice a16 4 c16) (bes 4 p.number) → Bytes w1 (.slice a19 1 c19) [UInt8.ofNat p.kind] → Bytes w1 (.slice a24 2 c24) (bes 2 p.data.length) → T 4 #[false, true, true, true, true, true, true, true, true, true, true, true, true, true, true, true, true, true, true, true, true, true, true, false, false, false] (((((A.put (some 8) (.slice a8 4 c8)).put (some 12) (.slice a12 4 c12)).put (some 16) (.slice a16 4 c16)).put (some 19) (.slice a19 1 c19)).put (some 24) (.slice a24 2 c24)) w1 := by
    intro a8 c8 a12 c12 a16 c16 a19 c19 a24 c24 w1 hb f8 f12 f16 f19 f24
    refine HT _ _ _ _ [0] (by rw [HR]; kernel_rfl) (by decide) ?_
    refine List.forall_mem_cons.2 ⟨?_, fun _ h => by cases h⟩
    · refine M0 _ _ _  (fun a4 c4 w2 hf hb2 => ⟨fun _ => HSB.out w2 (btr hb hb2), ?_⟩)
      rw [show (#[false, true, true, true, true, true, true, true, true, true, true, true, true, true, true, true, true, true, true, true, true, true, true, false, false, false] : Array Bool).setIfInBounds 0 true = #[true, true, true, true, true, true, true, true, true, true, true, true, true, true, true, true, true, true, true, true, true, true, true, false, false, false] from by kernel_rfl, put_swap _ 24 4 _ _ (by decide), put_swap _ 19 4 _ _ (by decide), put_swap _ 16 4 _ _ (by decide), put_swap _ 12 4 _ _ (by decide), put_swap _ 8 4 _ _ (by decide)]
      exact st0_4_8_12_15_20_ a4 c4 a8 c8 a12 c12 a16 c16 a19 c19 a24 c24 w2 (btr hb hb2) hf (f8.below hb2) (f12.below hb2) (f16.below hb2) (f19.below hb2) (f24.below hb2)
  have st0_4_8_12_15_ : ∀ (a4 : Option Addr) (c4 : Nat) (a8 : Option Addr) (c8 : Nat) (a12 : Option Addr) (c12 : Nat) (a16 : Option Addr) (c16 : Nat) (a19 : Option Addr) (c19 : Nat) (w1 : World), Below W.heap.size W w1 → Bytes w1 (.slice a4 2 c4) mark → Bytes w1 (.slice a8 4 c8) (bes 4 p.gen) → Bytes w1 (.slice a12 4 c12) (bes 4 p.serial) → Bytes w1 (.slice a16 4 c16) (bes 4 p.number) → Bytes w1 (.slice a19 1 c19) [UInt8.ofNat p.kind] → T 4 #[true, true, true, true, true, true, true, true, true, true, true, true, true, true, true, true, true, true, true, true, false, true, true, false, false, false] (((((A.put (some 4) (.slice a4 2 c4)).put (some 8) (.slice a8 4 c8)).put (some 12) (.slice a12 4 c12)).put (some 16) (.slice a16 4 c16)).put (some 19) (.slice a19 1 c19)) w1 := by
    intro a4 c4 a8 c8 a12 c12 a16 c16 a19 c19 w1 hb f4 f8 f12 f16 f19
    refine HT _ _ _ _ [20] (by rw [HR]; kernel_rfl) (by decide) ?_
    refine List.forall_mem_cons.2 ⟨?_, fun _ h => by cases h⟩
    · refine M20 _ _ _ (by rw [eval_put _ 19 23 _ (by decide), eval_put _ 16 23 _ (by decide), eval_put _ 12 23 _ (by decide), eval_put _ 8 23 _ (by decide), eval_put _ 4 23 _ (by decide)]; exact E23) (fun a24 c24 w2 hf hb2 => ⟨fun _ => HSB.out w2 (btr hb hb2), ?_⟩)
      rw [show (#[true, true, true, true, true, true, true, true, true, true, true, true, true, true, true, true, true, true, true, true, false, true, true, false, false, false] : Array Bool).setIfInBounds 20 true = #[true, true, true, true, true, true, true, true, true, true, true, true, true, true, true, true, true, true, true, true, true, true, true, false, false, false] from by kernel_rfl]
      exact st0_4_8_12_15_20_ a4 c4 a8 c8 a12 c12 a16 c16 a19 c19 a24 c24 w2 (btr hb hb2) (f4.below hb2) (f8.below hb2) (f12.below hb2) (f16.below hb2) (f19.below hb2) hf
  have st4_8_12_20_ : ∀ (a8 : Option Addr) (c8 : Nat) (a12 : Option Addr) (c12 : Nat) (a16 : Option Addr) (c16 : Nat) (a24 : Option Addr) (c24 : Nat) (w1 : World), Below W.heap.size W w1 → Bytes w1 (.slice a8 4 c8) (bes 4 p.gen) → Bytes w1 (.slice a12 4 c12) (bes 4 p.serial) → Bytes w1 (.slice a16 4 c16) (bes 4 p.number) → Bytes w1 (.slice a24 2 c24) (bes 2 p.data.length) → T 5 #[false, true, true, true, true, true, true, true, true, true, true, true, true, true, true, false, true, true, true, true, true, true, true, false, false, false] ((((A.put (some 8) (.slice a8 4 c8)).put (some 12) (.slice a12 4 c12)).put (some 16) (.slice a16 4 c16)).put (some 24) (.slice a24 2 c24)) w1 := by
    intro a8 c8 a12 c12 a16 c16 a24 c24 w1 hb f8 f12 f16 f24
    refine HT _ _ _ _ [0, 15] (by rw [HR]; kernel_rfl) (by decide) ?_
    refine List.forall_mem_cons.2 ⟨?_, List.forall_mem_cons.2 ⟨?_, fun _ h => by cases h⟩⟩
    · refine M0 _ _ _  (fun a4 c4 w2 hf hb2 => ⟨fun _ => HSB.out w2 (btr hb hb2), ?_⟩)
      rw [show (#[false, true, true, true, true, true, true, true, true, true, true, true, true, true, true, false, true, true, true, true, true, true, true, false, false, false] : Array Bool).setIfInBounds 0 true = #[true, true, true, true, true, true, true, true, true, true, true, true, true, true, true, false, true, true, true, true, true, true, true, false, false, false] from by kernel_rfl, put_swap _ 24 4 _ _ (by decide), put_swap _ 16 4 _ _ (by decide), put_swap _ 12 4 _ _ (by decide), put_swap _ 8 4 _ _ (by decide)]
      exact st0_4_8_12_20_ a4 c4 a8 c8 a12 c12 a16 c16 a24 c24 w2 (btr hb hb2) hf (f8.below hb2) (f12.below hb2) (f16.below hb2) (f24.below hb2)
    · refine M15 _ _ _ (by rw [eval_put _ 24 18 _ (by decide), eval_put _ 16 18 _ (by decide), eval_put _ 12 18 _ (by decide), eval_put _ 8 18 _ (by decide)]; exact E18) (fun a19 c19 w2 hf hb2 => ⟨fun _ => HSB.out w2 (btr hb hb2), ?_⟩)
      rw [show (#[false, true, true, true, true, true, true, true, true, true, true, true, true, true, true, false, true, true, true, true, true, true, true, false, false, false] : Array Bool).setIfInBounds 15 true = #[false, true, true, true, true, true, true, true, true, true, true, true, true, true, true, true, true, true, true, true, true, true, true, false, false, false] from by kernel_rfl, put_swap _ 24 19 _ _ (by decide)]
      exact st4_8_12_15_20_ a8 c8 a12 c12 a16 c16 a19 c19 a24 c24 w2 (btr hb hb2) (f8.below hb2) (f12.below hb2) (f16.below hb2) hf (f24.below hb2)
  have st0_4_8_15_ : ∀ (a4 : Option Addr) (c4 : Nat) (a8 : Option Addr) (c8 : Nat) (a12 : Option Addr) (c12 : Nat) (a19 : Option Addr) (c19 : Nat) (w1 : World), Below W.heap.size W w1 → Bytes w1 (.slice a4 2 c4) mark → Bytes w1 (.slice a8 4 c8) (bes 4 p.gen) → Bytes w1 (.slice a12 4 c12) (bes 4 p.serial) → Bytes w1 (.slice a19 1 c19) [UInt8.ofNat p.kind] → T 5 #[true, true, true, true, true, true, true, true, true, true, true, true, false, true, true, true, true, true, true, true, false, true, true, false, false, false] ((((A.put (some 4) (.slice a4 2 c4)).put (some 8) (.slice a8 4 c8)).put (some 12) (.slice a12 4 c12)).put (some 19) (.slice a19 1 c19)) w1 := by
    intro a4 c4 a8 c8 a12 c12 a19 c19 w1 hb f4 f8 f12 f19
    refine HT _ _ _ _ [12] (by rw [HR]; kernel_rfl) (by decide) ?_
    refine List.forall_mem_cons.2 ⟨?_, fun _ h => by cases h⟩
    · refine M12 _ _ _ (by rw [eval_put _ 19 15 _ (by decide), eval_put _ 12 15 _ (by decide), eval_put _ 8 15 _ (by decide), eval_put _ 4 15 _ (by decide)]; exact E15) (fun a16 c16 w2 hf hb2 => ⟨fun _ => HSB.out w2 (btr hb hb2), ?_⟩)
      rw [show (#[true, true, true, true, true, true, true, true, true, true, true, true, false, true, true, true, true, true, true, true, false, true, true, false, false, false] : Array Bool).setIfInBounds 12 true = #[true, true, true, true, true, true, true, true, true, true, true, true, true, true, true, true, true, true, true, true, false, true, true, false, false, false] from by kernel_rfl, put_swap _ 19 16 _ _ (by decide)]
      exact st0_4_8_12_15_ a4 c4 a8 c8 a12 c12 a16 c16 a19 c19 w2 (btr hb hb2) (f4.below hb2) (f8.below hb2) (f12.below hb2) hf (f19.below hb2)
  have st4_8_12_15_ : ∀ (a8 : Option Addr) (c8 : Nat) (a12 : Option Addr) (c12 : Nat) (a16 : Option Addr) (c16 : Nat) (a19 : Option Addr) (c19 : Nat) (w1 : World), Below W.heap.size W w1 → Bytes w1 (.slice a8 4 c8) (bes 4 p.gen) → Bytes w1 (.slice a12 4 c12) (bes 4 p.serial) → Bytes w1 (.slice a16 4 c16) (bes 4 p.number) → Bytes w1 (.slice a19 1 c19) [UInt8.ofNat p.kind] → T 5 #[false, true, true, true, true, true, true, true, true, true, true, true, true, true, true, true, true, true, true, true, false, true, true, false, false, false] ((((A.put (some 8) (.slice a8 4 c8)).put (some 12) (.slice a12 4 c12)).put (some 16) (.slice a16 4 c16)).put (some 19) (.slice a19 1 c19)) w1 := by
    intro a8 c8 a12 c12 a16 c16 a19 c19 w1 hb f8 f12 f16 f19
    refine HT _ _ _ _ [0, 20] (by rw [HR]; kernel_rfl) (by decide) ?_
    refine List.forall_mem_cons.2 ⟨?_, List.forall_mem_cons.2 ⟨?_, fun _ h => by cases h⟩⟩
    · refine M0 _ _ _  (fun a4 c4 w2 hf hb2 => ⟨fun _ => HSB.out w2 (btr hb hb2), ?_⟩)
      rw [show (#[false, true, true, true, true, true, true, true, true, true, true, true, true, true, true, true, true, true, true, true, false, true, true, false, false, false] : Array Bool).setIfInBounds 0 true = #[true, true, true, true, true, true, true, true, true, true, true, true, true, true, true, true, true, true, true, true, false, true, true, false, false, false] from by kernel_rfl, put_swap _ 19 4 _ _ (by decide), put_swap _ 16 4 _ _ (by decide), put_swap _ 12 4 _ _ (by decide), put_swap _ 8 4 _ _ (by decide)]
      exact st0_4_8_12_15_ a4 c4 a8 c8 a12 c12 a16 c16 a19 c19 w2 (btr hb hb2) hf (f8.below hb2) (f12.below hb2) (f16.below hb2) (f19.below hb2)
    · refine M20 _ _ _ (by rw [eval_put _ 19 23 _ (by decide), eval_put _ 16 23 _ (by decide), eval_put _ 12 23 _ (by decide), eval_put _ 8 23 _ (by decide)]; exact E23) (fun a24 c24 w2 hf hb2 => ⟨fun _ => HSB.out w2 (btr hb hb2), ?_⟩)
      rw [show (#[false, true, true, true, true, true, true, true, true, true, true, true, true, true, true, true, true, true, true, true, false, true, true, false, false, false] : Array Bool).setIfInBounds 20 true = #[false, true, true, true, true, true, true, true, true, true, true, true, true, true, true, true, true, true, true, true, true, true, true, false, false, false] from by kernel_rfl]
      exact st4_8_12_15_20_ a8 c8 a12 c12 a16 c16 a19 c19 a24 c24 w2 (btr hb hb2) (f8.below hb2) (f12.below hb2) (f16.below hb2) (f19.below hb2) hf
  have st0_4_8_12_ : ∀ (a4 : Option Addr) (c4 : Nat) (a8 : Option Addr) (c8 : Nat) (a12 : Option Addr) (c12 : Nat) (a16 : Option Addr) (c16 : Nat) (w1 : World), Below W.heap.size W w1 → Bytes w1 (.slice a4 2 c4) mark → Bytes w1 (.slice a8 4 c8) (bes 4 p.gen) → Bytes w1 (.slice a12 4 c12) (bes 4 p.serial) → Bytes w1 (.slice a16 4 c16) (bes 4 p.number) → T 5 #[true, true, true, true, true, true, true, true, true, true, true, true, true, true, true, false, true, true, true, true, false, true, true, false, false, false] ((((A.put (some 4) (.slice a4 2 c4)).put (some 8) (.slice a8 4 c8)).put (some 12) (.slice a12 4 c12)).put (some 16) (.slice a16 4 c16)) w1 := by
    intro a4 c4 a8 c8 a12 c12 a16 c16 w1 hb f4 f8 f12 f16
    refine HT _ _ _ _ [15, 20] (by rw [HR]; kernel_rfl) (by decide) ?_
    refine List.forall_mem_cons.2 ⟨?_, List.forall_mem_cons.2 ⟨?_, fun _ h => by cases h⟩⟩
    · refine M15 _ _ _ (by rw [eval_put _ 16 18 _ (by decide), eval_put _ 12 18 _ (by decide), eval_put _ 8 18 _ (by decide), eval_put _ 4 18 _ (by decide)]; exact E18) (fun a19 c19 w2 hf hb2 => ⟨fun _ => HSB.out w2 (btr hb hb2), ?_⟩)
      rw [show (#[true, true, true, true, true, true, true, true, true, true, true, true, true, true, true, false, true, true, true, true, false, true, true, false, false, false] : Array Bool).setIfInBounds 15 true = #[true, true, true, true, true, true, true, true, true, true, true, true, true, true, true, true, true, true, true, true, false, true, true, false, false, false] from by kernel_rfl]
      exact st0_4_8_12_15_ a4 c4 a8 c8 a12 c12 a16 c16 a19 c19 w2 (btr hb hb2) (f4.below hb2) (f8.below hb2) (f12.below hb2) (f16.below hb2) hf
    · refine M20 _ _ _ (by rw [eval_put _ 16 23 _ (by decide), eval_put _ 12 23 _ (by decide), eval_put _ 8 23 _ (by decide), eval_put _ 4 23 _ (by decide)]; exact E23) (fun a24 c24 w2 hf hb2 => ⟨fun _ => HSB.out w2 (btr hb hb2), ?_⟩)
      rw [show (#[true, true, true, true, true, true, true, true, true, true, true, true, true, true, true, false, true, true, true, true, false, true, true, false, false, false] : Array Bool).setIfInBounds 20 true = #[true, true, true, true, true, true, true, true, true, true, true, true, true, true, true, false, true, true, true, true, true, true, true, false, false, false] from by kernel_rfl]
      exact st0_4_8_12_20_ a4 c4 a8 c8 a12 c12 a16 c16 a24 c24 w2 (btr hb hb2) (f4.below hb2) (f8.below hb2) (f12.below hb2) (f16.below hb2) hf
  have st0_4_15_ : ∀ (a4 : Option Addr) (c4 : Nat) (a8 : Option Addr) (c8 : Nat) (a19 : Option Addr) (c19 : Nat) (w1 : World), Below W.heap.size W w1 → Bytes w1 (.slice a4 2 c4) mark → Bytes w1 (.slice a8 4 c8) (bes 4 p.gen) → Bytes w1 (.slice a19 1 c19) [UInt8.ofNat p.kind] → T 6 #[true, true, true, true, true, true, true, true, false, true, true, true, false, true, true, true, true, true, true, true, false, true, true, false, false, false] (((A.put (some 4) (.slice a4 2 c4)).put (some 8) (.slice a8 4 c8)).put (some 19) (.slice a19 1 c19)) w1 := by
    intro a4 c4 a8 c8 a19 c19 w1 hb f4 f8 f19
    refine HT _ _ _ _ [8] (by rw [HR]; kernel_rfl) (by decide) ?_
    refine List.forall_mem_cons.2 ⟨?_, fun _ h => by cases h⟩
    · refine M8 _ _ _ (by rw [eval_put _ 19 11 _ (by decide), eval_put _ 8 11 _ (by decide), eval_put _ 4 11 _ (by decide)]; exact E11) (fun a12 c12 w2 hf hb2 => ⟨fun _ => HSB.out w2 (btr hb hb2), ?_⟩)
      rw [show (#[true, true, true, true, true, true, true, true, false, true, true, true, false, true, true, true, true, true, true, true, false, true, true, false, false, false] : Array Bool).setIfInBounds 8 true = #[true, true, true, true, true, true, true, true, true, true, true, true, false, true, true, true, true, true, true, true, false, true, true, false, false, false] from by kernel_rfl, put_swap _ 19 12 _ _ (by decide)]
      exact st0_4_8_15_ a4 c4 a8 c8 a12 c12 a19 c19 w2 (btr hb hb2) (f4.below hb2) (f8.below hb2) hf (f19.below hb2)
  have st4_8_15_ : ∀ (a8 : Option Addr) (c8 : Nat) (a12 : Option Addr) (c12 : Nat) (a19 : Option Addr) (c19 : Nat) (w1 : World), Below W.heap.size W w1 → Bytes w1 (.slice a8 4 c8) (bes 4 p.gen) → Bytes w1 (.slice a12 4 c12) (bes 4 p.serial) → Bytes w1 (.slice a19 1 c19) [UInt8.ofNat p.kind] → T 6 #[false, true, true, true, true, true, true, true, true, true, true, true, false, true, true, true, true, true, true, true, false, true, true, false, false, false] (((A.put (some 8) (.slice a8 4 c8)).put (some 12) (.slice a12 4 c12)).put (some 19) (.slice a19 1 c19)) w1 := by
    intro a8 c8 a12 c12 a19 c19 w1 hb f8 f12 f19
    refine HT _ _ _ _ [0, 12] (by rw [HR]; kernel_rfl) (by decide) ?_
    refine List.forall_mem_cons.2 ⟨?_, List.forall_mem_cons.2 ⟨?_, fun _ h => by cases h⟩⟩
    · refine M0 _ _ _  (fun a4 c4 w2 hf hb2 => ⟨fun _ => HSB.out w2 (btr hb hb2), ?_⟩)
      rw [show (#[false, true, true, true, true, true, true, true, true, true, true, true, false, true, true, true, true, true, true, true, false, true, true, false, false, false] : Array Bool).setIfInBounds 0 true = #[true, true, true, true, true, true, true, true, true, true, true, true, false, true, true, true, true, true, true, true, false, true, true, false, false, false] from by kernel_rfl, put_swap _ 19 4 _ _ (by decide), put_swap _ 12 4 _ _ (by decide), put_swap _ 8 4 _ _ (by decide)]
      exact st0_4_8_15_ a4 c4 a8 c8 a12 c12 a19 c19 w2 (btr hb hb2) hf (f8.below hb2) (f12.below hb2) (f19.below hb2)
    · refine M12 _ _ _ (by rw [eval_put _ 19 15 _ (by decide), eval_put _ 12 15 _ (by decide), eval_put _ 8 15 _ (by decide)]; exact E15) (fun a16 c16 w2 hf hb2 => ⟨fun _ => HSB.out w2 (btr hb hb2), ?_⟩)
      rw [show (#[false, true, true, true, true, true, true, true, true, true, true, true, false, true, true, true, true, true, true, true, false, true, true, false, false, false] : Array Bool).setIfInBounds 12 true = #[false, true, true, true, true, true, true, true, true, true, true, true, true, true, true, true, true, true, true, true, false, true, true, false, false, false] from by kernel_rfl, put_swap _ 19 16 _ _ (by decide)]
      exact st4_8_12_15_ a8 c8 a12 c12 a16 c16 a19 c19 w2 (btr hb hb2) (f8.below hb2) (f12.below hb2) hf (f19.below hb2)
  have st4_8_12_ : ∀ (a8 : Option Addr) (c8 : Nat) (a12 : Option Addr) (c12 : Nat) (a16 : Option Addr) (c16 : Nat) (w1 : World), Below W.heap.size W w1 → Bytes w1 (.slice a8 4 c8) (bes 4 p.gen) → Bytes w1 (.slice a12 4 c12) (bes 4 p.serial) → Bytes w1 (.slice a16 4 c16) (bes 4 p.number) → T 6 #[false, true, true, true, true, true, true, true, true, true, true, true, true, true, true, false, true, true, true, true, false, true, true, false, false, false] (((A.put (some 8) (.slice a8 4 c8)).put (some 12) (.slice a12 4 c12)).put (some 16) (.slice a16 4 c16)) w1 := by
    intro a8 c8 a12 c12 a16 c16 w1 hb f8 f12 f16
    refine HT _ _ _ _ [0, 15, 20] (by rw [HR]; kernel_rfl) (by decide) ?_
    refine List.forall_mem_cons.2 ⟨?_, List.forall_mem_cons.2 ⟨?_, List.forall_mem_cons.2 ⟨?_, fun _ h => by cases h⟩⟩⟩
    · refine M0 _ _ _  (fun a4 c4 w2 hf hb2 => ⟨fun _ => HSB.out w2 (btr hb hb2), ?_⟩)
      rw [show (#[false, true, true, true, true, true, true, true, true, true, true, true, true, true, true, false, true, true, true, true, false, true, true, false, false, false] : Array Bool).setIfInBounds 0 true = #[true, true, true, true, true, true, true, true, true, true, true, true, true, true, true, false, true, true, true, true, false, true, true, false, false, false] from by kernel_rfl, put_swap _ 16 4 _ _ (by decide), put_swap _ 12 4 _ _ (by decide), put_swap _ 8 4 _ _ (by decide)]
      exact st0_4_8_12_ a4 c4 a8 c8 a12 c12 a16 c16 w2 (btr hb hb2) hf (f8.below hb2) (f12.below hb2) (f16.below hb2)
    · refine M15 _ _ _ (by rw [eval_put _ 16 18 _ (by decide), eval_put _ 12 18 _ (by decide), eval_put _ 8 18 _ (by decide)]; exact E18) (fun a19 c19 w2 hf hb2 => ⟨fun _ => HSB.out w2 (btr hb hb2), ?_⟩)
      rw [show (#[false, true, true, true, true, true, true, true, true, true, true, true, true, true, true, false, true, true, true, true, false, true, true, false, false, false] : Array Bool).setIfInBounds 15 true = #[false, true, true, true, true, true, true, true, true, true, true, true, true, true, true, true, true, true, true, true, false, true, true, false, false, false] from by kernel_rfl]
      exact st4_8_12_15_ a8 c8 a12 c12 a16 c16 a19 c19 w2 (btr hb hb2) (f8.below hb2) (f12.below hb2) (f16.below hb2) hf
    · refine M20 _ _ _ (by rw [eval_put _ 16 23 _ (by decide), eval_put _ 12 23 _ (by decide), eval_put _ 8 23 _ (by decide)]; exact E23) (fun a24 c24 w2 hf hb2 => ⟨fun _ => HSB.out w2 (btr hb hb2), ?_⟩)
      rw [show (#[false, true, true, true, true, true, true, true, true, true, true, true, true, true, true, false, true, true, true, true, false, true, true, false, false, false] : Array Bool).setIfInBounds 20 true = #[false, true, true, true, true, true, true, true, true, true, true, true, true, true, true, false, true, true, true, true, true, true, true, false, false, false] from by kernel_rfl]
      exact st4_8_12_20_ a8 c8 a12 c12 a16 c16 a24 c24 w2 (btr hb hb2) (f8.below hb2) (f12.below hb2) (f16.below hb2) hf
  have st0_4_8_ : ∀ (a4 : Option Addr) (c4 : Nat) (a8 : Option Addr) (c8 : Nat) (a12 : Option Addr) (c12 : Nat) (w1 : World), Below W.heap.size W w1 → Bytes w1 (.slice a4 2 c4) mark → Bytes w1 (.slice a8 4 c8) (bes 4 p.gen) → Bytes w1 (.slice a12 4 c12) (bes 4 p.serial) → T 6 #[true, true, true, true, true, true, true, true, true, true, true, true, false, true, true, false, true, true, true, true, false, true, true, false, false, false] (((A.put (some 4) (.slice a4 2 c4)).put (some 8) (.slice a8 4 c8)).put (some 12) (.slice a12 4 c12)) w1 := by
    intro a4 c4 a8 c8 a12 c12 w1 hb f4 f8 f12
    refine HT _ _ _ _ [12, 15] (by rw [HR]; kernel_rfl) (by decide) ?_
    refine List.forall_mem_cons.2 ⟨?_, List.forall_mem_cons.2 ⟨?_, fun _ h => by cases h⟩⟩
    · refine M12 _ _ _ (by rw [eval_put _ 12 15 _ (by decide), eval_put _ 8 15 _ (by decide), eval_put _ 4 15 _ (by decide)]; exact E15) (fun a16 c16 w2 hf hb2 => ⟨fun _ => HSB.out w2 (btr hb hb2), ?_⟩)
      rw [show (#[true, true, true, true, true, true, true, true, true, true, true, true, false, true, true, false, true, true, true, true, false, true, true, false, false, false] : Array Bool).setIfInBounds 12 true = #[true, true, true, true, true, true, true, true, true, true, true, true, true, true, true, false, true, true, true, true, false, true, true, false, false, false] from by kernel_rfl]
      exact st0_4_8_12_ a4 c4 a8 c8 a12 c12 a16 c16 w2 (btr hb hb2) (f4.below hb2) (f8.below hb2) (f12.below hb2) hf
    · refine M15 _ _ _ (by rw [eval_put _ 12 18 _ (by decide), eval_put _ 8 18 _ (by decide), eval_put _ 4 18 _ (by decide)]; exact E18) (fun a19 c19 w2 hf hb2 => ⟨fun _ => HSB.out w2 (btr hb hb2), ?_⟩)
      rw [show (#[true, true, true, true, true, true, true, true, true, true, true, true, false, true, true, false, true, true, true, true, false, true, true, false, false, false] : Array Bool).setIfInBounds 15 true = #[true, true, true, true, true, true, true, true, true, true, true, true, false, true, true, true, true, true, true, true, false, true, true, false, false, false] from by kernel_rfl]
      exact st0_4_8_15_ a4 c4 a8 c8 a12 c12 a19 c19 w2 (btr hb hb2) (f4.below hb2) (f8.below hb2) (f12.below hb2) hf
  have st0_4_ : ∀ (a4 : Option Addr) (c4 : Nat) (a8 : Option Addr) (c8 : Nat) (w1 : World), Below W.heap.size W w1 → Bytes w1 (.slice a4 2 c4) mark → Bytes w1 (.slice a8 4 c8) (bes 4 p.gen) → T 7 #[true, true, true, true, true, true, true, true, false, true, true, true, false, true, true, false, true, true, true, true, false, true, true, false, false, false] ((A.put (some 4) (.slice a4 2 c4)).put (some 8) (.slice a8 4 c8)) w1 := by
    intro a4 c4 a8 c8 w1 hb f4 f8
    refine HT _ _ _ _ [8, 15] (by rw [HR]; kernel_rfl) (by decide) ?_
    refine List.forall_mem_cons.2 ⟨?_, List.forall_mem_cons.2 ⟨?_, fun _ h => by cases h⟩⟩
    · refine M8 _ _ _ (by rw [eval_put _ 8 11 _ (by decide), eval_put _ 4 11 _ (by decide)]; exact E11) (fun a12 c12 w2 hf hb2 => ⟨fun _ => HSB.out w2 (btr hb hb2), ?_⟩)
      rw [show (#[true, true, true, true, true, true, true, true, false, true, true, true, false, true, true, false, true, true, true, true, false, true, true, false, false, false] : Array Bool).setIfInBounds 8 true = #[true, true, true, true, true, true, true, true, true, true, true, true, false, true, true, false, true, true, true, true, false, true, true, false, false, false] from by kernel_rfl]
      exact st0_4_8_ a4 c4 a8 c8 a12 c12 w2 (btr hb hb2) (f4.below hb2) (f8.below hb2) hf
    · refine M15 _ _ _ (by rw [eval_put _ 8 18 _ (by decide), eval_put _ 4 18 _ (by decide)]; exact E18) (fun a19 c19 w2 hf hb2 => ⟨fun _ => HSB.out w2 (btr hb hb2), ?_⟩)
      rw [show (#[true, true, true, true, true, true, true, true, false, true, true, true, false, true, true, false, true, true, true, true, false, true, true, false, false, false] : Array Bool).setIfInBounds 15 true = #[true, true, true, true, true, true, true, true, false, true, true, true, false, true, true, true, true, true, true, true, false, true, true, false, false, false] from by kernel_rfl]
      exact st0_4_15_ a4 c4 a8 c8 a19 c19 w2 (btr hb hb2) (f4.below hb2) (f8.below hb2) hf
  have st4_15_ : ∀ (a8 : Option Addr) (c8 : Nat) (a19 : Option Addr) (c19 : Nat) (w1 : World), Below W.heap.size W w1 → Bytes w1 (.slice a8 4 c8) (bes 4 p.gen) → Bytes w1 (.slice a19 1 c19) [UInt8.ofNat p.kind] → T 7 #[false, true, true, true, true, true, true, true, false, true, true, true, false, true, true, true, true, true, true, true, false, true, true, false, false, false] ((A.put (some 8) (.slice a8 4 c8)).put (some 19) (.slice a19 1 c19)) w1 := by
    intro a8 c8 a19 c19 w1 hb f8 f19
    refine HT _ _ _ _ [0, 8] (by rw [HR]; kernel_rfl) (by decide) ?_
    refine List.forall_mem_cons.2 ⟨?_, List.forall_mem_cons.2 ⟨?_, fun _ h => by cases h⟩⟩
    · refine M0 _ _ _  (fun a4 c4 w2 hf hb2 => ⟨fun _ => HSB.out w2 (btr hb hb2), ?_⟩)
      rw [show (#[false, true, true, true, true, true, true, true, false, true, true, true, false, true, true, true, true, true, true, true, false, true, true, false, false, false] : Array Bool).setIfInBounds 0 true = #[true, true, true, true, true, true, true, true, false, true, true, true, false, true, true, true, true, true, true, true, false, true, true, false, false, false] from by kernel_rfl, put_swap _ 19 4 _ _ (by decide), put_swap _ 8 4 _ _ (by decide)]
      exact st0_4_15_ a4 c4 a8 c8 a19 c19 w2 (btr hb hb2) hf (f8.below hb2) (f19.below hb2)
    · refine M8 _ _ _ (by rw [eval_put _ 19 11 _ (by decide), eval_put _ 8 11 _ (by decide)]; exact E11) (fun a12 c12 w2 hf hb2 => ⟨fun _ => HSB.out w2 (btr hb hb2), ?_⟩)
      rw [show (#[false, true, true, true, true, true, true, true, false, true, true, true, false, true, true, true, true, true, true, true, false, true, true, false, false, false] : Array Bool).setIfInBounds 8 true = #[false, true, true, true, true, true, true, true, true, true, true, true, false, true, true, true, true, true, true, true, false, true, true, false, false, false] from by kernel_rfl, put_swap _ 19 12 _ _ (by decide)]
      exact st4_8_15_ a8 c8 a12 c12 a19 c19 w2 (btr hb hb2) (f8.below hb2) hf (f19.below hb2)
  have st0_15_ : ∀ (a4 : Option Addr) (c4 : Nat) (a19 : Option Addr) (c19 : Nat) (w1 : World), Below W.heap.size W w1 → Bytes w1 (.slice a4 2 c4) mark → Bytes w1 (.slice a19 1 c19) [UInt8.ofNat p.kind] → T 7 #[true, true, true, true, false, true, true, true, false, true, true, true, false, true, true, true, true, true, true, true, false, true, true, false, false, false] ((A.put (some 4) (.slice a4 2 c4)).put (some 19) (.slice a19 1 c19)) w1 := by
    intro a4 c4 a19 c19 w1 hb f4 f19
    refine HT _ _ _ _ [4] (by rw [HR]; kernel_rfl) (by decide) ?_
    refine List.forall_mem_cons.2 ⟨?_, fun _ h => by cases h⟩
    · refine M4 _ _ _ (by rw [eval_put _ 19 7 _ (by decide), eval_put _ 4 7 _ (by decide)]; exact E7) (fun a8 c8 w2 hf hb2 => ⟨fun _ => HSB.out w2 (btr hb hb2), ?_⟩)
      rw [show (#[true, true, true, true, false, true, true, true, false, true, true, true, false, true, true, true, true, true, true, true, false, true, true, false, false, false] : Array Bool).setIfInBounds 4 true = #[true, true, true, true, true, true, true, true, false, true, true, true, false, true, true, true, true, true, true, true, false, true, true, false, false, false] from by kernel_rfl, put_swap _ 19 8 _ _ (by decide)]
      exact st0_4_15_ a4 c4 a8 c8 a19 c19 w2 (btr hb hb2) (f4.below hb2) hf (f19.below hb2)
  have st4_8_ : ∀ (a8 : Option Addr) (c8 : Nat) (a12 : Option Addr) (c12 : Nat) (w1 : World), Below W.heap.size W w1 → Bytes w1 (.slice a8 4 c8) (bes 4 p.gen) → Bytes w1 (.slice a12 4 c12) (bes 4 p.serial) → T 7 #[false, true, true, true, true, true, true, true, true, true, true, true, false, true, true, false, true, true, true, true, false, true, true, false, false, false] ((A.put (some 8) (.slice a8 4 c8)).put (some 12) (.slice a12 4 c12)) w1 := by
    intro a8 c8 a12 c12 w1 hb f8 f12
    refine HT _ _ _ _ [0, 12, 15] (by rw [HR]; kernel_rfl) (by decide) ?_
    refine List.forall_mem_cons.2 ⟨?_, List.forall_mem_cons.2 ⟨?_, List.forall_mem_cons.2 ⟨?_, fun _ h => by cases h⟩⟩⟩
    · refine M0 _ _ _  (fun a4 c4 w2 hf hb2 => ⟨fun _ => HSB.out w2 (btr hb hb2), ?_⟩)
      rw [show (#[false, true, true, true, true, true, true, true, true, true, true, true, false, true, true, false, true, true, true, true, false, true, true, false, false, false] : Array Bool).setIfInBounds 0 true = #[true, true, true, true, true, true, true, true, true, true, true, true, false, true, true, false, true, true, true, true, false, true, true, false, false, false] from by kernel_rfl, put_swap _ 12 4 _ _ (by decide), put_swap _ 8 4 _ _ (by decide)]
      exact st0_4_8_ a4 c4 a8 c8 a12 c12 w2 (btr hb hb2) hf (f8.below hb2) (f12.below hb2)
    · refine M12 _ _ _ (by rw [eval_put _ 12 15 _ (by decide), eval_put _ 8 15 _ (by decide)]; exact E15) (fun a16 c16 w2 hf hb2 => ⟨fun _ => HSB.out w2 (btr hb hb2), ?_⟩)
      rw [show (#[false, true, true, true, true, true, true, true, true, true, true, true, false, true, true, false, true, true, true, true, false, true, true, false, false, false] : Array Bool).setIfInBounds 12 true = #[false, true, true, true, true, true, true, true, true, true, true, true, true, true, true, false, true, true, true, true, false, true, true, false, false, false] from by kernel_rfl]
      exact st4_8_12_ a8 c8 a12 c12 a16 c16 w2 (btr hb hb2) (f8.below hb2) (f12.below hb2) hf
    · refine M15 _ _ _ (by rw [eval_put _ 12 18 _ (by decide), eval_put _ 8 18 _ (by decide)]; exact E18) (fun a19 c19 w2 hf hb2 => ⟨fun _ => HSB.out w2 (btr hb hb2), ?_⟩)
      rw [show (#[false, true, true, true, true, true, true, true, true, true, true, true, false, true, true, false, true, true, true, true, false, true, true, false, false, false] : Array Bool).setIfInBounds 15 true = #[false, true, true, true, true, true, true, true, true, true, true, true, false, true, true, true, true, true, true, true, false, true, true, false, false, false] from by kernel_rfl]
      exact st4_8_15_ a8 c8 a12 c12 a19 c19 w2 (btr hb hb2) (f8.below hb2) (f12.below hb2) hf
  have st15_ : ∀ (a19 : Option Addr) (c19 : Nat) (w1 : World), Below W.heap.size W w1 → Bytes w1 (.slice a19 1 c19) [UInt8.ofNat p.kind] → T 8 #[false, true, true, true, false, true, true, true, false, true, true, true, false, true, true, true, true, true, true, true, false, true, true, false, false, false] (A.put (some 19) (.slice a19 1 c19)) w1 := by
    intro a19 c19 w1 hb f19
    refine HT _ _ _ _ [0, 4] (by rw [HR]; kernel_rfl) (by decide) ?_
    refine List.forall_mem_cons.2 ⟨?_, List.forall_mem_cons.2 ⟨?_, fun _ h => by cases h⟩⟩
    · refine M0 _ _ _  (fun a4 c4 w2 hf hb2 => ⟨fun _ => HSB.out w2 (btr hb hb2), ?_⟩)
      rw [show (#[false, true, true, true, false, true, true, true, false, true, true, true, false, true, true, true, true, true, true, true, false, true, true, false, false, false] : Array Bool).setIfInBounds 0 true = #[true, true, true, true, false, true, true, true, false, true, true, true, false, true, true, true, true, true, true, true, false, true, true, false, false, false] from by kernel_rfl, put_swap _ 19 4 _ _ (by decide)]
      exact st0_15_ a4 c4 a19 c19 w2 (btr hb hb2) hf (f19.below hb2)
    · refine M4 _ _ _ (by rw [eval_put _ 19 7 _ (by decide)]; exact E7) (fun a8 c8 w2 hf hb2 => ⟨fun _ => HSB.out w2 (btr hb hb2), ?_⟩)
      rw [show (#[false, true, true, true, false, true, true, true, false, true, true, true, false, true, true, true, true, true, true, true, false, true, true, false, false, false] : Array Bool).setIfInBounds 4 true = #[false, true, true, true, true, true, true, true, false, true, true, true, false, true, true, true, true, true, true, true, false, true, true, false, false, false] from by kernel_rfl, put_swap _ 19 8 _ _ (by decide)]
      exact st4_15_ a8 c8 a19 c19 w2 (btr hb hb2) hf (f19.below hb2)
  have st4_ : ∀ (a8 : Option Addr) (c8 : Nat) (w1 : World), Below W.heap.size W w1 → Bytes w1 (.slice a8 4 c8) (bes 4 p.gen) → T 8 #[false, true, true, true, true, true, true, true, false, true, true, true, false, true, true, false, true, true, true, true, false, true, true, false, false, false] (A.put (some 8) (.slice a8 4 c8)) w1 := by
    intro a8 c8 w1 hb f8
    refine HT _ _ _ _ [0, 8, 15] (by rw [HR]; kernel_rfl) (by decide) ?_
    refine List.forall_mem_cons.2 ⟨?_, List.forall_mem_cons.2 ⟨?_, List.forall_mem_cons.2 ⟨?_, fun _ h => by cases h⟩⟩⟩
    · refine M0 _ _ _  (fun a4 c4 w2 hf hb2 => ⟨fun _ => HSB.out w2 (btr hb hb2), ?_⟩)
      rw [show (#[false, true, true, true, true, true, true, true, false, true, true, true, false, true, true, false, true, true, true, true, false, true, true, false, false, false] : Array Bool).setIfInBounds 0 true = #[true, true, true, true, true, true, true, true, false, true, true, true, false, true, true, false, true, true, true, true, false, true, true, false, false, false] from by kernel_rfl, put_swap _ 8 4 _ _ (by decide)]
      exact st0_4_ a4 c4 a8 c8 w2 (btr hb hb2) hf (f8.below hb2)
    · refine M8 _ _ _ (by rw [eval_put _ 8 11 _ (by decide)]; exact E11) (fun a12 c12 w2 hf hb2 => ⟨fun _ => HSB.out w2 (btr hb hb2), ?_⟩)
      rw [show (#[false, true, true, true, true, true, true, true, false, true, true, true, false, true, true, false, true, true, true, true, false, true, true, false, false, false] : Array Bool).setIfInBounds 8 true = #[false, true, true, true, true, true, true, true, true, true, true, true, false, true, true, false, true, true, true, true, false, true, true, false, false, false] from by kernel_rfl]
      exact st4_8_ a8 c8 a12 c12 w2 (btr hb hb2) (f8.below hb2) hf
    · refine M15 _ _ _ (by rw [eval_put _ 8 18 _ (by decide)]; exact E18) (fun a19 c19 w2 hf hb2 => ⟨fun _ => HSB.out w2 (btr hb hb2), ?_⟩)
      rw [show (#[false, true, true, true, true, true, true, true, false, true, true, true, false, true, true, false, true, true, true, true, false, true, true, false, false, false] : Array Bool).setIfInBounds 15 true = #[false, true, true, true, true, true, true, true, false, true, true, true, false, true, true, true, true, true, true, true, false, true, true, false, false, false] from by kernel_rfl]
      exact st4_15_ a8 c8 a19 c19 w2 (btr hb hb2) (f8.below hb2) hf
  have st0_ : ∀ (a4 : Option Addr) (c4 : Nat) (w1 : World), Below W.heap.size W w1 → Bytes w1 (.slice a4 2 c4) mark → T 8 #[true, true, true, true, false, true, true, true, false, true, true, true, false, true, true, false, true, true, true, true, false, true, true, false, false, false] (A.put (some 4) (.slice a4 2 c4)) w1 := by
    intro a4 c4 w1 hb f4
    refine HT _ _ _ _ [4, 15] (by rw [HR]; kernel_rfl) (by decide) ?_
    refine List.forall_mem_cons.2 ⟨?_, List.forall_mem_cons.2 ⟨?_, fun _ h => by cases h⟩⟩
    · refine M4 _ _ _ (by rw [eval_put _ 4 7 _ (by decide)]; exact E7) (fun a8 c8 w2 hf hb2 => ⟨fun _ => HSB.out w2 (btr hb hb2), ?_⟩)
      rw [show (#[true, true, true, true, false, true, true, true, false, true, true, true, false, true, true, false, true, true, true, true, false, true, true, false, false, false] : Array Bool).setIfInBounds 4 true = #[true, true, true, true, true, true, true, true, false, true, true, true, false, true, true, false, true, true, true, true, false, true, true, false, false, false] from by kernel_rfl]
      exact st0_4_ a4 c4 a8 c8 w2 (btr hb hb2) (f4.below hb2) hf
    · refine M15 _ _ _ (by rw [eval_put _ 4 18 _ (by decide)]; exact E18) (fun a19 c19 w2 hf hb2 => ⟨fun _ => HSB.out w2 (btr hb hb2), ?_⟩)
      rw [show (#[true, true, true, true, false, true, true, true, false, true, true, true, false, true, true, false, true, true, true, true, false, true, true, false, false, false] : Array Bool).setIfInBounds 15 true = #[true, true, true, true, false, true, true, true, false, true, true, true, false, true, true, true, true, true, true, true, false, true, true, false, false, false] from by kernel_rfl]
      exact st0_15_ a4 c4 a19 c19 w2 (btr hb hb2) (f4.below hb2) hf
  have st : ∀  (w1 : World), Below W.heap.size W w1 → T 9 #[false, true, true, true, false, true, true, true, false, true, true, true, false, true, true, false, true, true, true, true, false, true, true, false, false, false] A w1 := by
    intro  w1 hb 
    refine HT _ _ _ _ [0, 4, 15] (by rw [HR]; kernel_rfl) (by decide) ?_
    refine List.forall_mem_cons.2 ⟨?_, List.forall_mem_cons.2 ⟨?_, List.forall_mem_cons.2 ⟨?_, fun _ h => by cases h⟩⟩⟩
    · refine M0 _ _ _  (fun a4 c4 w2 hf hb2 => ⟨fun _ => HSB.out w2 (btr hb hb2), ?_⟩)
      rw [show (#[false, true, true, true, false, true, true, true, false, true, true, true, false, true, true, false, true, true, true, true, false, true, true, false, false, false] : Array Bool).setIfInBounds 0 true = #[true, true, true, true, false, true, true, true, false, true, true, true, false, true, true, false, true, true, true, true, false, true, true, false, false, false] from by kernel_rfl]
      exact st0_ a4 c4 w2 (btr hb hb2) hf
    · refine M4 _ _ _ (by exact E7) (fun a8 c8 w2 hf hb2 => ⟨fun _ => HSB.out w2 (btr hb hb2), ?_⟩)
      rw [show (#[false, true, true, true, false, true, true, true, false, true, true, true, false, true, true, false, true, true, true, true, false, true, true, false, false, false] : Array Bool).setIfInBounds 4 true = #[false, true, true, true, true, true, true, true, false, true, true, true, false, true, true, false, true, true, true, true, false, true, true, false, false, false] from by kernel_rfl]
      exact st4_ a8 c8 w2 (btr hb hb2) hf
    · refine M15 _ _ _ (by exact E18) (fun a19 c19 w2 hf hb2 => ⟨fun _ => HSB.out w2 (btr hb hb2), ?_⟩)
      rw [show (#[false, true, true, true, false, true, true, true, false, true, true, true, false, true, true, false, true, true, true, true, false, true, true, false, false, false] : Array Bool).setIfInBounds 15 true = #[false, true, true, true, false, true, true, true, false, true, true, true, false, true, true, true, true, true, true, true, false, true, true, false, false, false] from by kernel_rfl]
      exact st15_ a19 c19 w2 (btr hb hb2) hf
  exact st _ (bdr (bre W))
end Go.Proofs.YtacfkhnajdneeaaDoor
