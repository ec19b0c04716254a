/- Walk: a page's bytes. -/
import Derived.Test.YtejdlgfiiagcmaaDoorFour
import Derived.Test.YtejdlgfiiagcmaaDoorJoinB
import Derived.Test.YtejdlgfiiagcmaaDoorMakers
import Derived.Test.YtejdlgfiiagcmaaDoorMark
import Derived.Test.YtejdlgfiiagcmaaDoorPreA
import Derived.BigQuiet
import Derived.Deep.CutRange
import Derived.OwnWalk
namespace Go.Proofs.YtejdlgfiiagcmaaDoor
open Go.RowKit

theorem wrap8 (n : Nat) : IntKind.u8.wrap (n : Int) = ((n % 256 : Nat) : Int) := by
  simp [IntKind.wrap, IntKind.signed, IntKind.bits]

theorem eval_hit (a : Act) (i : Nat) (v : Value) (h : i < a.tmps.size) : (a.put (some i) v).eval (.tmp i) = v := by
  unfold Act.put Act.eval
  simp [h]


set_option maxRecDepth 10000 in
theorem four_step (t s n : Nat) (hn : n < 4294967296) (o : Oper) (a : Act) (w1 : World) (K : Act → World → Prop) (Q : Exit → Act → World → Prop) (ho : o.op = .call { callee := .value (.func 51), args := #[.tmp t], argTypes := #[22] }) (hd : o.dst = some s)
    (he : a.eval (.tmp t) = .int .u32 n) (hK : ∀ ad c w2, Bytes w2 (.slice ad 4 c) (be4 n) → Below w1.heap.size w1 w2 → K (a.put (some s) (.slice ad 4 c)) w2) : o.wp Tryd.prog a w1 K Q := by
  have hrun : (execOp a.eval o).run Tryd.prog w1 = .ok (.enter 51 #[.int .u32 n]) w1 := by
    unfold execOp
    simp only [ho, resolve, invoke, Sem.run_bind, List.map_toArray, List.map_cons, List.map_nil, he]
    rfl
  unfold Oper.wp
  rw [hrun, Oper.upon_enter]
  refine (four_any n hn w1).mono ?_
  rintro e w2 ⟨v2, rfl, ho2, hb2⟩
  obtain ⟨a2, c2, rfl, -⟩ := id ho2.bytes
  rw [hd]
  exact hK a2 c2 w2 ho2.bytes hb2

def PgAt (w : World) (v : Value) (p : Pg) : Prop := ∃ vd, v = .agg #[.int .u32 p.gen, .int .u32 p.serial, .int .u32 p.number, .int .u8 p.kind, vd] ∧ Bytes w vd p.data

theorem PgAt.below {w w' : World} {v : Value} {p : Pg} (h : PgAt w v p) (hb : Below w.heap.size w w') : PgAt w' v p := by
  obtain ⟨vd, e, h⟩ := h
  exact ⟨vd, e, h.below hb⟩

set_option maxRecDepth 10000 in
set_option maxHeartbeats 3200000 in
theorem pbytes_ok (v : Value) (p : Pg) (w : World) (hv : PgAt w v p) (ok : p.Ok) (hk : p.kind ≠ 0) (hd : p.data.length ≤ 491) :
    Calls Tryd.prog 39 #[v] w fun e w' => ∃ v', e = .returned (.tuple #[v', .int .i64 0]) ∧ Own8 5 w.heap.size w' v' (seal8 p.raw) ∧ Below w.heap.size w w' := by
  obtain ⟨vd, rfl, hvd⟩ := hv
  obtain ⟨ad, cd, rfl, hm, hc, -, -⟩ := id hvd
  obtain ⟨o1, o2, o3, o4⟩ := ok
  have hk1 : ((p.kind : Int) == 0) = false := beq_false_of_ne (by omega)
  have hk2 : decide ((p.kind : Int) = 0) = false := decide_eq_false (by omega)
  have hd1 : (p.data.length : Int) ≤ 491 := by omega
  have HVD := Lib.hid hvd
  have HK := Lib.hid hk
  clear hvd hk hm hc
  go_enter Tryd.func39, Tryd.ntmps39
  go_upto_region 6 with fail
  obtain ⟨n0, hn0⟩ : ∃ n0, n0 = w.heap.size := ⟨_, rfl⟩
  have hr0 := heap_alloc_new w (.cells #[.int .u32 p.gen, .int .u32 p.serial, .int .u32 p.number, .int .u8 p.kind, .slice ad p.data.length cd] 84)
  have hb0 := bal (bre w) (.cells #[.int .u32 p.gen, .int .u32 p.serial, .int .u32 p.number, .int .u8 p.kind, .slice ad p.data.length cd] 84)
  rw [← hn0] at hr0 ⊢
  generalize w.alloc (.cells #[.int .u32 p.gen, .int .u32 p.serial, .int .u32 p.number, .int .u8 p.kind, .slice ad p.data.length cd] 84) = W at *
  have hlt := (Array.getElem?_eq_some_iff.1 hr0).1
  have f0 := cell_of_row W n0 0 _ _ _ hr0
  have f1 := cell_of_row W n0 1 _ _ _ hr0
  have f2 := cell_of_row W n0 2 _ _ _ hr0
  have f3 := cell_of_row W n0 3 _ _ _ hr0
  have f4 := cell_of_row W n0 4 _ _ _ hr0
  have hSB : ∀ w', Below W.heap.size W w' → (w'.cell? ⟨n0, 0, none⟩ = some (.int .u32 p.gen) ∧ w'.cell? ⟨n0, 1, none⟩ = some (.int .u32 p.serial) ∧ w'.cell? ⟨n0, 2, none⟩ = some (.int .u32 p.number) ∧ w'.cell? ⟨n0, 3, none⟩ = some (.int .u8 p.kind) ∧ w'.cell? ⟨n0, 4, none⟩ = some (.slice ad p.data.length cd)) := fun w' hb =>
    ⟨(hb.cell (p := ⟨n0, 0, none⟩) hlt).trans f0, (hb.cell (p := ⟨n0, 1, none⟩) hlt).trans f1, (hb.cell (p := ⟨n0, 2, none⟩) hlt).trans f2, (hb.cell (p := ⟨n0, 3, none⟩) hlt).trans f3, (hb.cell (p := ⟨n0, 4, none⟩) hlt).trans f4⟩
  have HSB := Lib.hid hSB
  have HB0 := Lib.hid hb0
  have HDW := Lib.hid (HVD.out.below hb0)
  clear hr0 hb0 hn0 hSB
  refine region_anyZ (z := 24) (S := fun w' => (w'.cell? ⟨n0, 0, none⟩ = some (.int .u32 p.gen) ∧ w'.cell? ⟨n0, 1, none⟩ = some (.int .u32 p.serial) ∧ w'.cell? ⟨n0, 2, none⟩ = some (.int .u32 p.number) ∧ w'.cell? ⟨n0, 3, none⟩ = some (.int .u8 p.kind) ∧ w'.cell? ⟨n0, 4, none⟩ = some (.slice ad p.data.length cd))) (by kernel_rfl) ?_
  refine anyZ_begin (fun hcl0 => ?_)
  refine anyZ_held (by exact HSB.out _ (bdr (bre W))) (fun hHeld => ?_)
  -- 2: Op.fieldAddr 25 (Operand.tmp 1) 0
  refine' anyZ_pure (i := 2) (v := _) rfl (by rfl) (by kernel_rfl) (by kernel_rfl) (by kernel_rfl) hcl0 (fun _ _ _ h => h) (Or.inl ⟨by rfl, fun w _ => ?h1⟩) (fun _ => hHeld) (fun hcl1 => ?r1)
  case h1 => (simp only [List.getElem_toArray, List.getElem_cons_succ, List.getElem_cons_zero]; first | (go_simp; with_reducible rfl) | (go_simp; done) | rfl)
  simp only [List.getElem_toArray, List.getElem_cons_succ, List.getElem_cons_zero, Act.put, List.setIfInBounds_toArray, List.set_cons_zero, List.set_cons_succ]
  -- 3: Op.load 22 (Operand.tmp 18)
  refine' anyZ_take (i := 3) (v := _) rfl (by rfl) (by kernel_rfl) (by kernel_rfl) (by kernel_rfl) hcl1 5 (by kernel_rfl) (by kernel_rfl) (fun _ _ _ h => h) (Or.inl ⟨by rfl, fun w hSw => ?h2⟩) hHeld (fun hcl2 => ?r2)
  case h2 => (simp only [List.getElem_toArray, List.getElem_cons_succ, List.getElem_cons_zero]; obtain ⟨hS1, hS2, hS3, hS4, hS5⟩ := hSw; first | (go_simp; with_reducible rfl) | (go_simp; done) | rfl)
  simp only [List.getElem_toArray, List.getElem_cons_succ, List.getElem_cons_zero, Act.put, List.setIfInBounds_toArray, List.set_cons_zero, List.set_cons_succ]
  -- 5: Op.fieldAddr 25 (Operand.tmp 1) 1
  refine' anyZ_pure (i := 5) (v := _) rfl (by rfl) (by kernel_rfl) (by kernel_rfl) (by kernel_rfl) hcl2 (fun _ _ _ h => h) (Or.inl ⟨by rfl, fun w _ => ?h3⟩) (fun _ => hHeld) (fun hcl3 => ?r3)
  case h3 => (simp only [List.getElem_toArray, List.getElem_cons_succ, List.getElem_cons_zero]; first | (go_simp; with_reducible rfl) | (go_simp; done) | rfl)
  simp only [List.getElem_toArray, List.getElem_cons_succ, List.getElem_cons_zero, Act.put, List.setIfInBounds_toArray, List.set_cons_zero, List.set_cons_succ]
  -- 6: Op.load 22 (Operand.tmp 21)
  refine' anyZ_take (i := 6) (v := _) rfl (by rfl) (by kernel_rfl) (by kernel_rfl) (by kernel_rfl) hcl3 5 (by kernel_rfl) (by kernel_rfl) (fun _ _ _ h => h) (Or.inl ⟨by rfl, fun w hSw => ?h4⟩) hHeld (fun hcl4 => ?r4)
  case h4 => (simp only [List.getElem_toArray, List.getElem_cons_succ, List.getElem_cons_zero]; obtain ⟨hS1, hS2, hS3, hS4, hS5⟩ := hSw; first | (go_simp; with_reducible rfl) | (go_simp; done) | rfl)
  simp only [List.getElem_toArray, List.getElem_cons_succ, List.getElem_cons_zero, Act.put, List.setIfInBounds_toArray, List.set_cons_zero, List.set_cons_succ]
  -- 8: Op.fieldAddr 25 (Operand.tmp 1) 2
  refine' anyZ_pure (i := 8) (v := _) rfl (by rfl) (by kernel_rfl) (by kernel_rfl) (by kernel_rfl) hcl4 (fun _ _ _ h => h) (Or.inl ⟨by rfl, fun w _ => ?h5⟩) (fun _ => hHeld) (fun hcl5 => ?r5)
  case h5 => (simp only [List.getElem_toArray, List.getElem_cons_succ, List.getElem_cons_zero]; first | (go_simp; with_reducible rfl) | (go_simp; done) | rfl)
  simp only [List.getElem_toArray, List.getElem_cons_succ, List.getElem_cons_zero, Act.put, List.setIfInBounds_toArray, List.set_cons_zero, List.set_cons_succ]
  -- 9: Op.load 22 (Operand.tmp 24)
  refine' anyZ_take (i := 9) (v := _) rfl (by rfl) (by kernel_rfl) (by kernel_rfl) (by kernel_rfl) hcl5 5 (by kernel_rfl) (by kernel_rfl) (fun _ _ _ h => h) (Or.inl ⟨by rfl, fun w hSw => ?h6⟩) hHeld (fun hcl6 => ?r6)
  case h6 => (simp only [List.getElem_toArray, List.getElem_cons_succ, List.getElem_cons_zero]; obtain ⟨hS1, hS2, hS3, hS4, hS5⟩ := hSw; first | (go_simp; with_reducible rfl) | (go_simp; done) | rfl)
  simp only [List.getElem_toArray, List.getElem_cons_succ, List.getElem_cons_zero, Act.put, List.setIfInBounds_toArray, List.set_cons_zero, List.set_cons_succ]
  -- 11: Op.fieldAddr 25 (Operand.tmp 1) 3
  refine' anyZ_pure (i := 11) (v := _) rfl (by rfl) (by kernel_rfl) (by kernel_rfl) (by kernel_rfl) hcl6 (fun _ _ _ h => h) (Or.inl ⟨by rfl, fun w _ => ?h7⟩) (fun _ => hHeld) (fun hcl7 => ?r7)
  case h7 => (simp only [List.getElem_toArray, List.getElem_cons_succ, List.getElem_cons_zero]; first | (go_simp; with_reducible rfl) | (go_simp; done) | rfl)
  simp only [List.getElem_toArray, List.getElem_cons_succ, List.getElem_cons_zero, Act.put, List.setIfInBounds_toArray, List.set_cons_zero, List.set_cons_succ]
  -- 12: Op.load 5 (Operand.tmp 27)
  refine' anyZ_take (i := 12) (v := _) rfl (by rfl) (by kernel_rfl) (by kernel_rfl) (by kernel_rfl) hcl7 5 (by kernel_rfl) (by kernel_rfl) (fun _ _ _ h => h) (Or.inl ⟨by rfl, fun w hSw => ?h8⟩) hHeld (fun hcl8 => ?r8)
  case h8 => (simp only [List.getElem_toArray, List.getElem_cons_succ, List.getElem_cons_zero]; obtain ⟨hS1, hS2, hS3, hS4, hS5⟩ := hSw; first | (go_simp; with_reducible rfl) | (go_simp; done) | rfl)
  simp only [List.getElem_toArray, List.getElem_cons_succ, List.getElem_cons_zero, Act.put, List.setIfInBounds_toArray, List.set_cons_zero, List.set_cons_succ]
  -- 13: Op.move (Operand.tmp 4)
  refine' anyZ_pure (i := 13) (v := _) rfl (by rfl) (by kernel_rfl) (by kernel_rfl) (by kernel_rfl) hcl8 (fun _ _ _ h => h) (Or.inl ⟨by rfl, fun w _ => ?h9⟩) (fun _ => hHeld) (fun hcl9 => ?r9)
  case h9 => (simp only [List.getElem_toArray, List.getElem_cons_succ, List.getElem_cons_zero]; first | (go_simp; with_reducible rfl) | (go_simp; done) | rfl)
  simp only [List.getElem_toArray, List.getElem_cons_succ, List.getElem_cons_zero, Act.put, List.setIfInBounds_toArray, List.set_cons_zero, List.set_cons_succ]
  -- 14: Op.binOp BinOp.shr 3 (Operand.tmp 29) (Operand.const (Value.
  refine' anyZ_pure (i := 14) (v := _) rfl (by rfl) (by kernel_rfl) (by kernel_rfl) (by kernel_rfl) hcl9 (fun _ _ _ h => h) (Or.inl ⟨by rfl, fun w _ => ?h10⟩) (fun _ => hHeld) (fun hcl10 => ?r10)
  case h10 => (simp only [List.getElem_toArray, List.getElem_cons_succ, List.getElem_cons_zero]; first | (go_simp; with_reducible rfl) | (go_simp; done) | rfl)
  simp only [List.getElem_toArray, List.getElem_cons_succ, List.getElem_cons_zero, Act.put, List.setIfInBounds_toArray, List.set_cons_zero, List.set_cons_succ]
  -- 15: Op.convert 3 5 (Operand.tmp 30)
  refine' anyZ_pure (i := 15) (v := _) rfl (by rfl) (by kernel_rfl) (by kernel_rfl) (by kernel_rfl) hcl10 (fun _ _ _ h => h) (Or.inl ⟨by rfl, fun w _ => ?h11⟩) (fun _ => hHeld) (fun hcl11 => ?r11)
  case h11 => (simp only [List.getElem_toArray, List.getElem_cons_succ, List.getElem_cons_zero]; first | (go_simp; with_reducible rfl) | (go_simp; done) | rfl)
  simp only [List.getElem_toArray, List.getElem_cons_succ, List.getElem_cons_zero, Act.put, List.setIfInBounds_toArray, List.set_cons_zero, List.set_cons_succ]
  -- 16: Op.move (Operand.tmp 4)
  refine' anyZ_pure (i := 16) (v := _) rfl (by rfl) (by kernel_rfl) (by kernel_rfl) (by kernel_rfl) hcl11 (fun _ _ _ h => h) (Or.inl ⟨by rfl, fun w _ => ?h12⟩) (fun _ => hHeld) (fun hcl12 => ?r12)
  case h12 => (simp only [List.getElem_toArray, List.getElem_cons_succ, List.getElem_cons_zero]; first | (go_simp; with_reducible rfl) | (go_simp; done) | rfl)
  simp only [List.getElem_toArray, List.getElem_cons_succ, List.getElem_cons_zero, Act.put, List.setIfInBounds_toArray, List.set_cons_zero, List.set_cons_succ]
  -- 17: Op.convert 3 5 (Operand.tmp 32)
  refine' anyZ_pure (i := 17) (v := _) rfl (by rfl) (by kernel_rfl) (by kernel_rfl) (by kernel_rfl) hcl12 (fun _ _ _ h => h) (Or.inl ⟨by rfl, fun w _ => ?h13⟩) (fun _ => hHeld) (fun hcl13 => ?r13)
  case h13 => (simp only [List.getElem_toArray, List.getElem_cons_succ, List.getElem_cons_zero]; first | (go_simp; with_reducible rfl) | (go_simp; done) | rfl)
  simp only [List.getElem_toArray, List.getElem_cons_succ, List.getElem_cons_zero, Act.put, List.setIfInBounds_toArray, List.set_cons_zero, List.set_cons_succ]
  -- 19: Op.fieldAddr 25 (Operand.tmp 1) 4
  refine' anyZ_pure (i := 19) (v := _) rfl (by rfl) (by kernel_rfl) (by kernel_rfl) (by kernel_rfl) hcl13 (fun _ _ _ h => h) (Or.inl ⟨by rfl, fun w _ => ?h14⟩) (fun _ => hHeld) (fun hcl14 => ?r14)
  case h14 => (simp only [List.getElem_toArray, List.getElem_cons_succ, List.getElem_cons_zero]; first | (go_simp; with_reducible rfl) | (go_simp; done) | rfl)
  simp only [List.getElem_toArray, List.getElem_cons_succ, List.getElem_cons_zero, Act.put, List.setIfInBounds_toArray, List.set_cons_zero, List.set_cons_succ]
  -- 20: Op.load 23 (Operand.tmp 35)
  refine' anyZ_take (i := 20) (v := _) rfl (by rfl) (by kernel_rfl) (by kernel_rfl) (by kernel_rfl) hcl14 5 (by kernel_rfl) (by kernel_rfl) (fun _ _ _ h => h) (Or.inl ⟨by rfl, fun w hSw => ?h15⟩) hHeld (fun hcl15 => ?r15)
  case h15 => (simp only [List.getElem_toArray, List.getElem_cons_succ, List.getElem_cons_zero]; obtain ⟨hS1, hS2, hS3, hS4, hS5⟩ := hSw; first | (go_simp; with_reducible rfl) | (go_simp; done) | rfl)
  simp only [List.getElem_toArray, List.getElem_cons_succ, List.getElem_cons_zero, Act.put, List.setIfInBounds_toArray, List.set_cons_zero, List.set_cons_succ]
  -- 21: Op.move (Operand.tmp 4)
  refine' anyZ_pure (i := 21) (v := _) rfl (by rfl) (by kernel_rfl) (by kernel_rfl) (by kernel_rfl) hcl15 (fun _ _ _ h => h) (Or.inl ⟨by rfl, fun w _ => ?h16⟩) (fun _ => hHeld) (fun hcl16 => ?r16)
  case h16 => (simp only [List.getElem_toArray, List.getElem_cons_succ, List.getElem_cons_zero]; first | (go_simp; with_reducible rfl) | (go_simp; done) | rfl)
  simp only [List.getElem_toArray, List.getElem_cons_succ, List.getElem_cons_zero, Act.put, List.setIfInBounds_toArray, List.set_cons_zero, List.set_cons_succ]
  -- 22: Op.binOp BinOp.sub 3 (Operand.const (Value.int IntKind.i64 4
  refine' anyZ_pure (i := 22) (v := _) rfl (by rfl) (by kernel_rfl) (by kernel_rfl) (by kernel_rfl) hcl16 (fun _ _ _ h => h) (Or.inl ⟨by rfl, fun w _ => ?h17⟩) (fun _ => hHeld) (fun hcl17 => ?r17)
  case h17 => (simp only [List.getElem_toArray, List.getElem_cons_succ, List.getElem_cons_zero]; first | (go_simp; with_reducible rfl) | (go_simp; done) | rfl)
  simp only [List.getElem_toArray, List.getElem_cons_succ, List.getElem_cons_zero, Act.put, List.setIfInBounds_toArray, List.set_cons_zero, List.set_cons_succ]
  refine anyZ_cast (listed' := #[false, false, true, true, false, true, true, false, true, true, false, true, true, true, true, true, true, true, false, true, true, true, true, false, false, false, false]) (by kernel_rfl) ?_
  refine anyZ_name (fun T Wp R HT HR Hop HE => ?_)
  generalize hA : Act.mk _ _ = A
  have E19 : A.eval (.tmp 19) = .int .u32 p.gen := by rw [← hA]; rfl
  have E22 : A.eval (.tmp 22) = .int .u32 p.serial := by rw [← hA]; rfl
  have E25 : A.eval (.tmp 25) = .int .u32 p.number := by rw [← hA]; rfl
  have E28 : A.eval (.tmp 28) = .int .u8 p.kind := by rw [← hA]; rfl
  have E31 : A.eval (.tmp 31) = .int .u8 ((p.data.length / 256 % 256 : Nat) : Int) := by rw [← hA, ← wrap8, show ((p.data.length / 256 : Nat) : Int) = (p.data.length : Int) / 256 by omega]; rfl
  have E33 : A.eval (.tmp 33) = .int .u8 ((p.data.length % 256 : Nat) : Int) := by rw [← hA, ← wrap8]; rfl
  obtain ⟨rm, hrm⟩ : ∃ rm : Nat, rm = 491 - p.data.length := ⟨_, rfl⟩
  have E38 : A.eval (.tmp 38) = .int .i64 rm := by rw [← hA, show (rm : Int) = IntKind.i64.wrap (491 - (p.data.length : Int)) by rw [IntKind.wrap_i64]; omega]; rfl
  have ep : ∀ (g : Nat), (A.put (some 16) (.slice (some ⟨g, 0, none⟩) 2 2)).eval (.tmp 16) = .slice (some ⟨g, 0, none⟩) 2 2 := fun g => eval_hit A 16 _ (by rw [← hA]; show (16 : Nat) < 45; decide)
  have HA := Lib.hid hA
  have HRM := Lib.hid hrm
  have hrm1 : rm ≤ 1000000 := by omega
  clear hA hrm
  have M0 : ∀ (a : Act) (w1 : World) (K : Act → World → Prop), Below W.heap.size W w1 → (∀ g w2, Lit w2 g #[.int .u8 104, .int .u8 103] 5 W.heap.size → Below w1.heap.size w1 w2 → K (a.put (some 16) (.slice (some ⟨g, 0, none⟩) 2 2)) w2) → Wp 0 K a w1 := by
    intro a w1 K hb hK
    refine Hop 0 _ a w1 K (by simp only [List.getElem?_toArray, List.getElem?_cons_zero]; rfl) rfl ?_
    have hsz := hb.size
    go_simp
    exact hK _ _ ⟨⟨_, heap_alloc_new w1 _⟩, hsz⟩ (bal (bre w1) _)
  have M1 : ∀ (a : Act) (w1 : World) (K : Act → World → Prop) {g : Nat}, a.eval (.tmp 16) = .slice (some ⟨g, 0, none⟩) 2 2 → Lit w1 g #[.int .u8 104, .int .u8 103] 5 W.heap.size →
      (∀ w2, Below W.heap.size w1 w2 → (∀ (p : Addr) u, w1.cell? p = some u → w2.cell? p = some u) → Lit w2 g #[.int .u8 104, .int .u8 103] 5 W.heap.size → K (a.put (some 17) (.slice (some ⟨g, 0, none⟩) 2 2)) w2) → Wp 1 K a w1 := by
    intro a w1 K g he hl hK
    simp only [Act.eval, Array.getD_eq_getD_getElem?] at he
    obtain ⟨⟨fr, hg⟩, hB⟩ := id hl
    have hcv := run_conv_mark (P := Tryd.prog) w1 25 5 g 2 2 _ fr hg Tryd.underlying25 Tryd.underlying5
    refine Hop 1 _ a w1 K (by simp only [List.getElem?_toArray, List.getElem?_cons_succ, List.getElem?_cons_zero]; rfl) rfl ?_
    have hk2 := freeze_cells w1 g 2 _ _ fr hg
    have hb2 := freeze_below w1 g 2 W.heap.size hB
    have hl2 : Lit (w1.freeze ⟨g, 2, none⟩ 1) g #[.int .u8 104, .int .u8 103] 5 W.heap.size := ⟨freeze_own w1 g 2 _ _ fr hg, hB⟩
    have H2 := Lib.hid hk2
    have H3 := Lib.hid hb2
    have H4 := Lib.hid hl2
    have H5 := Lib.hid hK
    have hcv' : (convert 25 25 (.slice (some ⟨g, 0, none⟩) 2 2)).run Tryd.prog w1 = .ok (.slice (some ⟨g, 0, none⟩) 2 2) (w1.freeze ⟨g, 2, none⟩ 1) := hcv
    clear hk2 hb2 hl2 hK hcv hg hl hB
    go_simp
    exact H5.out _ H3.out H2.out H4.out
  have M4 : ∀ (a : Act) (w1 : World) (K : Act → World → Prop), a.eval (.tmp 19) = .int .u32 p.gen → (∀ ad c w2, Bytes w2 (.slice ad 4 c) (be4 p.gen) → Below w1.heap.size w1 w2 → K (a.put (some 20) (.slice ad 4 c)) w2) → Wp 4 K a w1 := by
    intro a w1 K he hK
    exact Hop 4 _ a w1 K (by simp only [List.getElem?_toArray, List.getElem?_cons_succ, List.getElem?_cons_zero]; rfl) rfl (four_step 19 20 p.gen o1 _ a w1 K _ rfl rfl he hK)
  have M7 : ∀ (a : Act) (w1 : World) (K : Act → World → Prop), a.eval (.tmp 22) = .int .u32 p.serial → (∀ ad c w2, Bytes w2 (.slice ad 4 c) (be4 p.serial) → Below w1.heap.size w1 w2 → K (a.put (some 23) (.slice ad 4 c)) w2) → Wp 7 K a w1 := by
    intro a w1 K he hK
    exact Hop 7 _ a w1 K (by simp only [List.getElem?_toArray, List.getElem?_cons_succ, List.getElem?_cons_zero]; rfl) rfl (four_step 22 23 p.serial o2 _ a w1 K _ rfl rfl he hK)
  have M10 : ∀ (a : Act) (w1 : World) (K : Act → World → Prop), a.eval (.tmp 25) = .int .u32 p.number → (∀ ad c w2, Bytes w2 (.slice ad 4 c) (be4 p.number) → Below w1.heap.size w1 w2 → K (a.put (some 26) (.slice ad 4 c)) w2) → Wp 10 K a w1 := by
    intro a w1 K he hK
    exact Hop 10 _ a w1 K (by simp only [List.getElem?_toArray, List.getElem?_cons_succ, List.getElem?_cons_zero]; rfl) rfl (four_step 25 26 p.number o3 _ a w1 K _ rfl rfl he hK)
  have M18 : ∀ (a : Act) (w1 : World) (K : Act → World → Prop), a.eval (.tmp 28) = .int .u8 p.kind → a.eval (.tmp 31) = .int .u8 ((p.data.length / 256 % 256 : Nat) : Int) → a.eval (.tmp 33) = .int .u8 ((p.data.length % 256 : Nat) : Int) → (∀ ad c w2, Bytes w2 (.slice ad 3 c) (UInt8.ofNat p.kind :: be2 p.data.length) → Below w1.heap.size w1 w2 → K (a.put (some 34) (.slice ad 3 c)) w2) → Wp 18 K a w1 := by
    intro a w1 K e1 e2 e3 hK
    simp only [Act.eval, Array.getD_eq_getD_getElem?] at e1 e2 e3
    refine Hop 18 _ a w1 K (by simp only [List.getElem?_toArray, List.getElem?_cons_succ, List.getElem?_cons_zero]; rfl) rfl ?_
    go_simp
    refine hK _ _ _ (own8_lit _ w1 _ (UInt8.ofNat p.kind :: be2 p.data.length) 3 ?_ rfl (by simp [be2, maxLen])).bytes (bal (bre w1) _)
    simp only [be2, List.map_cons, List.map_nil]
    rw [B8_ofNat _ o4, B8_ofNat _ (by omega), B8_ofNat _ (by omega)]
    simp
  have M23 : ∀ (a : Act) (w1 : World) (K : Act → World → Prop), a.eval (.tmp 38) = .int .i64 rm → (∀ ad c w2, Bytes w2 (.slice ad rm c) (List.replicate rm 0) → Below w1.heap.size w1 w2 → K (a.put (some 39) (.slice ad rm c)) w2) → Wp 23 K a w1 := by
    intro a w1 K he hK
    refine Hop 23 _ a w1 K (by simp only [List.getElem?_toArray, List.getElem?_cons_succ, List.getElem?_cons_zero]; rfl) rfl ?_
    refine wp_make8 _ _ 25 5 make8 rfl rm he he hrm1 ?_
    intro w2 hm2 hb2
    exact hK _ _ w2 hm2.bytes hb2
  clear Hop
  have st0_1_4_7_10_18_23_ : ∀ (g16 : Nat) (a20 : Option Addr) (c20 : Nat) (a23 : Option Addr) (c23 : Nat) (a26 : Option Addr) (c26 : Nat) (a34 : Option Addr) (c34 : Nat) (a39 : Option Addr) (c39 : Nat) (w1 : World), Below W.heap.size W w1 → Lit w1 g16 #[.int .u8 104, .int .u8 103] 5 W.heap.size → Bytes w1 (.slice a20 4 c20) (be4 p.gen) → Bytes w1 (.slice a23 4 c23) (be4 p.serial) → Bytes w1 (.slice a26 4 c26) (be4 p.number) → Bytes w1 (.slice a34 3 c34) (UInt8.ofNat p.kind :: be2 p.data.length) → Bytes w1 (.slice a39 rm c39) (List.replicate rm 0) → T 3 #[true, true, true, true, true, true, true, true, true, true, true, true, true, true, true, true, true, true, true, true, true, true, true, true, false, false, false] (((((((A.put (some 16) (.slice (some ⟨g16, 0, none⟩) 2 2)).put (some 17) (.slice (some ⟨g16, 0, none⟩) 2 2)).put (some 20) (.slice a20 4 c20)).put (some 23) (.slice a23 4 c23)).put (some 26) (.slice a26 4 c26)).put (some 34) (.slice a34 3 c34)).put (some 39) (.slice a39 rm c39)) w1 := by
    intro g16 a20 c20 a23 c23 a26 c26 a34 c34 a39 c39 w1 hb f16 f20 f23 f26 f34 f39
    refine HE _ _ _ _ (anyZ_chain_at (by kernel_rfl) ?_)
    simp only [List.drop_succ_cons, List.drop_zero]
    rw [← HA.out]
    simp only [Act.put, List.setIfInBounds_toArray, List.set_cons_zero, List.set_cons_succ]
    have hfl : [mark, be4 p.gen, be4 p.serial, be4 p.number, UInt8.ofNat p.kind :: be2 p.data.length, p.data, List.replicate rm 0].flatten = p.raw := by
      unfold Pg.raw Pg.head
      rw [HRM.out]
      simp [List.append_assoc]
    have hrl := raw_length p hd
    have hrow : ∀ (j : Nat) (v : Value) (l : List UInt8), [Value.slice (some ⟨g16, 0, none⟩) 2 2, .slice a20 4 c20, .slice a23 4 c23, .slice a26 4 c26, .slice a34 3 c34, .slice ad p.data.length cd, .slice a39 rm c39][j]? = some v → [mark, be4 p.gen, be4 p.serial, be4 p.number, UInt8.ofNat p.kind :: be2 p.data.length, p.data, List.replicate rm 0][j]? = some l → Bytes w1 v l := by
      intro j v l h1 h2
      match j, h1, h2 with
      | 0, h1, h2 => cases h1; cases h2; exact f16.bytes (l := mark) rfl rfl (by decide)
      | 1, h1, h2 => cases h1; cases h2; exact f20
      | 2, h1, h2 => cases h1; cases h2; exact f23
      | 3, h1, h2 => cases h1; cases h2; exact f26
      | 4, h1, h2 => cases h1; cases h2; exact f34
      | 5, h1, h2 => cases h1; cases h2; exact HDW.out.below hb
      | 6, h1, h2 => cases h1; cases h2; exact f39
      | j + 7, h1, h2 => cases h1
    have hbj := bjoin_any w1 _ _ 25 w1.heap.size 7 rfl rfl rfl (by simp) (by simp) (by rw [hfl, hrl]; omega) hrow
    rw [hfl] at hbj
    have HBJ := Lib.hid hbj
    clear hbj hrow hfl
    clear HT HR HE M0 M1 M4 M7 M10 M18 M23 E19 E22 E25 E28 E31 E33 E38 ep f16 f20 f23 f26 f34 f39
    go_wp2_with fail
    refine HBJ.out.mono ?_
    rintro e w2 ⟨v2, rfl, hy2, hb2⟩
    have hb02 := HB0.out.trans ((btr (btr hb (bal (bre w1) _)) hb2).mono HB0.out.size)
    obtain ⟨a2, c2, rfl, -⟩ := id hy2
    rw [hrl] at hy2 ⊢
    have HY2 := Lib.hid hy2
    have HB02 := Lib.hid hb02
    clear hb2 hy2 hb02
    go_wp2_with fail
    refine (make_any w2).mono ?_
    rintro e w3 ⟨rfl, hb3⟩
    have hb03 := HB02.out.trans (hb3.mono HB02.out.size)
    have HY3 := Lib.hid (HY2.out.below hb3)
    have HB03 := Lib.hid hb03
    clear hb3 hb03
    go_wp2_with fail
    refine (seal_any _ p.raw w3 HY3.out (by rw [hrl]; omega)).mono ?_
    rintro e w4 ⟨v4, rfl, ho4, hb4⟩
    have ho5 := ownsRow_base (base' := w.heap.size) ho4 HB03.out.size
    have HO5 := Lib.hid ho5
    have HB04 := Lib.hid (HB03.out.trans (hb4.mono HB03.out.size))
    clear ho4 hb4 ho5
    go_wp2_with fail
    go_ret2
    exact ⟨v4, rfl, HO5.out, HB04.out⟩
  have st0_4_7_10_18_23_ : ∀ (g16 : Nat) (a20 : Option Addr) (c20 : Nat) (a23 : Option Addr) (c23 : Nat) (a26 : Option Addr) (c26 : Nat) (a34 : Option Addr) (c34 : Nat) (a39 : Option Addr) (c39 : Nat) (w1 : World), Below W.heap.size W w1 → Lit w1 g16 #[.int .u8 104, .int .u8 103] 5 W.heap.size → Bytes w1 (.slice a20 4 c20) (be4 p.gen) → Bytes w1 (.slice a23 4 c23) (be4 p.serial) → Bytes w1 (.slice a26 4 c26) (be4 p.number) → Bytes w1 (.slice a34 3 c34) (UInt8.ofNat p.kind :: be2 p.data.length) → Bytes w1 (.slice a39 rm c39) (List.replicate rm 0) → T 4 #[true, false, true, true, true, true, true, true, true, true, true, true, true, true, true, true, true, true, true, true, true, true, true, true, false, false, false] ((((((A.put (some 16) (.slice (some ⟨g16, 0, none⟩) 2 2)).put (some 20) (.slice a20 4 c20)).put (some 23) (.slice a23 4 c23)).put (some 26) (.slice a26 4 c26)).put (some 34) (.slice a34 3 c34)).put (some 39) (.slice a39 rm c39)) w1 := by
    intro g16 a20 c20 a23 c23 a26 c26 a34 c34 a39 c39 w1 hb f16 f20 f23 f26 f34 f39
    refine HT _ _ _ _ [1] (by rw [HR]; kernel_rfl) (by decide) ?_
    refine List.forall_mem_cons.2 ⟨?_, fun _ h => by cases h⟩
    · refine M1 _ _ _ (by rw [eval_put _ 39 16 _ (by decide), eval_put _ 34 16 _ (by decide), eval_put _ 26 16 _ (by decide), eval_put _ 23 16 _ (by decide), eval_put _ 20 16 _ (by decide)]; exact ep _) f16 (fun w2 hb2 hk2 hl2 => ⟨fun _ => HSB.out w2 (hb.trans hb2), ?_⟩)
      rw [show (#[true, false, true, true, true, true, true, true, true, true, true, true, true, true, true, true, true, true, true, true, true, true, true, true, false, false, false] : Array Bool).setIfInBounds 1 true = #[true, true, true, true, true, true, true, true, true, true, true, true, true, true, true, true, true, true, true, true, true, true, true, true, false, false, false] from by kernel_rfl, put_swap _ 39 17 _ _ (by decide), put_swap _ 34 17 _ _ (by decide), put_swap _ 26 17 _ _ (by decide), put_swap _ 23 17 _ _ (by decide), put_swap _ 20 17 _ _ (by decide)]
      exact st0_1_4_7_10_18_23_ g16 a20 c20 a23 c23 a26 c26 a34 c34 a39 c39 w2 (hb.trans hb2) hl2 (f20.cells hk2) (f23.cells hk2) (f26.cells hk2) (f34.cells hk2) (f39.cells hk2)
  have st0_1_4_7_10_23_ : ∀ (g16 : Nat) (a20 : Option Addr) (c20 : Nat) (a23 : Option Addr) (c23 : Nat) (a26 : Option Addr) (c26 : Nat) (a39 : Option Addr) (c39 : Nat) (w1 : World), Below W.heap.size W w1 → Lit w1 g16 #[.int .u8 104, .int .u8 103] 5 W.heap.size → Bytes w1 (.slice a20 4 c20) (be4 p.gen) → Bytes w1 (.slice a23 4 c23) (be4 p.serial) → Bytes w1 (.slice a26 4 c26) (be4 p.number) → Bytes w1 (.slice a39 rm c39) (List.replicate rm 0) → T 4 #[true, true, true, true, true, true, true, true, true, true, true, true, true, true, true, true, true, true, false, true, true, true, true, true, false, false, false] ((((((A.put (some 16) (.slice (some ⟨g16, 0, none⟩) 2 2)).put (some 17) (.slice (some ⟨g16, 0, none⟩) 2 2)).put (some 20) (.slice a20 4 c20)).put (some 23) (.slice a23 4 c23)).put (some 26) (.slice a26 4 c26)).put (some 39) (.slice a39 rm c39)) w1 := by
    intro g16 a20 c20 a23 c23 a26 c26 a39 c39 w1 hb f16 f20 f23 f26 f39
    refine HT _ _ _ _ [18] (by rw [HR]; kernel_rfl) (by decide) ?_
    refine List.forall_mem_cons.2 ⟨?_, fun _ h => by cases h⟩
    · refine M18 _ _ _ (by rw [eval_put _ 39 28 _ (by decide), eval_put _ 26 28 _ (by decide), eval_put _ 23 28 _ (by decide), eval_put _ 20 28 _ (by decide), eval_put _ 17 28 _ (by decide), eval_put _ 16 28 _ (by decide)]; exact E28) (by rw [eval_put _ 39 31 _ (by decide), eval_put _ 26 31 _ (by decide), eval_put _ 23 31 _ (by decide), eval_put _ 20 31 _ (by decide), eval_put _ 17 31 _ (by decide), eval_put _ 16 31 _ (by decide)]; exact E31) (by rw [eval_put _ 39 33 _ (by decide), eval_put _ 26 33 _ (by decide), eval_put _ 23 33 _ (by decide), eval_put _ 20 33 _ (by decide), eval_put _ 17 33 _ (by decide), eval_put _ 16 33 _ (by decide)]; exact E33) (fun a34 c34 w2 hf hb2 => ⟨fun _ => HSB.out w2 (btr hb hb2), ?_⟩)
      rw [show (#[true, true, true, true, true, true, true, true, true, true, true, true, true, true, true, true, true, true, false, true, true, true, true, true, false, false, false] : Array Bool).setIfInBounds 18 true = #[true, true, true, true, true, true, true, true, true, true, true, true, true, true, true, true, true, true, true, true, true, true, true, true, false, false, false] from by kernel_rfl, put_swap _ 39 34 _ _ (by decide)]
      exact st0_1_4_7_10_18_23_ g16 a20 c20 a23 c23 a26 c26 a34 c34 a39 c39 w2 (btr hb hb2) (f16.below hb2) (f20.below hb2) (f23.below hb2) (f26.below hb2) hf (f39.below hb2)
  have st0_1_4_7_10_18_ : ∀ (g16 : Nat) (a20 : Option Addr) (c20 : Nat) (a23 : Option Addr) (c23 : Nat) (a26 : Option Addr) (c26 : Nat) (a34 : Option Addr) (c34 : Nat) (w1 : World), Below W.heap.size W w1 → Lit w1 g16 #[.int .u8 104, .int .u8 103] 5 W.heap.size → Bytes w1 (.slice a20 4 c20) (be4 p.gen) → Bytes w1 (.slice a23 4 c23) (be4 p.serial) → Bytes w1 (.slice a26 4 c26) (be4 p.number) → Bytes w1 (.slice a34 3 c34) (UInt8.ofNat p.kind :: be2 p.data.length) → T 4 #[true, true, true, true, true, true, true, true, true, true, true, true, true, true, true, true, true, true, true, true, true, true, true, false, false, false, false] ((((((A.put (some 16) (.slice (some ⟨g16, 0, none⟩) 2 2)).put (some 17) (.slice (some ⟨g16, 0, none⟩) 2 2)).put (some 20) (.slice a20 4 c20)).put (some 23) (.slice a23 4 c23)).put (some 26) (.slice a26 4 c26)).put (some 34) (.slice a34 3 c34)) w1 := by
    intro g16 a20 c20 a23 c23 a26 c26 a34 c34 w1 hb f16 f20 f23 f26 f34
    refine HT _ _ _ _ [23] (by rw [HR]; kernel_rfl) (by decide) ?_
    refine List.forall_mem_cons.2 ⟨?_, fun _ h => by cases h⟩
    · refine M23 _ _ _ (by rw [eval_put _ 34 38 _ (by decide), eval_put _ 26 38 _ (by decide), eval_put _ 23 38 _ (by decide), eval_put _ 20 38 _ (by decide), eval_put _ 17 38 _ (by decide), eval_put _ 16 38 _ (by decide)]; exact E38) (fun a39 c39 w2 hf hb2 => ⟨fun _ => HSB.out w2 (btr hb hb2), ?_⟩)
      rw [show (#[true, true, true, true, true, true, true, true, true, true, true, true, true, true, true, true, true, true, true, true, true, true, true, false, false, false, false] : Array Bool).setIfInBounds 23 true = #[true, true, true, true, true, true, true, true, true, true, true, true, true, true, true, true, true, true, true, true, true, true, true, true, false, false, false] from by kernel_rfl]
      exact st0_1_4_7_10_18_23_ g16 a20 c20 a23 c23 a26 c26 a34 c34 a39 c39 w2 (btr hb hb2) (f16.below hb2) (f20.below hb2) (f23.below hb2) (f26.below hb2) (f34.below hb2) hf
  have st0_1_4_7_18_23_ : ∀ (g16 : Nat) (a20 : Option Addr) (c20 : Nat) (a23 : Option Addr) (c23 : Nat) (a34 : Option Addr) (c34 : Nat) (a39 : Option Addr) (c39 : Nat) (w1 : World), Below W.heap.size W w1 → Lit w1 g16 #[.int .u8 104, .int .u8 103] 5 W.heap.size → Bytes w1 (.slice a20 4 c20) (be4 p.gen) → Bytes w1 (.slice a23 4 c23) (be4 p.serial) → Bytes w1 (.slice a34 3 c34) (UInt8.ofNat p.kind :: be2 p.data.length) → Bytes w1 (.slice a39 rm c39) (List.replicate rm 0) → T 4 #[true, true, true, true, true, true, true, true, true, true, false, true, true, true, true, true, true, true, true, true, true, true, true, true, false, false, false] ((((((A.put (some 16) (.slice (some ⟨g16, 0, none⟩) 2 2)).put (some 17) (.slice (some ⟨g16, 0, none⟩) 2 2)).put (some 20) (.slice a20 4 c20)).put (some 23) (.slice a23 4 c23)).put (some 34) (.slice a34 3 c34)).put (some 39) (.slice a39 rm c39)) w1 := by
    intro g16 a20 c20 a23 c23 a34 c34 a39 c39 w1 hb f16 f20 f23 f34 f39
    refine HT _ _ _ _ [10] (by rw [HR]; kernel_rfl) (by decide) ?_
    refine List.forall_mem_cons.2 ⟨?_, fun _ h => by cases h⟩
    · refine M10 _ _ _ (by rw [eval_put _ 39 25 _ (by decide), eval_put _ 34 25 _ (by decide), eval_put _ 23 25 _ (by decide), eval_put _ 20 25 _ (by decide), eval_put _ 17 25 _ (by decide), eval_put _ 16 25 _ (by decide)]; exact E25) (fun a26 c26 w2 hf hb2 => ⟨fun _ => HSB.out w2 (btr hb hb2), ?_⟩)
      rw [show (#[true, true, true, true, true, true, true, true, true, true, false, true, true, true, true, true, true, true, true, true, true, true, true, true, false, false, false] : Array Bool).setIfInBounds 10 true = #[true, true, true, true, true, true, true, true, true, true, true, true, true, true, true, true, true, true, true, true, true, true, true, true, false, false, false] from by kernel_rfl, put_swap _ 39 26 _ _ (by decide), put_swap _ 34 26 _ _ (by decide)]
      exact st0_1_4_7_10_18_23_ g16 a20 c20 a23 c23 a26 c26 a34 c34 a39 c39 w2 (btr hb hb2) (f16.below hb2) (f20.below hb2) (f23.below hb2) hf (f34.below hb2) (f39.below hb2)
  have st0_1_4_18_23_ : ∀ (g16 : Nat) (a20 : Option Addr) (c20 : Nat) (a34 : Option Addr) (c34 : Nat) (a39 : Option Addr) (c39 : Nat) (w1 : World), Below W.heap.size W w1 → Lit w1 g16 #[.int .u8 104, .int .u8 103] 5 W.heap.size → Bytes w1 (.slice a20 4 c20) (be4 p.gen) → Bytes w1 (.slice a34 3 c34) (UInt8.ofNat p.kind :: be2 p.data.length) → Bytes w1 (.slice a39 rm c39) (List.replicate rm 0) → T 5 #[true, true, true, true, true, true, true, false, true, true, false, true, true, true, true, true, true, true, true, true, true, true, true, true, false, false, false] (((((A.put (some 16) (.slice (some ⟨g16, 0, none⟩) 2 2)).put (some 17) (.slice (some ⟨g16, 0, none⟩) 2 2)).put (some 20) (.slice a20 4 c20)).put (some 34) (.slice a34 3 c34)).put (some 39) (.slice a39 rm c39)) w1 := by
    intro g16 a20 c20 a34 c34 a39 c39 w1 hb f16 f20 f34 f39
    refine HT _ _ _ _ [7] (by rw [HR]; kernel_rfl) (by decide) ?_
    refine List.forall_mem_cons.2 ⟨?_, fun _ h => by cases h⟩
    · refine M7 _ _ _ (by rw [eval_put _ 39 22 _ (by decide), eval_put _ 34 22 _ (by decide), eval_put _ 20 22 _ (by decide), eval_put _ 17 22 _ (by decide), eval_put _ 16 22 _ (by decide)]; exact E22) (fun a23 c23 w2 hf hb2 => ⟨fun _ => HSB.out w2 (btr hb hb2), ?_⟩)
      rw [show (#[true, true, true, true, true, true, true, false, true, true, false, true, true, true, true, true, true, true, true, true, true, true, true, true, false, false, false] : Array Bool).setIfInBounds 7 true = #[true, true, true, true, true, true, true, true, true, true, false, true, true, true, true, true, true, true, true, true, true, true, true, true, false, false, false] from by kernel_rfl, put_swap _ 39 23 _ _ (by decide), put_swap _ 34 23 _ _ (by decide)]
      exact st0_1_4_7_18_23_ g16 a20 c20 a23 c23 a34 c34 a39 c39 w2 (btr hb hb2) (f16.below hb2) (f20.below hb2) hf (f34.below hb2) (f39.below hb2)
  have st0_4_7_10_18_ : ∀ (g16 : Nat) (a20 : Option Addr) (c20 : Nat) (a23 : Option Addr) (c23 : Nat) (a26 : Option Addr) (c26 : Nat) (a34 : Option Addr) (c34 : Nat) (w1 : World), Below W.heap.size W w1 → Lit w1 g16 #[.int .u8 104, .int .u8 103] 5 W.heap.size → Bytes w1 (.slice a20 4 c20) (be4 p.gen) → Bytes w1 (.slice a23 4 c23) (be4 p.serial) → Bytes w1 (.slice a26 4 c26) (be4 p.number) → Bytes w1 (.slice a34 3 c34) (UInt8.ofNat p.kind :: be2 p.data.length) → T 5 #[true, false, true, true, true, true, true, true, true, true, true, true, true, true, true, true, true, true, true, true, true, true, true, false, false, false, false] (((((A.put (some 16) (.slice (some ⟨g16, 0, none⟩) 2 2)).put (some 20) (.slice a20 4 c20)).put (some 23) (.slice a23 4 c23)).put (some 26) (.slice a26 4 c26)).put (some 34) (.slice a34 3 c34)) w1 := by
    intro g16 a20 c20 a23 c23 a26 c26 a34 c34 w1 hb f16 f20 f23 f26 f34
    refine HT _ _ _ _ [1, 23] (by rw [HR]; kernel_rfl) (by decide) ?_
    refine List.forall_mem_cons.2 ⟨?_, List.forall_mem_cons.2 ⟨?_, fun _ h => by cases h⟩⟩
    · refine M1 _ _ _ (by rw [eval_put _ 34 16 _ (by decide), eval_put _ 26 16 _ (by decide), eval_put _ 23 16 _ (by decide), eval_put _ 20 16 _ (by decide)]; exact ep _) f16 (fun w2 hb2 hk2 hl2 => ⟨fun _ => HSB.out w2 (hb.trans hb2), ?_⟩)
      rw [show (#[true, false, true, true, true, true, true, true, true, true, true, true, true, true, true, true, true, true, true, true, true, true, true, false, false, false, false] : Array Bool).setIfInBounds 1 true = #[true, true, true, true, true, true, true, true, true, true, true, true, true, true, true, true, true, true, true, true, true, true, true, false, false, false, false] from by kernel_rfl, put_swap _ 34 17 _ _ (by decide), put_swap _ 26 17 _ _ (by decide), put_swap _ 23 17 _ _ (by decide), put_swap _ 20 17 _ _ (by decide)]
      exact st0_1_4_7_10_18_ g16 a20 c20 a23 c23 a26 c26 a34 c34 w2 (hb.trans hb2) hl2 (f20.cells hk2) (f23.cells hk2) (f26.cells hk2) (f34.cells hk2)
    · refine M23 _ _ _ (by rw [eval_put _ 34 38 _ (by decide), eval_put _ 26 38 _ (by decide), eval_put _ 23 38 _ (by decide), eval_put _ 20 38 _ (by decide), eval_put _ 16 38 _ (by decide)]; exact E38) (fun a39 c39 w2 hf hb2 => ⟨fun _ => HSB.out w2 (btr hb hb2), ?_⟩)
      rw [show (#[true, false, true, true, true, true, true, true, true, true, true, true, true, true, true, true, true, true, true, true, true, true, true, false, false, false, false] : Array Bool).setIfInBounds 23 true = #[true, false, true, true, true, true, true, true, true, true, true, true, true, true, true, true, true, true, true, true, true, true, true, true, false, false, false] from by kernel_rfl]
      exact st0_4_7_10_18_23_ g16 a20 c20 a23 c23 a26 c26 a34 c34 a39 c39 w2 (btr hb hb2) (f16.below hb2) (f20.below hb2) (f23.below hb2) (f26.below hb2) (f34.below hb2) hf
  have st0_1_4_7_18_ : ∀ (g16 : Nat) (a20 : Option Addr) (c20 : Nat) (a23 : Option Addr) (c23 : Nat) (a34 : Option Addr) (c34 : Nat) (w1 : World), Below W.heap.size W w1 → Lit w1 g16 #[.int .u8 104, .int .u8 103] 5 W.heap.size → Bytes w1 (.slice a20 4 c20) (be4 p.gen) → Bytes w1 (.slice a23 4 c23) (be4 p.serial) → Bytes w1 (.slice a34 3 c34) (UInt8.ofNat p.kind :: be2 p.data.length) → T 5 #[true, true, true, true, true, true, true, true, true, true, false, true, true, true, true, true, true, true, true, true, true, true, true, false, false, false, false] (((((A.put (some 16) (.slice (some ⟨g16, 0, none⟩) 2 2)).put (some 17) (.slice (some ⟨g16, 0, none⟩) 2 2)).put (some 20) (.slice a20 4 c20)).put (some 23) (.slice a23 4 c23)).put (some 34) (.slice a34 3 c34)) w1 := by
    intro g16 a20 c20 a23 c23 a34 c34 w1 hb f16 f20 f23 f34
    refine HT _ _ _ _ [10, 23] (by rw [HR]; kernel_rfl) (by decide) ?_
    refine List.forall_mem_cons.2 ⟨?_, List.forall_mem_cons.2 ⟨?_, fun _ h => by cases h⟩⟩
    · refine M10 _ _ _ (by rw [eval_put _ 34 25 _ (by decide), eval_put _ 23 25 _ (by decide), eval_put _ 20 25 _ (by decide), eval_put _ 17 25 _ (by decide), eval_put _ 16 25 _ (by decide)]; exact E25) (fun a26 c26 w2 hf hb2 => ⟨fun _ => HSB.out w2 (btr hb hb2), ?_⟩)
      rw [show (#[true, true, true, true, true, true, true, true, true, true, false, true, true, true, true, true, true, true, true, true, true, true, true, false, false, false, false] : Array Bool).setIfInBounds 10 true = #[true, true, true, true, true, true, true, true, true, true, true, true, true, true, true, true, true, true, true, true, true, true, true, false, false, false, false] from by kernel_rfl, put_swap _ 34 26 _ _ (by decide)]
      exact st0_1_4_7_10_18_ g16 a20 c20 a23 c23 a26 c26 a34 c34 w2 (btr hb hb2) (f16.below hb2) (f20.below hb2) (f23.below hb2) hf (f34.below hb2)
    · refine M23 _ _ _ (by rw [eval_put _ 34 38 _ (by decide), eval_put _ 23 38 _ (by decide), eval_put _ 20 38 _ (by decide), eval_put _ 17 38 _ (by decide), eval_put _ 16 38 _ (by decide)]; exact E38) (fun a39 c39 w2 hf hb2 => ⟨fun _ => HSB.out w2 (btr hb hb2), ?_⟩)
      rw [show (#[true, true, true, true, true, true, true, true, true, true, false, true, true, true, true, true, true, true, true, true, true, true, true, false, false, false, false] : Array Bool).setIfInBounds 23 true = #[true, true, true, true, true, true, true, true, true, true, false, true, true, true, true, true, true, true, true, true, true, true, true, true, false, false, false] from by kernel_rfl]
      exact st0_1_4_7_18_23_ g16 a20 c20 a23 c23 a34 c34 a39 c39 w2 (btr hb hb2) (f16.below hb2) (f20.below hb2) (f23.below hb2) (f34.below hb2) hf
  have st0_1_4_7_10_ : ∀ (g16 : Nat) (a20 : Option Addr) (c20 : Nat) (a23 : Option Addr) (c23 : Nat) (a26 : Option Addr) (c26 : Nat) (w1 : World), Below W.heap.size W w1 → Lit w1 g16 #[.int .u8 104, .int .u8 103] 5 W.heap.size → Bytes w1 (.slice a20 4 c20) (be4 p.gen) → Bytes w1 (.slice a23 4 c23) (be4 p.serial) → Bytes w1 (.slice a26 4 c26) (be4 p.number) → T 5 #[true, true, true, true, true, true, true, true, true, true, true, true, true, true, true, true, true, true, false, true, true, true, true, false, false, false, false] (((((A.put (some 16) (.slice (some ⟨g16, 0, none⟩) 2 2)).put (some 17) (.slice (some ⟨g16, 0, none⟩) 2 2)).put (some 20) (.slice a20 4 c20)).put (some 23) (.slice a23 4 c23)).put (some 26) (.slice a26 4 c26)) w1 := by
    intro g16 a20 c20 a23 c23 a26 c26 w1 hb f16 f20 f23 f26
    refine HT _ _ _ _ [18, 23] (by rw [HR]; kernel_rfl) (by decide) ?_
    refine List.forall_mem_cons.2 ⟨?_, List.forall_mem_cons.2 ⟨?_, fun _ h => by cases h⟩⟩
    · refine M18 _ _ _ (by rw [eval_put _ 26 28 _ (by decide), eval_put _ 23 28 _ (by decide), eval_put _ 20 28 _ (by decide), eval_put _ 17 28 _ (by decide), eval_put _ 16 28 _ (by decide)]; exact E28) (by rw [eval_put _ 26 31 _ (by decide), eval_put _ 23 31 _ (by decide), eval_put _ 20 31 _ (by decide), eval_put _ 17 31 _ (by decide), eval_put _ 16 31 _ (by decide)]; exact E31) (by rw [eval_put _ 26 33 _ (by decide), eval_put _ 23 33 _ (by decide), eval_put _ 20 33 _ (by decide), eval_put _ 17 33 _ (by decide), eval_put _ 16 33 _ (by decide)]; exact E33) (fun a34 c34 w2 hf hb2 => ⟨fun _ => HSB.out w2 (btr hb hb2), ?_⟩)
      rw [show (#[true, true, true, true, true, true, true, true, true, true, true, true, true, true, true, true, true, true, false, true, true, true, true, false, false, false, false] : Array Bool).setIfInBounds 18 true = #[true, true, true, true, true, true, true, true, true, true, true, true, true, true, true, true, true, true, true, true, true, true, true, false, false, false, false] from by kernel_rfl]
      exact st0_1_4_7_10_18_ g16 a20 c20 a23 c23 a26 c26 a34 c34 w2 (btr hb hb2) (f16.below hb2) (f20.below hb2) (f23.below hb2) (f26.below hb2) hf
    · refine M23 _ _ _ (by rw [eval_put _ 26 38 _ (by decide), eval_put _ 23 38 _ (by decide), eval_put _ 20 38 _ (by decide), eval_put _ 17 38 _ (by decide), eval_put _ 16 38 _ (by decide)]; exact E38) (fun a39 c39 w2 hf hb2 => ⟨fun _ => HSB.out w2 (btr hb hb2), ?_⟩)
      rw [show (#[true, true, true, true, true, true, true, true, true, true, true, true, true, true, true, true, true, true, false, true, true, true, true, false, false, false, false] : Array Bool).setIfInBounds 23 true = #[true, true, true, true, true, true, true, true, true, true, true, true, true, true, true, true, true, true, false, true, true, true, true, true, false, false, false] from by kernel_rfl]
      exact st0_1_4_7_10_23_ g16 a20 c20 a23 c23 a26 c26 a39 c39 w2 (btr hb hb2) (f16.below hb2) (f20.below hb2) (f23.below hb2) (f26.below hb2) hf
  have st0_4_7_18_23_ : ∀ (g16 : Nat) (a20 : Option Addr) (c20 : Nat) (a23 : Option Addr) (c23 : Nat) (a34 : Option Addr) (c34 : Nat) (a39 : Option Addr) (c39 : Nat) (w1 : World), Below W.heap.size W w1 → Lit w1 g16 #[.int .u8 104, .int .u8 103] 5 W.heap.size → Bytes w1 (.slice a20 4 c20) (be4 p.gen) → Bytes w1 (.slice a23 4 c23) (be4 p.serial) → Bytes w1 (.slice a34 3 c34) (UInt8.ofNat p.kind :: be2 p.data.length) → Bytes w1 (.slice a39 rm c39) (List.replicate rm 0) → T 5 #[true, false, true, true, true, true, true, true, true, true, false, true, true, true, true, true, true, true, true, true, true, true, true, true, false, false, false] (((((A.put (some 16) (.slice (some ⟨g16, 0, none⟩) 2 2)).put (some 20) (.slice a20 4 c20)).put (some 23) (.slice a23 4 c23)).put (some 34) (.slice a34 3 c34)).put (some 39) (.slice a39 rm c39)) w1 := by
    intro g16 a20 c20 a23 c23 a34 c34 a39 c39 w1 hb f16 f20 f23 f34 f39
    refine HT _ _ _ _ [1, 10] (by rw [HR]; kernel_rfl) (by decide) ?_
    refine List.forall_mem_cons.2 ⟨?_, List.forall_mem_cons.2 ⟨?_, fun _ h => by cases h⟩⟩
    · refine M1 _ _ _ (by rw [eval_put _ 39 16 _ (by decide), eval_put _ 34 16 _ (by decide), eval_put _ 23 16 _ (by decide), eval_put _ 20 16 _ (by decide)]; exact ep _) f16 (fun w2 hb2 hk2 hl2 => ⟨fun _ => HSB.out w2 (hb.trans hb2), ?_⟩)
      rw [show (#[true, false, true, true, true, true, true, true, true, true, false, true, true, true, true, true, true, true, true, true, true, true, true, true, false, false, false] : Array Bool).setIfInBounds 1 true = #[true, true, true, true, true, true, true, true, true, true, false, true, true, true, true, true, true, true, true, true, true, true, true, true, false, false, false] from by kernel_rfl, put_swap _ 39 17 _ _ (by decide), put_swap _ 34 17 _ _ (by decide), put_swap _ 23 17 _ _ (by decide), put_swap _ 20 17 _ _ (by decide)]
      exact st0_1_4_7_18_23_ g16 a20 c20 a23 c23 a34 c34 a39 c39 w2 (hb.trans hb2) hl2 (f20.cells hk2) (f23.cells hk2) (f34.cells hk2) (f39.cells hk2)
    · refine M10 _ _ _ (by rw [eval_put _ 39 25 _ (by decide), eval_put _ 34 25 _ (by decide), eval_put _ 23 25 _ (by decide), eval_put _ 20 25 _ (by decide), eval_put _ 16 25 _ (by decide)]; exact E25) (fun a26 c26 w2 hf hb2 => ⟨fun _ => HSB.out w2 (btr hb hb2), ?_⟩)
      rw [show (#[true, false, true, true, true, true, true, true, true, true, false, true, true, true, true, true, true, true, true, true, true, true, true, true, false, false, false] : Array Bool).setIfInBounds 10 true = #[true, false, true, true, true, true, true, true, true, true, true, true, true, true, true, true, true, true, true, true, true, true, true, true, false, false, false] from by kernel_rfl, put_swap _ 39 26 _ _ (by decide), put_swap _ 34 26 _ _ (by decide)]
      exact st0_4_7_10_18_23_ g16 a20 c20 a23 c23 a26 c26 a34 c34 a39 c39 w2 (btr hb hb2) (f16.below hb2) (f20.below hb2) (f23.below hb2) hf (f34.below hb2) (f39.below hb2)
  have st0_1_4_7_23_ : ∀ (g16 : Nat) (a20 : Option Addr) (c20 : Nat) (a23 : Option Addr) (c23 : Nat) (a39 : Option Addr) (c39 : Nat) (w1 : World), Below W.heap.size W w1 → Lit w1 g16 #[.int .u8 104, .int .u8 103] 5 W.heap.size → Bytes w1 (.slice a20 4 c20) (be4 p.gen) → Bytes w1 (.slice a23 4 c23) (be4 p.serial) → Bytes w1 (.slice a39 rm c39) (List.replicate rm 0) → T 5 #[true, true, true, true, true, true, true, true, true, true, false, true, true, true, true, true, true, true, false, true, true, true, true, true, false, false, false] (((((A.put (some 16) (.slice (some ⟨g16, 0, none⟩) 2 2)).put (some 17) (.slice (some ⟨g16, 0, none⟩) 2 2)).put (some 20) (.slice a20 4 c20)).put (some 23) (.slice a23 4 c23)).put (some 39) (.slice a39 rm c39)) w1 := by
    intro g16 a20 c20 a23 c23 a39 c39 w1 hb f16 f20 f23 f39
    refine HT _ _ _ _ [10, 18] (by rw [HR]; kernel_rfl) (by decide) ?_
    refine List.forall_mem_cons.2 ⟨?_, List.forall_mem_cons.2 ⟨?_, fun _ h => by cases h⟩⟩
    · refine M10 _ _ _ (by rw [eval_put _ 39 25 _ (by decide), eval_put _ 23 25 _ (by decide), eval_put _ 20 25 _ (by decide), eval_put _ 17 25 _ (by decide), eval_put _ 16 25 _ (by decide)]; exact E25) (fun a26 c26 w2 hf hb2 => ⟨fun _ => HSB.out w2 (btr hb hb2), ?_⟩)
      rw [show (#[true, true, true, true, true, true, true, true, true, true, false, true, true, true, true, true, true, true, false, true, true, true, true, true, false, false, false] : Array Bool).setIfInBounds 10 true = #[true, true, true, true, true, true, true, true, true, true, true, true, true, true, true, true, true, true, false, true, true, true, true, true, false, false, false] from by kernel_rfl, put_swap _ 39 26 _ _ (by decide)]
      exact st0_1_4_7_10_23_ g16 a20 c20 a23 c23 a26 c26 a39 c39 w2 (btr hb hb2) (f16.below hb2) (f20.below hb2) (f23.below hb2) hf (f39.below hb2)
    · refine M18 _ _ _ (by rw [eval_put _ 39 28 _ (by decide), eval_put _ 23 28 _ (by decide), eval_put _ 20 28 _ (by decide), eval_put _ 17 28 _ (by decide), eval_put _ 16 28 _ (by decide)]; exact E28) (by rw [eval_put _ 39 31 _ (by decide), eval_put _ 23 31 _ (by decide), eval_put _ 20 31 _ (by decide), eval_put _ 17 31 _ (by decide), eval_put _ 16 31 _ (by decide)]; exact E31) (by rw [eval_put _ 39 33 _ (by decide), eval_put _ 23 33 _ (by decide), eval_put _ 20 33 _ (by decide), eval_put _ 17 33 _ (by decide), eval_put _ 16 33 _ (by decide)]; exact E33) (fun a34 c34 w2 hf hb2 => ⟨fun _ => HSB.out w2 (btr hb hb2), ?_⟩)
      rw [show (#[true, true, true, true, true, true, true, true, true, true, false, true, true, true, true, true, true, true, false, true, true, true, true, true, false, false, false] : Array Bool).setIfInBounds 18 true = #[true, true, true, true, true, true, true, true, true, true, false, true, true, true, true, true, true, true, true, true, true, true, true, true, false, false, false] from by kernel_rfl, put_swap _ 39 34 _ _ (by decide)]
      exact st0_1_4_7_18_23_ g16 a20 c20 a23 c23 a34 c34 a39 c39 w2 (btr hb hb2) (f16.below hb2) (f20.below hb2) (f23.below hb2) hf (f39.below hb2)
  have st4_7_10_18_23_ : ∀ (a20 : Option Addr) (c20 : Nat) (a23 : Option Addr) (c23 : Nat) (a26 : Option Addr) (c26 : Nat) (a34 : Option Addr) (c34 : Nat) (a39 : Option Addr) (c39 : Nat) (w1 : World), Below W.heap.size W w1 → Bytes w1 (.slice a20 4 c20) (be4 p.gen) → Bytes w1 (.slice a23 4 c23) (be4 p.serial) → Bytes w1 (.slice a26 4 c26) (be4 p.number) → Bytes w1 (.slice a34 3 c34) (UInt8.ofNat p.kind :: be2 p.data.length) → Bytes w1 (.slice a39 rm c39) (List.replicate rm 0) → T 5 #[false, false, true, true, true, true, true, true, true, true, true, true, true, true, true, true, true, true, true, true, true, true, true, true, false, false, false] (((((A.put (some 20) (.slice a20 4 c20)).put (some 23) (.slice a23 4 c23)).put (some 26) (.slice a26 4 c26)).put (some 34) (.slice a34 3 c34)).put (some 39) (.slice a39 rm c39)) w1 := by
    intro a20 c20 a23 c23 a26 c26 a34 c34 a39 c39 w1 hb f20 f23 f26 f34 f39
    refine HT _ _ _ _ [0] (by rw [HR]; kernel_rfl) (by decide) ?_
    refine List.forall_mem_cons.2 ⟨?_, fun _ h => by cases h⟩
    · refine M0 _ _ _ hb  (fun g16 w2 hf hb2 => ⟨fun _ => HSB.out w2 (btr hb hb2), ?_⟩)
      rw [show (#[false, false, true, true, true, true, true, true, true, true, true, true, true, true, true, true, true, true, true, true, true, true, true, true, false, false, false] : Array Bool).setIfInBounds 0 true = #[true, false, true, true, true, true, true, true, true, true, true, true, true, true, true, true, true, true, true, true, true, true, true, true, false, false, false] from by kernel_rfl, put_swap _ 39 16 _ _ (by decide), put_swap _ 34 16 _ _ (by decide), put_swap _ 26 16 _ _ (by decide), put_swap _ 23 16 _ _ (by decide), put_swap _ 20 16 _ _ (by decide)]
      exact st0_4_7_10_18_23_ g16 a20 c20 a23 c23 a26 c26 a34 c34 a39 c39 w2 (btr hb hb2) hf (f20.below hb2) (f23.below hb2) (f26.below hb2) (f34.below hb2) (f39.below hb2)
  have st0_4_7_10_23_ : ∀ (g16 : Nat) (a20 : Option Addr) (c20 : Nat) (a23 : Option Addr) (c23 : Nat) (a26 : Option Addr) (c26 : Nat) (a39 : Option Addr) (c39 : Nat) (w1 : World), Below W.heap.size W w1 → Lit w1 g16 #[.int .u8 104, .int .u8 103] 5 W.heap.size → Bytes w1 (.slice a20 4 c20) (be4 p.gen) → Bytes w1 (.slice a23 4 c23) (be4 p.serial) → Bytes w1 (.slice a26 4 c26) (be4 p.number) → Bytes w1 (.slice a39 rm c39) (List.replicate rm 0) → T 5 #[true, false, true, true, true, true, true, true, true, true, true, true, true, true, true, true, true, true, false, true, true, true, true, true, false, false, false] (((((A.put (some 16) (.slice (some ⟨g16, 0, none⟩) 2 2)).put (some 20) (.slice a20 4 c20)).put (some 23) (.slice a23 4 c23)).put (some 26) (.slice a26 4 c26)).put (some 39) (.slice a39 rm c39)) w1 := by
    intro g16 a20 c20 a23 c23 a26 c26 a39 c39 w1 hb f16 f20 f23 f26 f39
    refine HT _ _ _ _ [1, 18] (by rw [HR]; kernel_rfl) (by decide) ?_
    refine List.forall_mem_cons.2 ⟨?_, List.forall_mem_cons.2 ⟨?_, fun _ h => by cases h⟩⟩
    · refine M1 _ _ _ (by rw [eval_put _ 39 16 _ (by decide), eval_put _ 26 16 _ (by decide), eval_put _ 23 16 _ (by decide), eval_put _ 20 16 _ (by decide)]; exact ep _) f16 (fun w2 hb2 hk2 hl2 => ⟨fun _ => HSB.out w2 (hb.trans hb2), ?_⟩)
      rw [show (#[true, false, true, true, true, true, true, true, true, true, true, true, true, true, true, true, true, true, false, true, true, true, true, true, false, false, false] : Array Bool).setIfInBounds 1 true = #[true, true, true, true, true, true, true, true, true, true, true, true, true, true, true, true, true, true, false, true, true, true, true, true, false, false, false] from by kernel_rfl, put_swap _ 39 17 _ _ (by decide), put_swap _ 26 17 _ _ (by decide), put_swap _ 23 17 _ _ (by decide), put_swap _ 20 17 _ _ (by decide)]
      exact st0_1_4_7_10_23_ g16 a20 c20 a23 c23 a26 c26 a39 c39 w2 (hb.trans hb2) hl2 (f20.cells hk2) (f23.cells hk2) (f26.cells hk2) (f39.cells hk2)
    · refine M18 _ _ _ (by rw [eval_put _ 39 28 _ (by decide), eval_put _ 26 28 _ (by decide), eval_put _ 23 28 _ (by decide), eval_put _ 20 28 _ (by decide), eval_put _ 16 28 _ (by decide)]; exact E28) (by rw [eval_put _ 39 31 _ (by decide), eval_put _ 26 31 _ (by decide), eval_put _ 23 31 _ (by decide), eval_put _ 20 31 _ (by decide), eval_put _ 16 31 _ (by decide)]; exact E31) (by rw [eval_put _ 39 33 _ (by decide), eval_put _ 26 33 _ (by decide), eval_put _ 23 33 _ (by decide), eval_put _ 20 33 _ (by decide), eval_put _ 16 33 _ (by decide)]; exact E33) (fun a34 c34 w2 hf hb2 => ⟨fun _ => HSB.out w2 (btr hb hb2), ?_⟩)
      rw [show (#[true, false, true, true, true, true, true, true, true, true, true, true, true, true, true, true, true, true, false, true, true, true, true, true, false, false, false] : Array Bool).setIfInBounds 18 true = #[true, false, true, true, true, true, true, true, true, true, true, true, true, true, true, true, true, true, true, true, true, true, true, true, false, false, false] from by kernel_rfl, put_swap _ 39 34 _ _ (by decide)]
      exact st0_4_7_10_18_23_ g16 a20 c20 a23 c23 a26 c26 a34 c34 a39 c39 w2 (btr hb hb2) (f16.below hb2) (f20.below hb2) (f23.below hb2) (f26.below hb2) hf (f39.below hb2)
  have st0_4_7_18_ : ∀ (g16 : Nat) (a20 : Option Addr) (c20 : Nat) (a23 : Option Addr) (c23 : Nat) (a34 : Option Addr) (c34 : Nat) (w1 : World), Below W.heap.size W w1 → Lit w1 g16 #[.int .u8 104, .int .u8 103] 5 W.heap.size → Bytes w1 (.slice a20 4 c20) (be4 p.gen) → Bytes w1 (.slice a23 4 c23) (be4 p.serial) → Bytes w1 (.slice a34 3 c34) (UInt8.ofNat p.kind :: be2 p.data.length) → T 6 #[true, false, true, true, true, true, true, true, true, true, false, true, true, true, true, true, true, true, true, true, true, true, true, false, false, false, false] ((((A.put (some 16) (.slice (some ⟨g16, 0, none⟩) 2 2)).put (some 20) (.slice a20 4 c20)).put (some 23) (.slice a23 4 c23)).put (some 34) (.slice a34 3 c34)) w1 := by
    intro g16 a20 c20 a23 c23 a34 c34 w1 hb f16 f20 f23 f34
    refine HT _ _ _ _ [1, 10, 23] (by rw [HR]; kernel_rfl) (by decide) ?_
    refine List.forall_mem_cons.2 ⟨?_, List.forall_mem_cons.2 ⟨?_, List.forall_mem_cons.2 ⟨?_, fun _ h => by cases h⟩⟩⟩
    · refine M1 _ _ _ (by rw [eval_put _ 34 16 _ (by decide), eval_put _ 23 16 _ (by decide), eval_put _ 20 16 _ (by decide)]; exact ep _) f16 (fun w2 hb2 hk2 hl2 => ⟨fun _ => HSB.out w2 (hb.trans hb2), ?_⟩)
      rw [show (#[true, false, true, true, true, true, true, true, true, true, false, true, true, true, true, true, true, true, true, true, true, true, true, false, false, false, false] : Array Bool).setIfInBounds 1 true = #[true, true, true, true, true, true, true, true, true, true, false, true, true, true, true, true, true, true, true, true, true, true, true, false, false, false, false] from by kernel_rfl, put_swap _ 34 17 _ _ (by decide), put_swap _ 23 17 _ _ (by decide), put_swap _ 20 17 _ _ (by decide)]
      exact st0_1_4_7_18_ g16 a20 c20 a23 c23 a34 c34 w2 (hb.trans hb2) hl2 (f20.cells hk2) (f23.cells hk2) (f34.cells hk2)
    · refine M10 _ _ _ (by rw [eval_put _ 34 25 _ (by decide), eval_put _ 23 25 _ (by decide), eval_put _ 20 25 _ (by decide), eval_put _ 16 25 _ (by decide)]; exact E25) (fun a26 c26 w2 hf hb2 => ⟨fun _ => HSB.out w2 (btr hb hb2), ?_⟩)
      rw [show (#[true, false, true, true, true, true, true, true, true, true, false, true, true, true, true, true, true, true, true, true, true, true, true, false, false, false, false] : Array Bool).setIfInBounds 10 true = #[true, false, true, true, true, true, true, true, true, true, true, true, true, true, true, true, true, true, true, true, true, true, true, false, false, false, false] from by kernel_rfl, put_swap _ 34 26 _ _ (by decide)]
      exact st0_4_7_10_18_ g16 a20 c20 a23 c23 a26 c26 a34 c34 w2 (btr hb hb2) (f16.below hb2) (f20.below hb2) (f23.below hb2) hf (f34.below hb2)
    · refine M23 _ _ _ (by rw [eval_put _ 34 38 _ (by decide), eval_put _ 23 38 _ (by decide), eval_put _ 20 38 _ (by decide), eval_put _ 16 38 _ (by decide)]; exact E38) (fun a39 c39 w2 hf hb2 => ⟨fun _ => HSB.out w2 (btr hb hb2), ?_⟩)
      rw [show (#[true, false, true, true, true, true, true, true, true, true, false, true, true, true, true, true, true, true, true, true, true, true, true, false, false, false, false] : Array Bool).setIfInBounds 23 true = #[true, false, true, true, true, true, true, true, true, true, false, true, true, true, true, true, true, true, true, true, true, true, true, true, false, false, false] from by kernel_rfl]
      exact st0_4_7_18_23_ g16 a20 c20 a23 c23 a34 c34 a39 c39 w2 (btr hb hb2) (f16.below hb2) (f20.below hb2) (f23.below hb2) (f34.below hb2) hf
  have st0_1_4_7_ : ∀ (g16 : Nat) (a20 : Option Addr) (c20 : Nat) (a23 : Option Addr) (c23 : Nat) (w1 : World), Below W.heap.size W w1 → Lit w1 g16 #[.int .u8 104, .int .u8 103] 5 W.heap.size → Bytes w1 (.slice a20 4 c20) (be4 p.gen) → Bytes w1 (.slice a23 4 c23) (be4 p.serial) → T 6 #[true, true, true, true, true, true, true, true, true, true, false, true, true, true, true, true, true, true, false, true, true, true, true, false, false, false, false] ((((A.put (some 16) (.slice (some ⟨g16, 0, none⟩) 2 2)).put (some 17) (.slice (some ⟨g16, 0, none⟩) 2 2)).put (some 20) (.slice a20 4 c20)).put (some 23) (.slice a23 4 c23)) w1 := by
    intro g16 a20 c20 a23 c23 w1 hb f16 f20 f23
    refine HT _ _ _ _ [10, 18, 23] (by rw [HR]; kernel_rfl) (by decide) ?_
    refine List.forall_mem_cons.2 ⟨?_, List.forall_mem_cons.2 ⟨?_, List.forall_mem_cons.2 ⟨?_, fun _ h => by cases h⟩⟩⟩
    · refine M10 _ _ _ (by rw [eval_put _ 23 25 _ (by decide), eval_put _ 20 25 _ (by decide), eval_put _ 17 25 _ (by decide), eval_put _ 16 25 _ (by decide)]; exact E25) (fun a26 c26 w2 hf hb2 => ⟨fun _ => HSB.out w2 (btr hb hb2), ?_⟩)
      rw [show (#[true, true, true, true, true, true, true, true, true, true, false, true, true, true, true, true, true, true, false, true, true, true, true, false, false, false, false] : Array Bool).setIfInBounds 10 true = #[true, true, true, true, true, true, true, true, true, true, true, true, true, true, true, true, true, true, false, true, true, true, true, false, false, false, false] from by kernel_rfl]
      exact st0_1_4_7_10_ g16 a20 c20 a23 c23 a26 c26 w2 (btr hb hb2) (f16.below hb2) (f20.below hb2) (f23.below hb2) hf
    · refine M18 _ _ _ (by rw [eval_put _ 23 28 _ (by decide), eval_put _ 20 28 _ (by decide), eval_put _ 17 28 _ (by decide), eval_put _ 16 28 _ (by decide)]; exact E28) (by rw [eval_put _ 23 31 _ (by decide), eval_put _ 20 31 _ (by decide), eval_put _ 17 31 _ (by decide), eval_put _ 16 31 _ (by decide)]; exact E31) (by rw [eval_put _ 23 33 _ (by decide), eval_put _ 20 33 _ (by decide), eval_put _ 17 33 _ (by decide), eval_put _ 16 33 _ (by decide)]; exact E33) (fun a34 c34 w2 hf hb2 => ⟨fun _ => HSB.out w2 (btr hb hb2), ?_⟩)
      rw [show (#[true, true, true, true, true, true, true, true, true, true, false, true, true, true, true, true, true, true, false, true, true, true, true, false, false, false, false] : Array Bool).setIfInBounds 18 true = #[true, true, true, true, true, true, true, true, true, true, false, true, true, true, true, true, true, true, true, true, true, true, true, false, false, false, false] from by kernel_rfl]
      exact st0_1_4_7_18_ g16 a20 c20 a23 c23 a34 c34 w2 (btr hb hb2) (f16.below hb2) (f20.below hb2) (f23.below hb2) hf
    · refine M23 _ _ _ (by rw [eval_put _ 23 38 _ (by decide), eval_put _ 20 38 _ (by decide), eval_put _ 17 38 _ (by decide), eval_put _ 16 38 _ (by decide)]; exact E38) (fun a39 c39 w2 hf hb2 => ⟨fun _ => HSB.out w2 (btr hb hb2), ?_⟩)
      rw [show (#[true, true, true, true, true, true, true, true, true, true, false, true, true, true, true, true, true, true, false, true, true, true, true, false, false, false, false] : Array Bool).setIfInBounds 23 true = #[true, true, true, true, true, true, true, true, true, true, false, true, true, true, true, true, true, true, false, true, true, true, true, true, false, false, false] from by kernel_rfl]
      exact st0_1_4_7_23_ g16 a20 c20 a23 c23 a39 c39 w2 (btr hb hb2) (f16.below hb2) (f20.below hb2) (f23.below hb2) hf
  have st0_4_18_23_ : ∀ (g16 : Nat) (a20 : Option Addr) (c20 : Nat) (a34 : Option Addr) (c34 : Nat) (a39 : Option Addr) (c39 : Nat) (w1 : World), Below W.heap.size W w1 → Lit w1 g16 #[.int .u8 104, .int .u8 103] 5 W.heap.size → Bytes w1 (.slice a20 4 c20) (be4 p.gen) → Bytes w1 (.slice a34 3 c34) (UInt8.ofNat p.kind :: be2 p.data.length) → Bytes w1 (.slice a39 rm c39) (List.replicate rm 0) → T 6 #[true, false, true, true, true, true, true, false, true, true, false, true, true, true, true, true, true, true, true, true, true, true, true, true, false, false, false] ((((A.put (some 16) (.slice (some ⟨g16, 0, none⟩) 2 2)).put (some 20) (.slice a20 4 c20)).put (some 34) (.slice a34 3 c34)).put (some 39) (.slice a39 rm c39)) w1 := by
    intro g16 a20 c20 a34 c34 a39 c39 w1 hb f16 f20 f34 f39
    refine HT _ _ _ _ [1, 7] (by rw [HR]; kernel_rfl) (by decide) ?_
    refine List.forall_mem_cons.2 ⟨?_, List.forall_mem_cons.2 ⟨?_, fun _ h => by cases h⟩⟩
    · refine M1 _ _ _ (by rw [eval_put _ 39 16 _ (by decide), eval_put _ 34 16 _ (by decide), eval_put _ 20 16 _ (by decide)]; exact ep _) f16 (fun w2 hb2 hk2 hl2 => ⟨fun _ => HSB.out w2 (hb.trans hb2), ?_⟩)
      rw [show (#[true, false, true, true, true, true, true, false, true, true, false, true, true, true, true, true, true, true, true, true, true, true, true, true, false, false, false] : Array Bool).setIfInBounds 1 true = #[true, true, true, true, true, true, true, false, true, true, false, true, true, true, true, true, true, true, true, true, true, true, true, true, false, false, false] from by kernel_rfl, put_swap _ 39 17 _ _ (by decide), put_swap _ 34 17 _ _ (by decide), put_swap _ 20 17 _ _ (by decide)]
      exact st0_1_4_18_23_ g16 a20 c20 a34 c34 a39 c39 w2 (hb.trans hb2) hl2 (f20.cells hk2) (f34.cells hk2) (f39.cells hk2)
    · refine M7 _ _ _ (by rw [eval_put _ 39 22 _ (by decide), eval_put _ 34 22 _ (by decide), eval_put _ 20 22 _ (by decide), eval_put _ 16 22 _ (by decide)]; exact E22) (fun a23 c23 w2 hf hb2 => ⟨fun _ => HSB.out w2 (btr hb hb2), ?_⟩)
      rw [show (#[true, false, true, true, true, true, true, false, true, true, false, true, true, true, true, true, true, true, true, true, true, true, true, true, false, false, false] : Array Bool).setIfInBounds 7 true = #[true, false, true, true, true, true, true, true, true, true, false, true, true, true, true, true, true, true, true, true, true, true, true, true, false, false, false] from by kernel_rfl, put_swap _ 39 23 _ _ (by decide), put_swap _ 34 23 _ _ (by decide)]
      exact st0_4_7_18_23_ g16 a20 c20 a23 c23 a34 c34 a39 c39 w2 (btr hb hb2) (f16.below hb2) (f20.below hb2) hf (f34.below hb2) (f39.below hb2)
  have st0_1_4_23_ : ∀ (g16 : Nat) (a20 : Option Addr) (c20 : Nat) (a39 : Option Addr) (c39 : Nat) (w1 : World), Below W.heap.size W w1 → Lit w1 g16 #[.int .u8 104, .int .u8 103] 5 W.heap.size → Bytes w1 (.slice a20 4 c20) (be4 p.gen) → Bytes w1 (.slice a39 rm c39) (List.replicate rm 0) → T 6 #[true, true, true, true, true, true, true, false, true, true, false, true, true, true, true, true, true, true, false, true, true, true, true, true, false, false, false] ((((A.put (some 16) (.slice (some ⟨g16, 0, none⟩) 2 2)).put (some 17) (.slice (some ⟨g16, 0, none⟩) 2 2)).put (some 20) (.slice a20 4 c20)).put (some 39) (.slice a39 rm c39)) w1 := by
    intro g16 a20 c20 a39 c39 w1 hb f16 f20 f39
    refine HT _ _ _ _ [7, 18] (by rw [HR]; kernel_rfl) (by decide) ?_
    refine List.forall_mem_cons.2 ⟨?_, List.forall_mem_cons.2 ⟨?_, fun _ h => by cases h⟩⟩
    · refine M7 _ _ _ (by rw [eval_put _ 39 22 _ (by decide), eval_put _ 20 22 _ (by decide), eval_put _ 17 22 _ (by decide), eval_put _ 16 22 _ (by decide)]; exact E22) (fun a23 c23 w2 hf hb2 => ⟨fun _ => HSB.out w2 (btr hb hb2), ?_⟩)
      rw [show (#[true, true, true, true, true, true, true, false, true, true, false, true, true, true, true, true, true, true, false, true, true, true, true, true, false, false, false] : Array Bool).setIfInBounds 7 true = #[true, true, true, true, true, true, true, true, true, true, false, true, true, true, true, true, true, true, false, true, true, true, true, true, false, false, false] from by kernel_rfl, put_swap _ 39 23 _ _ (by decide)]
      exact st0_1_4_7_23_ g16 a20 c20 a23 c23 a39 c39 w2 (btr hb hb2) (f16.below hb2) (f20.below hb2) hf (f39.below hb2)
    · refine M18 _ _ _ (by rw [eval_put _ 39 28 _ (by decide), eval_put _ 20 28 _ (by decide), eval_put _ 17 28 _ (by decide), eval_put _ 16 28 _ (by decide)]; exact E28) (by rw [eval_put _ 39 31 _ (by decide), eval_put _ 20 31 _ (by decide), eval_put _ 17 31 _ (by decide), eval_put _ 16 31 _ (by decide)]; exact E31) (by rw [eval_put _ 39 33 _ (by decide), eval_put _ 20 33 _ (by decide), eval_put _ 17 33 _ (by decide), eval_put _ 16 33 _ (by decide)]; exact E33) (fun a34 c34 w2 hf hb2 => ⟨fun _ => HSB.out w2 (btr hb hb2), ?_⟩)
      rw [show (#[true, true, true, true, true, true, true, false, true, true, false, true, true, true, true, true, true, true, false, true, true, true, true, true, false, false, false] : Array Bool).setIfInBounds 18 true = #[true, true, true, true, true, true, true, false, true, true, false, true, true, true, true, true, true, true, true, true, true, true, true, true, false, false, false] from by kernel_rfl, put_swap _ 39 34 _ _ (by decide)]
      exact st0_1_4_18_23_ g16 a20 c20 a34 c34 a39 c39 w2 (btr hb hb2) (f16.below hb2) (f20.below hb2) hf (f39.below hb2)
  have st0_4_7_10_ : ∀ (g16 : Nat) (a20 : Option Addr) (c20 : Nat) (a23 : Option Addr) (c23 : Nat) (a26 : Option Addr) (c26 : Nat) (w1 : World), Below W.heap.size W w1 → Lit w1 g16 #[.int .u8 104, .int .u8 103] 5 W.heap.size → Bytes w1 (.slice a20 4 c20) (be4 p.gen) → Bytes w1 (.slice a23 4 c23) (be4 p.serial) → Bytes w1 (.slice a26 4 c26) (be4 p.number) → T 6 #[true, false, true, true, true, true, true, true, true, true, true, true, true, true, true, true, true, true, false, true, true, true, true, false, false, false, false] ((((A.put (some 16) (.slice (some ⟨g16, 0, none⟩) 2 2)).put (some 20) (.slice a20 4 c20)).put (some 23) (.slice a23 4 c23)).put (some 26) (.slice a26 4 c26)) w1 := by
    intro g16 a20 c20 a23 c23 a26 c26 w1 hb f16 f20 f23 f26
    refine HT _ _ _ _ [1, 18, 23] (by rw [HR]; kernel_rfl) (by decide) ?_
    refine List.forall_mem_cons.2 ⟨?_, List.forall_mem_cons.2 ⟨?_, List.forall_mem_cons.2 ⟨?_, fun _ h => by cases h⟩⟩⟩
    · refine M1 _ _ _ (by rw [eval_put _ 26 16 _ (by decide), eval_put _ 23 16 _ (by decide), eval_put _ 20 16 _ (by decide)]; exact ep _) f16 (fun w2 hb2 hk2 hl2 => ⟨fun _ => HSB.out w2 (hb.trans hb2), ?_⟩)
      rw [show (#[true, false, true, true, true, true, true, true, true, true, true, true, true, true, true, true, true, true, false, true, true, true, true, false, false, false, false] : Array Bool).setIfInBounds 1 true = #[true, true, true, true, true, true, true, true, true, true, true, true, true, true, true, true, true, true, false, true, true, true, true, false, false, false, false] from by kernel_rfl, put_swap _ 26 17 _ _ (by decide), put_swap _ 23 17 _ _ (by decide), put_swap _ 20 17 _ _ (by decide)]
      exact st0_1_4_7_10_ g16 a20 c20 a23 c23 a26 c26 w2 (hb.trans hb2) hl2 (f20.cells hk2) (f23.cells hk2) (f26.cells hk2)
    · refine M18 _ _ _ (by rw [eval_put _ 26 28 _ (by decide), eval_put _ 23 28 _ (by decide), eval_put _ 20 28 _ (by decide), eval_put _ 16 28 _ (by decide)]; exact E28) (by rw [eval_put _ 26 31 _ (by decide), eval_put _ 23 31 _ (by decide), eval_put _ 20 31 _ (by decide), eval_put _ 16 31 _ (by decide)]; exact E31) (by rw [eval_put _ 26 33 _ (by decide), eval_put _ 23 33 _ (by decide), eval_put _ 20 33 _ (by decide), eval_put _ 16 33 _ (by decide)]; exact E33) (fun a34 c34 w2 hf hb2 => ⟨fun _ => HSB.out w2 (btr hb hb2), ?_⟩)
      rw [show (#[true, false, true, true, true, true, true, true, true, true, true, true, true, true, true, true, true, true, false, true, true, true, true, false, false, false, false] : Array Bool).setIfInBounds 18 true = #[true, false, true, true, true, true, true, true, true, true, true, true, true, true, true, true, true, true, true, true, true, true, true, false, false, false, false] from by kernel_rfl]
      exact st0_4_7_10_18_ g16 a20 c20 a23 c23 a26 c26 a34 c34 w2 (btr hb hb2) (f16.below hb2) (f20.below hb2) (f23.below hb2) (f26.below hb2) hf
    · refine M23 _ _ _ (by rw [eval_put _ 26 38 _ (by decide), eval_put _ 23 38 _ (by decide), eval_put _ 20 38 _ (by decide), eval_put _ 16 38 _ (by decide)]; exact E38) (fun a39 c39 w2 hf hb2 => ⟨fun _ => HSB.out w2 (btr hb hb2), ?_⟩)
      rw [show (#[true, false, true, true, true, true, true, true, true, true, true, true, true, true, true, true, true, true, false, true, true, true, true, false, false, false, false] : Array Bool).setIfInBounds 23 true = #[true, false, true, true, true, true, true, true, true, true, true, true, true, true, true, true, true, true, false, true, true, true, true, true, false, false, false] from by kernel_rfl]
      exact st0_4_7_10_23_ g16 a20 c20 a23 c23 a26 c26 a39 c39 w2 (btr hb hb2) (f16.below hb2) (f20.below hb2) (f23.below hb2) (f26.below hb2) hf
  have st4_7_18_23_ : ∀ (a20 : Option Addr) (c20 : Nat) (a23 : Option Addr) (c23 : Nat) (a34 : Option Addr) (c34 : Nat) (a39 : Option Addr) (c39 : Nat) (w1 : World), Below W.heap.size W w1 → Bytes w1 (.slice a20 4 c20) (be4 p.gen) → Bytes w1 (.slice a23 4 c23) (be4 p.serial) → Bytes w1 (.slice a34 3 c34) (UInt8.ofNat p.kind :: be2 p.data.length) → Bytes w1 (.slice a39 rm c39) (List.replicate rm 0) → T 6 #[false, false, true, true, true, true, true, true, true, true, false, true, true, true, true, true, true, true, true, true, true, true, true, true, false, false, false] ((((A.put (some 20) (.slice a20 4 c20)).put (some 23) (.slice a23 4 c23)).put (some 34) (.slice a34 3 c34)).put (some 39) (.slice a39 rm c39)) w1 := by
    intro a20 c20 a23 c23 a34 c34 a39 c39 w1 hb f20 f23 f34 f39
    refine HT _ _ _ _ [0, 10] (by rw [HR]; kernel_rfl) (by decide) ?_
    refine List.forall_mem_cons.2 ⟨?_, List.forall_mem_cons.2 ⟨?_, fun _ h => by cases h⟩⟩
    · refine M0 _ _ _ hb  (fun g16 w2 hf hb2 => ⟨fun _ => HSB.out w2 (btr hb hb2), ?_⟩)
      rw [show (#[false, false, true, true, true, true, true, true, true, true, false, true, true, true, true, true, true, true, true, true, true, true, true, true, false, false, false] : Array Bool).setIfInBounds 0 true = #[true, false, true, true, true, true, true, true, true, true, false, true, true, true, true, true, true, true, true, true, true, true, true, true, false, false, false] from by kernel_rfl, put_swap _ 39 16 _ _ (by decide), put_swap _ 34 16 _ _ (by decide), put_swap _ 23 16 _ _ (by decide), put_swap _ 20 16 _ _ (by decide)]
      exact st0_4_7_18_23_ g16 a20 c20 a23 c23 a34 c34 a39 c39 w2 (btr hb hb2) hf (f20.below hb2) (f23.below hb2) (f34.below hb2) (f39.below hb2)
    · refine M10 _ _ _ (by rw [eval_put _ 39 25 _ (by decide), eval_put _ 34 25 _ (by decide), eval_put _ 23 25 _ (by decide), eval_put _ 20 25 _ (by decide)]; exact E25) (fun a26 c26 w2 hf hb2 => ⟨fun _ => HSB.out w2 (btr hb hb2), ?_⟩)
      rw [show (#[false, false, true, true, true, true, true, true, true, true, false, true, true, true, true, true, true, true, true, true, true, true, true, true, false, false, false] : Array Bool).setIfInBounds 10 true = #[false, false, true, true, true, true, true, true, true, true, true, true, true, true, true, true, true, true, true, true, true, true, true, true, false, false, false] from by kernel_rfl, put_swap _ 39 26 _ _ (by decide), put_swap _ 34 26 _ _ (by decide)]
      exact st4_7_10_18_23_ a20 c20 a23 c23 a26 c26 a34 c34 a39 c39 w2 (btr hb hb2) (f20.below hb2) (f23.below hb2) hf (f34.below hb2) (f39.below hb2)
  have st0_1_18_23_ : ∀ (g16 : Nat) (a34 : Option Addr) (c34 : Nat) (a39 : Option Addr) (c39 : Nat) (w1 : World), Below W.heap.size W w1 → Lit w1 g16 #[.int .u8 104, .int .u8 103] 5 W.heap.size → Bytes w1 (.slice a34 3 c34) (UInt8.ofNat p.kind :: be2 p.data.length) → Bytes w1 (.slice a39 rm c39) (List.replicate rm 0) → T 6 #[true, true, true, true, false, true, true, false, true, true, false, true, true, true, true, true, true, true, true, true, true, true, true, true, false, false, false] ((((A.put (some 16) (.slice (some ⟨g16, 0, none⟩) 2 2)).put (some 17) (.slice (some ⟨g16, 0, none⟩) 2 2)).put (some 34) (.slice a34 3 c34)).put (some 39) (.slice a39 rm c39)) w1 := by
    intro g16 a34 c34 a39 c39 w1 hb f16 f34 f39
    refine HT _ _ _ _ [4] (by rw [HR]; kernel_rfl) (by decide) ?_
    refine List.forall_mem_cons.2 ⟨?_, fun _ h => by cases h⟩
    · refine M4 _ _ _ (by rw [eval_put _ 39 19 _ (by decide), eval_put _ 34 19 _ (by decide), eval_put _ 17 19 _ (by decide), eval_put _ 16 19 _ (by decide)]; exact E19) (fun a20 c20 w2 hf hb2 => ⟨fun _ => HSB.out w2 (btr hb hb2), ?_⟩)
      rw [show (#[true, true, true, true, false, true, true, false, true, true, false, true, true, true, true, true, true, true, true, true, true, true, true, true, false, false, false] : Array Bool).setIfInBounds 4 true = #[true, true, true, true, true, true, true, false, true, true, false, true, true, true, true, true, true, true, true, true, true, true, true, true, false, false, false] from by kernel_rfl, put_swap _ 39 20 _ _ (by decide), put_swap _ 34 20 _ _ (by decide)]
      exact st0_1_4_18_23_ g16 a20 c20 a34 c34 a39 c39 w2 (btr hb hb2) (f16.below hb2) hf (f34.below hb2) (f39.below hb2)
  have st4_7_10_18_ : ∀ (a20 : Option Addr) (c20 : Nat) (a23 : Option Addr) (c23 : Nat) (a26 : Option Addr) (c26 : Nat) (a34 : Option Addr) (c34 : Nat) (w1 : World), Below W.heap.size W w1 → Bytes w1 (.slice a20 4 c20) (be4 p.gen) → Bytes w1 (.slice a23 4 c23) (be4 p.serial) → Bytes w1 (.slice a26 4 c26) (be4 p.number) → Bytes w1 (.slice a34 3 c34) (UInt8.ofNat p.kind :: be2 p.data.length) → T 6 #[false, false, true, true, true, true, true, true, true, true, true, true, true, true, true, true, true, true, true, true, true, true, true, false, false, false, false] ((((A.put (some 20) (.slice a20 4 c20)).put (some 23) (.slice a23 4 c23)).put (some 26) (.slice a26 4 c26)).put (some 34) (.slice a34 3 c34)) w1 := by
    intro a20 c20 a23 c23 a26 c26 a34 c34 w1 hb f20 f23 f26 f34
    refine HT _ _ _ _ [0, 23] (by rw [HR]; kernel_rfl) (by decide) ?_
    refine List.forall_mem_cons.2 ⟨?_, List.forall_mem_cons.2 ⟨?_, fun _ h => by cases h⟩⟩
    · refine M0 _ _ _ hb  (fun g16 w2 hf hb2 => ⟨fun _ => HSB.out w2 (btr hb hb2), ?_⟩)
      rw [show (#[false, false, true, true, true, true, true, true, true, true, true, true, true, true, true, true, true, true, true, true, true, true, true, false, false, false, false] : Array Bool).setIfInBounds 0 true = #[true, false, true, true, true, true, true, true, true, true, true, true, true, true, true, true, true, true, true, true, true, true, true, false, false, false, false] from by kernel_rfl, put_swap _ 34 16 _ _ (by decide), put_swap _ 26 16 _ _ (by decide), put_swap _ 23 16 _ _ (by decide), put_swap _ 20 16 _ _ (by decide)]
      exact st0_4_7_10_18_ g16 a20 c20 a23 c23 a26 c26 a34 c34 w2 (btr hb hb2) hf (f20.below hb2) (f23.below hb2) (f26.below hb2) (f34.below hb2)
    · refine M23 _ _ _ (by rw [eval_put _ 34 38 _ (by decide), eval_put _ 26 38 _ (by decide), eval_put _ 23 38 _ (by decide), eval_put _ 20 38 _ (by decide)]; exact E38) (fun a39 c39 w2 hf hb2 => ⟨fun _ => HSB.out w2 (btr hb hb2), ?_⟩)
      rw [show (#[false, false, true, true, true, true, true, true, true, true, true, true, true, true, true, true, true, true, true, true, true, true, true, false, false, false, false] : Array Bool).setIfInBounds 23 true = #[false, false, true, true, true, true, true, true, true, true, true, true, true, true, true, true, true, true, true, true, true, true, true, true, false, false, false] from by kernel_rfl]
      exact st4_7_10_18_23_ a20 c20 a23 c23 a26 c26 a34 c34 a39 c39 w2 (btr hb hb2) (f20.below hb2) (f23.below hb2) (f26.below hb2) (f34.below hb2) hf
  have st0_4_7_23_ : ∀ (g16 : Nat) (a20 : Option Addr) (c20 : Nat) (a23 : Option Addr) (c23 : Nat) (a39 : Option Addr) (c39 : Nat) (w1 : World), Below W.heap.size W w1 → Lit w1 g16 #[.int .u8 104, .int .u8 103] 5 W.heap.size → Bytes w1 (.slice a20 4 c20) (be4 p.gen) → Bytes w1 (.slice a23 4 c23) (be4 p.serial) → Bytes w1 (.slice a39 rm c39) (List.replicate rm 0) → T 6 #[true, false, true, true, true, true, true, true, true, true, false, true, true, true, true, true, true, true, false, true, true, true, true, true, false, false, false] ((((A.put (some 16) (.slice (some ⟨g16, 0, none⟩) 2 2)).put (some 20) (.slice a20 4 c20)).put (some 23) (.slice a23 4 c23)).put (some 39) (.slice a39 rm c39)) w1 := by
    intro g16 a20 c20 a23 c23 a39 c39 w1 hb f16 f20 f23 f39
    refine HT _ _ _ _ [1, 10, 18] (by rw [HR]; kernel_rfl) (by decide) ?_
    refine List.forall_mem_cons.2 ⟨?_, List.forall_mem_cons.2 ⟨?_, List.forall_mem_cons.2 ⟨?_, fun _ h => by cases h⟩⟩⟩
    · refine M1 _ _ _ (by rw [eval_put _ 39 16 _ (by decide), eval_put _ 23 16 _ (by decide), eval_put _ 20 16 _ (by decide)]; exact ep _) f16 (fun w2 hb2 hk2 hl2 => ⟨fun _ => HSB.out w2 (hb.trans hb2), ?_⟩)
      rw [show (#[true, false, true, true, true, true, true, true, true, true, false, true, true, true, true, true, true, true, false, true, true, true, true, true, false, false, false] : Array Bool).setIfInBounds 1 true = #[true, true, true, true, true, true, true, true, true, true, false, true, true, true, true, true, true, true, false, true, true, true, true, true, false, false, false] from by kernel_rfl, put_swap _ 39 17 _ _ (by decide), put_swap _ 23 17 _ _ (by decide), put_swap _ 20 17 _ _ (by decide)]
      exact st0_1_4_7_23_ g16 a20 c20 a23 c23 a39 c39 w2 (hb.trans hb2) hl2 (f20.cells hk2) (f23.cells hk2) (f39.cells hk2)
    · refine M10 _ _ _ (by rw [eval_put _ 39 25 _ (by decide), eval_put _ 23 25 _ (by decide), eval_put _ 20 25 _ (by decide), eval_put _ 16 25 _ (by decide)]; exact E25) (fun a26 c26 w2 hf hb2 => ⟨fun _ => HSB.out w2 (btr hb hb2), ?_⟩)
      rw [show (#[true, false, true, true, true, true, true, true, true, true, false, true, true, true, true, true, true, true, false, true, true, true, true, true, false, false, false] : Array Bool).setIfInBounds 10 true = #[true, false, true, true, true, true, true, true, true, true, true, true, true, true, true, true, true, true, false, true, true, true, true, true, false, false, false] from by kernel_rfl, put_swap _ 39 26 _ _ (by decide)]
      exact st0_4_7_10_23_ g16 a20 c20 a23 c23 a26 c26 a39 c39 w2 (btr hb hb2) (f16.below hb2) (f20.below hb2) (f23.below hb2) hf (f39.below hb2)
    · refine M18 _ _ _ (by rw [eval_put _ 39 28 _ (by decide), eval_put _ 23 28 _ (by decide), eval_put _ 20 28 _ (by decide), eval_put _ 16 28 _ (by decide)]; exact E28) (by rw [eval_put _ 39 31 _ (by decide), eval_put _ 23 31 _ (by decide), eval_put _ 20 31 _ (by decide), eval_put _ 16 31 _ (by decide)]; exact E31) (by rw [eval_put _ 39 33 _ (by decide), eval_put _ 23 33 _ (by decide), eval_put _ 20 33 _ (by decide), eval_put _ 16 33 _ (by decide)]; exact E33) (fun a34 c34 w2 hf hb2 => ⟨fun _ => HSB.out w2 (btr hb hb2), ?_⟩)
      rw [show (#[true, false, true, true, true, true, true, true, true, true, false, true, true, true, true, true, true, true, false, true, true, true, true, true, false, false, false] : Array Bool).setIfInBounds 18 true = #[true, false, true, true, true, true, true, true, true, true, false, true, true, true, true, true, true, true, true, true, true, true, true, true, false, false, false] from by kernel_rfl, put_swap _ 39 34 _ _ (by decide)]
      exact st0_4_7_18_23_ g16 a20 c20 a23 c23 a34 c34 a39 c39 w2 (btr hb hb2) (f16.below hb2) (f20.below hb2) (f23.below hb2) hf (f39.below hb2)
  have st0_1_4_18_ : ∀ (g16 : Nat) (a20 : Option Addr) (c20 : Nat) (a34 : Option Addr) (c34 : Nat) (w1 : World), Below W.heap.size W w1 → Lit w1 g16 #[.int .u8 104, .int .u8 103] 5 W.heap.size → Bytes w1 (.slice a20 4 c20) (be4 p.gen) → Bytes w1 (.slice a34 3 c34) (UInt8.ofNat p.kind :: be2 p.data.length) → T 6 #[true, true, true, true, true, true, true, false, true, true, false, true, true, true, true, true, true, true, true, true, true, true, true, false, false, false, false] ((((A.put (some 16) (.slice (some ⟨g16, 0, none⟩) 2 2)).put (some 17) (.slice (some ⟨g16, 0, none⟩) 2 2)).put (some 20) (.slice a20 4 c20)).put (some 34) (.slice a34 3 c34)) w1 := by
    intro g16 a20 c20 a34 c34 w1 hb f16 f20 f34
    refine HT _ _ _ _ [7, 23] (by rw [HR]; kernel_rfl) (by decide) ?_
    refine List.forall_mem_cons.2 ⟨?_, List.forall_mem_cons.2 ⟨?_, fun _ h => by cases h⟩⟩
    · refine M7 _ _ _ (by rw [eval_put _ 34 22 _ (by decide), eval_put _ 20 22 _ (by decide), eval_put _ 17 22 _ (by decide), eval_put _ 16 22 _ (by decide)]; exact E22) (fun a23 c23 w2 hf hb2 => ⟨fun _ => HSB.out w2 (btr hb hb2), ?_⟩)
      rw [show (#[true, true, true, true, true, true, true, false, true, true, false, true, true, true, true, true, true, true, true, true, true, true, true, false, false, false, false] : Array Bool).setIfInBounds 7 true = #[true, true, true, true, true, true, true, true, true, true, false, true, true, true, true, true, true, true, true, true, true, true, true, false, false, false, false] from by kernel_rfl, put_swap _ 34 23 _ _ (by decide)]
      exact st0_1_4_7_18_ g16 a20 c20 a23 c23 a34 c34 w2 (btr hb hb2) (f16.below hb2) (f20.below hb2) hf (f34.below hb2)
    · refine M23 _ _ _ (by rw [eval_put _ 34 38 _ (by decide), eval_put _ 20 38 _ (by decide), eval_put _ 17 38 _ (by decide), eval_put _ 16 38 _ (by decide)]; exact E38) (fun a39 c39 w2 hf hb2 => ⟨fun _ => HSB.out w2 (btr hb hb2), ?_⟩)
      rw [show (#[true, true, true, true, true, true, true, false, true, true, false, true, true, true, true, true, true, true, true, true, true, true, true, false, false, false, false] : Array Bool).setIfInBounds 23 true = #[true, true, true, true, true, true, true, false, true, true, false, true, true, true, true, true, true, true, true, true, true, true, true, true, false, false, false] from by kernel_rfl]
      exact st0_1_4_18_23_ g16 a20 c20 a34 c34 a39 c39 w2 (btr hb hb2) (f16.below hb2) (f20.below hb2) (f34.below hb2) hf
  have st4_7_10_23_ : ∀ (a20 : Option Addr) (c20 : Nat) (a23 : Option Addr) (c23 : Nat) (a26 : Option Addr) (c26 : Nat) (a39 : Option Addr) (c39 : Nat) (w1 : World), Below W.heap.size W w1 → Bytes w1 (.slice a20 4 c20) (be4 p.gen) → Bytes w1 (.slice a23 4 c23) (be4 p.serial) → Bytes w1 (.slice a26 4 c26) (be4 p.number) → Bytes w1 (.slice a39 rm c39) (List.replicate rm 0) → T 6 #[false, false, true, true, true, true, true, true, true, true, true, true, true, true, true, true, true, true, false, true, true, true, true, true, false, false, false] ((((A.put (some 20) (.slice a20 4 c20)).put (some 23) (.slice a23 4 c23)).put (some 26) (.slice a26 4 c26)).put (some 39) (.slice a39 rm c39)) w1 := by
    intro a20 c20 a23 c23 a26 c26 a39 c39 w1 hb f20 f23 f26 f39
    refine HT _ _ _ _ [0, 18] (by rw [HR]; kernel_rfl) (by decide) ?_
    refine List.forall_mem_cons.2 ⟨?_, List.forall_mem_cons.2 ⟨?_, fun _ h => by cases h⟩⟩
    · refine M0 _ _ _ hb  (fun g16 w2 hf hb2 => ⟨fun _ => HSB.out w2 (btr hb hb2), ?_⟩)
      rw [show (#[false, false, true, true, true, true, true, true, true, true, true, true, true, true, true, true, true, true, false, true, true, true, true, true, false, false, false] : Array Bool).setIfInBounds 0 true = #[true, false, true, true, true, true, true, true, true, true, true, true, true, true, true, true, true, true, false, true, true, true, true, true, false, false, false] from by kernel_rfl, put_swap _ 39 16 _ _ (by decide), put_swap _ 26 16 _ _ (by decide), put_swap _ 23 16 _ _ (by decide), put_swap _ 20 16 _ _ (by decide)]
      exact st0_4_7_10_23_ g16 a20 c20 a23 c23 a26 c26 a39 c39 w2 (btr hb hb2) hf (f20.below hb2) (f23.below hb2) (f26.below hb2) (f39.below hb2)
    · refine M18 _ _ _ (by rw [eval_put _ 39 28 _ (by decide), eval_put _ 26 28 _ (by decide), eval_put _ 23 28 _ (by decide), eval_put _ 20 28 _ (by decide)]; exact E28) (by rw [eval_put _ 39 31 _ (by decide), eval_put _ 26 31 _ (by decide), eval_put _ 23 31 _ (by decide), eval_put _ 20 31 _ (by decide)]; exact E31) (by rw [eval_put _ 39 33 _ (by decide), eval_put _ 26 33 _ (by decide), eval_put _ 23 33 _ (by decide), eval_put _ 20 33 _ (by decide)]; exact E33) (fun a34 c34 w2 hf hb2 => ⟨fun _ => HSB.out w2 (btr hb hb2), ?_⟩)
      rw [show (#[false, false, true, true, true, true, true, true, true, true, true, true, true, true, true, true, true, true, false, true, true, true, true, true, false, false, false] : Array Bool).setIfInBounds 18 true = #[false, false, true, true, true, true, true, true, true, true, true, true, true, true, true, true, true, true, true, true, true, true, true, true, false, false, false] from by kernel_rfl, put_swap _ 39 34 _ _ (by decide)]
      exact st4_7_10_18_23_ a20 c20 a23 c23 a26 c26 a34 c34 a39 c39 w2 (btr hb hb2) (f20.below hb2) (f23.below hb2) (f26.below hb2) hf (f39.below hb2)
  have st0_18_23_ : ∀ (g16 : Nat) (a34 : Option Addr) (c34 : Nat) (a39 : Option Addr) (c39 : Nat) (w1 : World), Below W.heap.size W w1 → Lit w1 g16 #[.int .u8 104, .int .u8 103] 5 W.heap.size → Bytes w1 (.slice a34 3 c34) (UInt8.ofNat p.kind :: be2 p.data.length) → Bytes w1 (.slice a39 rm c39) (List.replicate rm 0) → T 7 #[true, false, true, true, false, true, true, false, true, true, false, true, true, true, true, true, true, true, true, true, true, true, true, true, false, false, false] (((A.put (some 16) (.slice (some ⟨g16, 0, none⟩) 2 2)).put (some 34) (.slice a34 3 c34)).put (some 39) (.slice a39 rm c39)) w1 := by
    intro g16 a34 c34 a39 c39 w1 hb f16 f34 f39
    refine HT _ _ _ _ [1, 4] (by rw [HR]; kernel_rfl) (by decide) ?_
    refine List.forall_mem_cons.2 ⟨?_, List.forall_mem_cons.2 ⟨?_, fun _ h => by cases h⟩⟩
    · refine M1 _ _ _ (by rw [eval_put _ 39 16 _ (by decide), eval_put _ 34 16 _ (by decide)]; exact ep _) f16 (fun w2 hb2 hk2 hl2 => ⟨fun _ => HSB.out w2 (hb.trans hb2), ?_⟩)
      rw [show (#[true, false, true, true, false, true, true, false, true, true, false, true, true, true, true, true, true, true, true, true, true, true, true, true, false, false, false] : Array Bool).setIfInBounds 1 true = #[true, true, true, true, false, true, true, false, true, true, false, true, true, true, true, true, true, true, true, true, true, true, true, true, false, false, false] from by kernel_rfl, put_swap _ 39 17 _ _ (by decide), put_swap _ 34 17 _ _ (by decide)]
      exact st0_1_18_23_ g16 a34 c34 a39 c39 w2 (hb.trans hb2) hl2 (f34.cells hk2) (f39.cells hk2)
    · refine M4 _ _ _ (by rw [eval_put _ 39 19 _ (by decide), eval_put _ 34 19 _ (by decide), eval_put _ 16 19 _ (by decide)]; exact E19) (fun a20 c20 w2 hf hb2 => ⟨fun _ => HSB.out w2 (btr hb hb2), ?_⟩)
      rw [show (#[true, false, true, true, false, true, true, false, true, true, false, true, true, true, true, true, true, true, true, true, true, true, true, true, false, false, false] : Array Bool).setIfInBounds 4 true = #[true, false, true, true, true, true, true, false, true, true, false, true, true, true, true, true, true, true, true, true, true, true, true, true, false, false, false] from by kernel_rfl, put_swap _ 39 20 _ _ (by decide), put_swap _ 34 20 _ _ (by decide)]
      exact st0_4_18_23_ g16 a20 c20 a34 c34 a39 c39 w2 (btr hb hb2) (f16.below hb2) hf (f34.below hb2) (f39.below hb2)
  have st0_1_23_ : ∀ (g16 : Nat) (a39 : Option Addr) (c39 : Nat) (w1 : World), Below W.heap.size W w1 → Lit w1 g16 #[.int .u8 104, .int .u8 103] 5 W.heap.size → Bytes w1 (.slice a39 rm c39) (List.replicate rm 0) → T 7 #[true, true, true, true, false, true, true, false, true, true, false, true, true, true, true, true, true, true, false, true, true, true, true, true, false, false, false] (((A.put (some 16) (.slice (some ⟨g16, 0, none⟩) 2 2)).put (some 17) (.slice (some ⟨g16, 0, none⟩) 2 2)).put (some 39) (.slice a39 rm c39)) w1 := by
    intro g16 a39 c39 w1 hb f16 f39
    refine HT _ _ _ _ [4, 18] (by rw [HR]; kernel_rfl) (by decide) ?_
    refine List.forall_mem_cons.2 ⟨?_, List.forall_mem_cons.2 ⟨?_, fun _ h => by cases h⟩⟩
    · refine M4 _ _ _ (by rw [eval_put _ 39 19 _ (by decide), eval_put _ 17 19 _ (by decide), eval_put _ 16 19 _ (by decide)]; exact E19) (fun a20 c20 w2 hf hb2 => ⟨fun _ => HSB.out w2 (btr hb hb2), ?_⟩)
      rw [show (#[true, true, true, true, false, true, true, false, true, true, false, true, true, true, true, true, true, true, false, true, true, true, true, true, false, false, false] : Array Bool).setIfInBounds 4 true = #[true, true, true, true, true, true, true, false, true, true, false, true, true, true, true, true, true, true, false, true, true, true, true, true, false, false, false] from by kernel_rfl, put_swap _ 39 20 _ _ (by decide)]
      exact st0_1_4_23_ g16 a20 c20 a39 c39 w2 (btr hb hb2) (f16.below hb2) hf (f39.below hb2)
    · refine M18 _ _ _ (by rw [eval_put _ 39 28 _ (by decide), eval_put _ 17 28 _ (by decide), eval_put _ 16 28 _ (by decide)]; exact E28) (by rw [eval_put _ 39 31 _ (by decide), eval_put _ 17 31 _ (by decide), eval_put _ 16 31 _ (by decide)]; exact E31) (by rw [eval_put _ 39 33 _ (by decide), eval_put _ 17 33 _ (by decide), eval_put _ 16 33 _ (by decide)]; exact E33) (fun a34 c34 w2 hf hb2 => ⟨fun _ => HSB.out w2 (btr hb hb2), ?_⟩)
      rw [show (#[true, true, true, true, false, true, true, false, true, true, false, true, true, true, true, true, true, true, false, true, true, true, true, true, false, false, false] : Array Bool).setIfInBounds 18 true = #[true, true, true, true, false, true, true, false, true, true, false, true, true, true, true, true, true, true, true, true, true, true, true, true, false, false, false] from by kernel_rfl, put_swap _ 39 34 _ _ (by decide)]
      exact st0_1_18_23_ g16 a34 c34 a39 c39 w2 (btr hb hb2) (f16.below hb2) hf (f39.below hb2)
  have st4_7_23_ : ∀ (a20 : Option Addr) (c20 : Nat) (a23 : Option Addr) (c23 : Nat) (a39 : Option Addr) (c39 : Nat) (w1 : World), Below W.heap.size W w1 → Bytes w1 (.slice a20 4 c20) (be4 p.gen) → Bytes w1 (.slice a23 4 c23) (be4 p.serial) → Bytes w1 (.slice a39 rm c39) (List.replicate rm 0) → T 7 #[false, false, true, true, true, true, true, true, true, true, false, true, true, true, true, true, true, true, false, true, true, true, true, true, false, false, false] (((A.put (some 20) (.slice a20 4 c20)).put (some 23) (.slice a23 4 c23)).put (some 39) (.slice a39 rm c39)) w1 := by
    intro a20 c20 a23 c23 a39 c39 w1 hb f20 f23 f39
    refine HT _ _ _ _ [0, 10, 18] (by rw [HR]; kernel_rfl) (by decide) ?_
    refine List.forall_mem_cons.2 ⟨?_, List.forall_mem_cons.2 ⟨?_, List.forall_mem_cons.2 ⟨?_, fun _ h => by cases h⟩⟩⟩
    · refine M0 _ _ _ hb  (fun g16 w2 hf hb2 => ⟨fun _ => HSB.out w2 (btr hb hb2), ?_⟩)
      rw [show (#[false, false, true, true, true, true, true, true, true, true, false, true, true, true, true, true, true, true, false, true, true, true, true, true, false, false, false] : Array Bool).setIfInBounds 0 true = #[true, false, true, true, true, true, true, true, true, true, false, true, true, true, true, true, true, true, false, true, true, true, true, true, false, false, false] from by kernel_rfl, put_swap _ 39 16 _ _ (by decide), put_swap _ 23 16 _ _ (by decide), put_swap _ 20 16 _ _ (by decide)]
      exact st0_4_7_23_ g16 a20 c20 a23 c23 a39 c39 w2 (btr hb hb2) hf (f20.below hb2) (f23.below hb2) (f39.below hb2)
    · refine M10 _ _ _ (by rw [eval_put _ 39 25 _ (by decide), eval_put _ 23 25 _ (by decide), eval_put _ 20 25 _ (by decide)]; exact E25) (fun a26 c26 w2 hf hb2 => ⟨fun _ => HSB.out w2 (btr hb hb2), ?_⟩)
      rw [show (#[false, false, true, true, true, true, true, true, true, true, false, true, true, true, true, true, true, true, false, true, true, true, true, true, false, false, false] : Array Bool).setIfInBounds 10 true = #[false, false, true, true, true, true, true, true, true, true, true, true, true, true, true, true, true, true, false, true, true, true, true, true, false, false, false] from by kernel_rfl, put_swap _ 39 26 _ _ (by decide)]
      exact st4_7_10_23_ a20 c20 a23 c23 a26 c26 a39 c39 w2 (btr hb hb2) (f20.below hb2) (f23.below hb2) hf (f39.below hb2)
    · refine M18 _ _ _ (by rw [eval_put _ 39 28 _ (by decide), eval_put _ 23 28 _ (by decide), eval_put _ 20 28 _ (by decide)]; exact E28) (by rw [eval_put _ 39 31 _ (by decide), eval_put _ 23 31 _ (by decide), eval_put _ 20 31 _ (by decide)]; exact E31) (by rw [eval_put _ 39 33 _ (by decide), eval_put _ 23 33 _ (by decide), eval_put _ 20 33 _ (by decide)]; exact E33) (fun a34 c34 w2 hf hb2 => ⟨fun _ => HSB.out w2 (btr hb hb2), ?_⟩)
      rw [show (#[false, false, true, true, true, true, true, true, true, true, false, true, true, true, true, true, true, true, false, true, true, true, true, true, false, false, false] : Array Bool).setIfInBounds 18 true = #[false, false, true, true, true, true, true, true, true, true, false, true, true, true, true, true, true, true, true, true, true, true, true, true, false, false, false] from by kernel_rfl, put_swap _ 39 34 _ _ (by decide)]
      exact st4_7_18_23_ a20 c20 a23 c23 a34 c34 a39 c39 w2 (btr hb hb2) (f20.below hb2) (f23.below hb2) hf (f39.below hb2)
  have st0_4_7_ : ∀ (g16 : Nat) (a20 : Option Addr) (c20 : Nat) (a23 : Option Addr) (c23 : Nat) (w1 : World), Below W.heap.size W w1 → Lit w1 g16 #[.int .u8 104, .int .u8 103] 5 W.heap.size → Bytes w1 (.slice a20 4 c20) (be4 p.gen) → Bytes w1 (.slice a23 4 c23) (be4 p.serial) → T 7 #[true, false, true, true, true, true, true, true, true, true, false, true, true, true, true, true, true, true, false, true, true, true, true, false, false, false, false] (((A.put (some 16) (.slice (some ⟨g16, 0, none⟩) 2 2)).put (some 20) (.slice a20 4 c20)).put (some 23) (.slice a23 4 c23)) w1 := by
    intro g16 a20 c20 a23 c23 w1 hb f16 f20 f23
    refine HT _ _ _ _ [1, 10, 18, 23] (by rw [HR]; kernel_rfl) (by decide) ?_
    refine List.forall_mem_cons.2 ⟨?_, List.forall_mem_cons.2 ⟨?_, List.forall_mem_cons.2 ⟨?_, List.forall_mem_cons.2 ⟨?_, fun _ h => by cases h⟩⟩⟩⟩
    · refine M1 _ _ _ (by rw [eval_put _ 23 16 _ (by decide), eval_put _ 20 16 _ (by decide)]; exact ep _) f16 (fun w2 hb2 hk2 hl2 => ⟨fun _ => HSB.out w2 (hb.trans hb2), ?_⟩)
      rw [show (#[true, false, true, true, true, true, true, true, true, true, false, true, true, true, true, true, true, true, false, true, true, true, true, false, false, false, false] : Array Bool).setIfInBounds 1 true = #[true, true, true, true, true, true, true, true, true, true, false, true, true, true, true, true, true, true, false, true, true, true, true, false, false, false, false] from by kernel_rfl, put_swap _ 23 17 _ _ (by decide), put_swap _ 20 17 _ _ (by decide)]
      exact st0_1_4_7_ g16 a20 c20 a23 c23 w2 (hb.trans hb2) hl2 (f20.cells hk2) (f23.cells hk2)
    · refine M10 _ _ _ (by rw [eval_put _ 23 25 _ (by decide), eval_put _ 20 25 _ (by decide), eval_put _ 16 25 _ (by decide)]; exact E25) (fun a26 c26 w2 hf hb2 => ⟨fun _ => HSB.out w2 (btr hb hb2), ?_⟩)
      rw [show (#[true, false, true, true, true, true, true, true, true, true, false, true, true, true, true, true, true, true, false, true, true, true, true, false, false, false, false] : Array Bool).setIfInBounds 10 true = #[true, false, true, true, true, true, true, true, true, true, true, true, true, true, true, true, true, true, false, true, true, true, true, false, false, false, false] from by kernel_rfl]
      exact st0_4_7_10_ g16 a20 c20 a23 c23 a26 c26 w2 (btr hb hb2) (f16.below hb2) (f20.below hb2) (f23.below hb2) hf
    · refine M18 _ _ _ (by rw [eval_put _ 23 28 _ (by decide), eval_put _ 20 28 _ (by decide), eval_put _ 16 28 _ (by decide)]; exact E28) (by rw [eval_put _ 23 31 _ (by decide), eval_put _ 20 31 _ (by decide), eval_put _ 16 31 _ (by decide)]; exact E31) (by rw [eval_put _ 23 33 _ (by decide), eval_put _ 20 33 _ (by decide), eval_put _ 16 33 _ (by decide)]; exact E33) (fun a34 c34 w2 hf hb2 => ⟨fun _ => HSB.out w2 (btr hb hb2), ?_⟩)
      rw [show (#[true, false, true, true, true, true, true, true, true, true, false, true, true, true, true, true, true, true, false, true, true, true, true, false, false, false, false] : Array Bool).setIfInBounds 18 true = #[true, false, true, true, true, true, true, true, true, true, false, true, true, true, true, true, true, true, true, true, true, true, true, false, false, false, false] from by kernel_rfl]
      exact st0_4_7_18_ g16 a20 c20 a23 c23 a34 c34 w2 (btr hb hb2) (f16.below hb2) (f20.below hb2) (f23.below hb2) hf
    · refine M23 _ _ _ (by rw [eval_put _ 23 38 _ (by decide), eval_put _ 20 38 _ (by decide), eval_put _ 16 38 _ (by decide)]; exact E38) (fun a39 c39 w2 hf hb2 => ⟨fun _ => HSB.out w2 (btr hb hb2), ?_⟩)
      rw [show (#[true, false, true, true, true, true, true, true, true, true, false, true, true, true, true, true, true, true, false, true, true, true, true, false, false, false, false] : Array Bool).setIfInBounds 23 true = #[true, false, true, true, true, true, true, true, true, true, false, true, true, true, true, true, true, true, false, true, true, true, true, true, false, false, false] from by kernel_rfl]
      exact st0_4_7_23_ g16 a20 c20 a23 c23 a39 c39 w2 (btr hb hb2) (f16.below hb2) (f20.below hb2) (f23.below hb2) hf
  have st4_7_18_ : ∀ (a20 : Option Addr) (c20 : Nat) (a23 : Option Addr) (c23 : Nat) (a34 : Option Addr) (c34 : Nat) (w1 : World), Below W.heap.size W w1 → Bytes w1 (.slice a20 4 c20) (be4 p.gen) → Bytes w1 (.slice a23 4 c23) (be4 p.serial) → Bytes w1 (.slice a34 3 c34) (UInt8.ofNat p.kind :: be2 p.data.length) → T 7 #[false, false, true, true, true, true, true, true, true, true, false, true, true, true, true, true, true, true, true, true, true, true, true, false, false, false, false] (((A.put (some 20) (.slice a20 4 c20)).put (some 23) (.slice a23 4 c23)).put (some 34) (.slice a34 3 c34)) w1 := by
    intro a20 c20 a23 c23 a34 c34 w1 hb f20 f23 f34
    refine HT _ _ _ _ [0, 10, 23] (by rw [HR]; kernel_rfl) (by decide) ?_
    refine List.forall_mem_cons.2 ⟨?_, List.forall_mem_cons.2 ⟨?_, List.forall_mem_cons.2 ⟨?_, fun _ h => by cases h⟩⟩⟩
    · refine M0 _ _ _ hb  (fun g16 w2 hf hb2 => ⟨fun _ => HSB.out w2 (btr hb hb2), ?_⟩)
      rw [show (#[false, false, true, true, true, true, true, true, true, true, false, true, true, true, true, true, true, true, true, true, true, true, true, false, false, false, false] : Array Bool).setIfInBounds 0 true = #[true, false, true, true, true, true, true, true, true, true, false, true, true, true, true, true, true, true, true, true, true, true, true, false, false, false, false] from by kernel_rfl, put_swap _ 34 16 _ _ (by decide), put_swap _ 23 16 _ _ (by decide), put_swap _ 20 16 _ _ (by decide)]
      exact st0_4_7_18_ g16 a20 c20 a23 c23 a34 c34 w2 (btr hb hb2) hf (f20.below hb2) (f23.below hb2) (f34.below hb2)
    · refine M10 _ _ _ (by rw [eval_put _ 34 25 _ (by decide), eval_put _ 23 25 _ (by decide), eval_put _ 20 25 _ (by decide)]; exact E25) (fun a26 c26 w2 hf hb2 => ⟨fun _ => HSB.out w2 (btr hb hb2), ?_⟩)
      rw [show (#[false, false, true, true, true, true, true, true, true, true, false, true, true, true, true, true, true, true, true, true, true, true, true, false, false, false, false] : Array Bool).setIfInBounds 10 true = #[false, false, true, true, true, true, true, true, true, true, true, true, true, true, true, true, true, true, true, true, true, true, true, false, false, false, false] from by kernel_rfl, put_swap _ 34 26 _ _ (by decide)]
      exact st4_7_10_18_ a20 c20 a23 c23 a26 c26 a34 c34 w2 (btr hb hb2) (f20.below hb2) (f23.below hb2) hf (f34.below hb2)
    · refine M23 _ _ _ (by rw [eval_put _ 34 38 _ (by decide), eval_put _ 23 38 _ (by decide), eval_put _ 20 38 _ (by decide)]; exact E38) (fun a39 c39 w2 hf hb2 => ⟨fun _ => HSB.out w2 (btr hb hb2), ?_⟩)
      rw [show (#[false, false, true, true, true, true, true, true, true, true, false, true, true, true, true, true, true, true, true, true, true, true, true, false, false, false, false] : Array Bool).setIfInBounds 23 true = #[false, false, true, true, true, true, true, true, true, true, false, true, true, true, true, true, true, true, true, true, true, true, true, true, false, false, false] from by kernel_rfl]
      exact st4_7_18_23_ a20 c20 a23 c23 a34 c34 a39 c39 w2 (btr hb hb2) (f20.below hb2) (f23.below hb2) (f34.below hb2) hf
  have st4_18_23_ : ∀ (a20 : Option Addr) (c20 : Nat) (a34 : Option Addr) (c34 : Nat) (a39 : Option Addr) (c39 : Nat) (w1 : World), Below W.heap.size W w1 → Bytes w1 (.slice a20 4 c20) (be4 p.gen) → Bytes w1 (.slice a34 3 c34) (UInt8.ofNat p.kind :: be2 p.data.length) → Bytes w1 (.slice a39 rm c39) (List.replicate rm 0) → T 7 #[false, false, true, true, true, true, true, false, true, true, false, true, true, true, true, true, true, true, true, true, true, true, true, true, false, false, false] (((A.put (some 20) (.slice a20 4 c20)).put (some 34) (.slice a34 3 c34)).put (some 39) (.slice a39 rm c39)) w1 := by
    intro a20 c20 a34 c34 a39 c39 w1 hb f20 f34 f39
    refine HT _ _ _ _ [0, 7] (by rw [HR]; kernel_rfl) (by decide) ?_
    refine List.forall_mem_cons.2 ⟨?_, List.forall_mem_cons.2 ⟨?_, fun _ h => by cases h⟩⟩
    · refine M0 _ _ _ hb  (fun g16 w2 hf hb2 => ⟨fun _ => HSB.out w2 (btr hb hb2), ?_⟩)
      rw [show (#[false, false, true, true, true, true, true, false, true, true, false, true, true, true, true, true, true, true, true, true, true, true, true, true, false, false, false] : Array Bool).setIfInBounds 0 true = #[true, false, true, true, true, true, true, false, true, true, false, true, true, true, true, true, true, true, true, true, true, true, true, true, false, false, false] from by kernel_rfl, put_swap _ 39 16 _ _ (by decide), put_swap _ 34 16 _ _ (by decide), put_swap _ 20 16 _ _ (by decide)]
      exact st0_4_18_23_ g16 a20 c20 a34 c34 a39 c39 w2 (btr hb hb2) hf (f20.below hb2) (f34.below hb2) (f39.below hb2)
    · refine M7 _ _ _ (by rw [eval_put _ 39 22 _ (by decide), eval_put _ 34 22 _ (by decide), eval_put _ 20 22 _ (by decide)]; exact E22) (fun a23 c23 w2 hf hb2 => ⟨fun _ => HSB.out w2 (btr hb hb2), ?_⟩)
      rw [show (#[false, false, true, true, true, true, true, false, true, true, false, true, true, true, true, true, true, true, true, true, true, true, true, true, false, false, false] : Array Bool).setIfInBounds 7 true = #[false, false, true, true, true, true, true, true, true, true, false, true, true, true, true, true, true, true, true, true, true, true, true, true, false, false, false] from by kernel_rfl, put_swap _ 39 23 _ _ (by decide), put_swap _ 34 23 _ _ (by decide)]
      exact st4_7_18_23_ a20 c20 a23 c23 a34 c34 a39 c39 w2 (btr hb hb2) (f20.below hb2) hf (f34.below hb2) (f39.below hb2)
  have st4_7_10_ : ∀ (a20 : Option Addr) (c20 : Nat) (a23 : Option Addr) (c23 : Nat) (a26 : Option Addr) (c26 : Nat) (w1 : World), Below W.heap.size W w1 → Bytes w1 (.slice a20 4 c20) (be4 p.gen) → Bytes w1 (.slice a23 4 c23) (be4 p.serial) → Bytes w1 (.slice a26 4 c26) (be4 p.number) → T 7 #[false, false, true, true, true, true, true, true, true, true, true, true, true, true, true, true, true, true, false, true, true, true, true, false, false, false, false] (((A.put (some 20) (.slice a20 4 c20)).put (some 23) (.slice a23 4 c23)).put (some 26) (.slice a26 4 c26)) w1 := by
    intro a20 c20 a23 c23 a26 c26 w1 hb f20 f23 f26
    refine HT _ _ _ _ [0, 18, 23] (by rw [HR]; kernel_rfl) (by decide) ?_
    refine List.forall_mem_cons.2 ⟨?_, List.forall_mem_cons.2 ⟨?_, List.forall_mem_cons.2 ⟨?_, fun _ h => by cases h⟩⟩⟩
    · refine M0 _ _ _ hb  (fun g16 w2 hf hb2 => ⟨fun _ => HSB.out w2 (btr hb hb2), ?_⟩)
      rw [show (#[false, false, true, true, true, true, true, true, true, true, true, true, true, true, true, true, true, true, false, true, true, true, true, false, false, false, false] : Array Bool).setIfInBounds 0 true = #[true, false, true, true, true, true, true, true, true, true, true, true, true, true, true, true, true, true, false, true, true, true, true, false, false, false, false] from by kernel_rfl, put_swap _ 26 16 _ _ (by decide), put_swap _ 23 16 _ _ (by decide), put_swap _ 20 16 _ _ (by decide)]
      exact st0_4_7_10_ g16 a20 c20 a23 c23 a26 c26 w2 (btr hb hb2) hf (f20.below hb2) (f23.below hb2) (f26.below hb2)
    · refine M18 _ _ _ (by rw [eval_put _ 26 28 _ (by decide), eval_put _ 23 28 _ (by decide), eval_put _ 20 28 _ (by decide)]; exact E28) (by rw [eval_put _ 26 31 _ (by decide), eval_put _ 23 31 _ (by decide), eval_put _ 20 31 _ (by decide)]; exact E31) (by rw [eval_put _ 26 33 _ (by decide), eval_put _ 23 33 _ (by decide), eval_put _ 20 33 _ (by decide)]; exact E33) (fun a34 c34 w2 hf hb2 => ⟨fun _ => HSB.out w2 (btr hb hb2), ?_⟩)
      rw [show (#[false, false, true, true, true, true, true, true, true, true, true, true, true, true, true, true, true, true, false, true, true, true, true, false, false, false, false] : Array Bool).setIfInBounds 18 true = #[false, false, true, true, true, true, true, true, true, true, true, true, true, true, true, true, true, true, true, true, true, true, true, false, false, false, false] from by kernel_rfl]
      exact st4_7_10_18_ a20 c20 a23 c23 a26 c26 a34 c34 w2 (btr hb hb2) (f20.below hb2) (f23.below hb2) (f26.below hb2) hf
    · refine M23 _ _ _ (by rw [eval_put _ 26 38 _ (by decide), eval_put _ 23 38 _ (by decide), eval_put _ 20 38 _ (by decide)]; exact E38) (fun a39 c39 w2 hf hb2 => ⟨fun _ => HSB.out w2 (btr hb hb2), ?_⟩)
      rw [show (#[false, false, true, true, true, true, true, true, true, true, true, true, true, true, true, true, true, true, false, true, true, true, true, false, false, false, false] : Array Bool).setIfInBounds 23 true = #[false, false, true, true, true, true, true, true, true, true, true, true, true, true, true, true, true, true, false, true, true, true, true, true, false, false, false] from by kernel_rfl]
      exact st4_7_10_23_ a20 c20 a23 c23 a26 c26 a39 c39 w2 (btr hb hb2) (f20.below hb2) (f23.below hb2) (f26.below hb2) hf
  have st0_1_18_ : ∀ (g16 : Nat) (a34 : Option Addr) (c34 : Nat) (w1 : World), Below W.heap.size W w1 → Lit w1 g16 #[.int .u8 104, .int .u8 103] 5 W.heap.size → Bytes w1 (.slice a34 3 c34) (UInt8.ofNat p.kind :: be2 p.data.length) → T 7 #[true, true, true, true, false, true, true, false, true, true, false, true, true, true, true, true, true, true, true, true, true, true, true, false, false, false, false] (((A.put (some 16) (.slice (some ⟨g16, 0, none⟩) 2 2)).put (some 17) (.slice (some ⟨g16, 0, none⟩) 2 2)).put (some 34) (.slice a34 3 c34)) w1 := by
    intro g16 a34 c34 w1 hb f16 f34
    refine HT _ _ _ _ [4, 23] (by rw [HR]; kernel_rfl) (by decide) ?_
    refine List.forall_mem_cons.2 ⟨?_, List.forall_mem_cons.2 ⟨?_, fun _ h => by cases h⟩⟩
    · refine M4 _ _ _ (by rw [eval_put _ 34 19 _ (by decide), eval_put _ 17 19 _ (by decide), eval_put _ 16 19 _ (by decide)]; exact E19) (fun a20 c20 w2 hf hb2 => ⟨fun _ => HSB.out w2 (btr hb hb2), ?_⟩)
      rw [show (#[true, true, true, true, false, true, true, false, true, true, false, true, true, true, true, true, true, true, true, true, true, true, true, false, false, false, false] : Array Bool).setIfInBounds 4 true = #[true, true, true, true, true, true, true, false, true, true, false, true, true, true, true, true, true, true, true, true, true, true, true, false, false, false, false] from by kernel_rfl, put_swap _ 34 20 _ _ (by decide)]
      exact st0_1_4_18_ g16 a20 c20 a34 c34 w2 (btr hb hb2) (f16.below hb2) hf (f34.below hb2)
    · refine M23 _ _ _ (by rw [eval_put _ 34 38 _ (by decide), eval_put _ 17 38 _ (by decide), eval_put _ 16 38 _ (by decide)]; exact E38) (fun a39 c39 w2 hf hb2 => ⟨fun _ => HSB.out w2 (btr hb hb2), ?_⟩)
      rw [show (#[true, true, true, true, false, true, true, false, true, true, false, true, true, true, true, true, true, true, true, true, true, true, true, false, false, false, false] : Array Bool).setIfInBounds 23 true = #[true, true, true, true, false, true, true, false, true, true, false, true, true, true, true, true, true, true, true, true, true, true, true, true, false, false, false] from by kernel_rfl]
      exact st0_1_18_23_ g16 a34 c34 a39 c39 w2 (btr hb hb2) (f16.below hb2) (f34.below hb2) hf
  have st0_4_23_ : ∀ (g16 : Nat) (a20 : Option Addr) (c20 : Nat) (a39 : Option Addr) (c39 : Nat) (w1 : World), Below W.heap.size W w1 → Lit w1 g16 #[.int .u8 104, .int .u8 103] 5 W.heap.size → Bytes w1 (.slice a20 4 c20) (be4 p.gen) → Bytes w1 (.slice a39 rm c39) (List.replicate rm 0) → T 7 #[true, false, true, true, true, true, true, false, true, true, false, true, true, true, true, true, true, true, false, true, true, true, true, true, false, false, false] (((A.put (some 16) (.slice (some ⟨g16, 0, none⟩) 2 2)).put (some 20) (.slice a20 4 c20)).put (some 39) (.slice a39 rm c39)) w1 := by
    intro g16 a20 c20 a39 c39 w1 hb f16 f20 f39
    refine HT _ _ _ _ [1, 7, 18] (by rw [HR]; kernel_rfl) (by decide) ?_
    refine List.forall_mem_cons.2 ⟨?_, List.forall_mem_cons.2 ⟨?_, List.forall_mem_cons.2 ⟨?_, fun _ h => by cases h⟩⟩⟩
    · refine M1 _ _ _ (by rw [eval_put _ 39 16 _ (by decide), eval_put _ 20 16 _ (by decide)]; exact ep _) f16 (fun w2 hb2 hk2 hl2 => ⟨fun _ => HSB.out w2 (hb.trans hb2), ?_⟩)
      rw [show (#[true, false, true, true, true, true, true, false, true, true, false, true, true, true, true, true, true, true, false, true, true, true, true, true, false, false, false] : Array Bool).setIfInBounds 1 true = #[true, true, true, true, true, true, true, false, true, true, false, true, true, true, true, true, true, true, false, true, true, true, true, true, false, false, false] from by kernel_rfl, put_swap _ 39 17 _ _ (by decide), put_swap _ 20 17 _ _ (by decide)]
      exact st0_1_4_23_ g16 a20 c20 a39 c39 w2 (hb.trans hb2) hl2 (f20.cells hk2) (f39.cells hk2)
    · refine M7 _ _ _ (by rw [eval_put _ 39 22 _ (by decide), eval_put _ 20 22 _ (by decide), eval_put _ 16 22 _ (by decide)]; exact E22) (fun a23 c23 w2 hf hb2 => ⟨fun _ => HSB.out w2 (btr hb hb2), ?_⟩)
      rw [show (#[true, false, true, true, true, true, true, false, true, true, false, true, true, true, true, true, true, true, false, true, true, true, true, true, false, false, false] : Array Bool).setIfInBounds 7 true = #[true, false, true, true, true, true, true, true, true, true, false, true, true, true, true, true, true, true, false, true, true, true, true, true, false, false, false] from by kernel_rfl, put_swap _ 39 23 _ _ (by decide)]
      exact st0_4_7_23_ g16 a20 c20 a23 c23 a39 c39 w2 (btr hb hb2) (f16.below hb2) (f20.below hb2) hf (f39.below hb2)
    · refine M18 _ _ _ (by rw [eval_put _ 39 28 _ (by decide), eval_put _ 20 28 _ (by decide), eval_put _ 16 28 _ (by decide)]; exact E28) (by rw [eval_put _ 39 31 _ (by decide), eval_put _ 20 31 _ (by decide), eval_put _ 16 31 _ (by decide)]; exact E31) (by rw [eval_put _ 39 33 _ (by decide), eval_put _ 20 33 _ (by decide), eval_put _ 16 33 _ (by decide)]; exact E33) (fun a34 c34 w2 hf hb2 => ⟨fun _ => HSB.out w2 (btr hb hb2), ?_⟩)
      rw [show (#[true, false, true, true, true, true, true, false, true, true, false, true, true, true, true, true, true, true, false, true, true, true, true, true, false, false, false] : Array Bool).setIfInBounds 18 true = #[true, false, true, true, true, true, true, false, true, true, false, true, true, true, true, true, true, true, true, true, true, true, true, true, false, false, false] from by kernel_rfl, put_swap _ 39 34 _ _ (by decide)]
      exact st0_4_18_23_ g16 a20 c20 a34 c34 a39 c39 w2 (btr hb hb2) (f16.below hb2) (f20.below hb2) hf (f39.below hb2)
  have st0_4_18_ : ∀ (g16 : Nat) (a20 : Option Addr) (c20 : Nat) (a34 : Option Addr) (c34 : Nat) (w1 : World), Below W.heap.size W w1 → Lit w1 g16 #[.int .u8 104, .int .u8 103] 5 W.heap.size → Bytes w1 (.slice a20 4 c20) (be4 p.gen) → Bytes w1 (.slice a34 3 c34) (UInt8.ofNat p.kind :: be2 p.data.length) → T 7 #[true, false, true, true, true, true, true, false, true, true, false, true, true, true, true, true, true, true, true, true, true, true, true, false, false, false, false] (((A.put (some 16) (.slice (some ⟨g16, 0, none⟩) 2 2)).put (some 20) (.slice a20 4 c20)).put (some 34) (.slice a34 3 c34)) w1 := by
    intro g16 a20 c20 a34 c34 w1 hb f16 f20 f34
    refine HT _ _ _ _ [1, 7, 23] (by rw [HR]; kernel_rfl) (by decide) ?_
    refine List.forall_mem_cons.2 ⟨?_, List.forall_mem_cons.2 ⟨?_, List.forall_mem_cons.2 ⟨?_, fun _ h => by cases h⟩⟩⟩
    · refine M1 _ _ _ (by rw [eval_put _ 34 16 _ (by decide), eval_put _ 20 16 _ (by decide)]; exact ep _) f16 (fun w2 hb2 hk2 hl2 => ⟨fun _ => HSB.out w2 (hb.trans hb2), ?_⟩)
      rw [show (#[true, false, true, true, true, true, true, false, true, true, false, true, true, true, true, true, true, true, true, true, true, true, true, false, false, false, false] : Array Bool).setIfInBounds 1 true = #[true, true, true, true, true, true, true, false, true, true, false, true, true, true, true, true, true, true, true, true, true, true, true, false, false, false, false] from by kernel_rfl, put_swap _ 34 17 _ _ (by decide), put_swap _ 20 17 _ _ (by decide)]
      exact st0_1_4_18_ g16 a20 c20 a34 c34 w2 (hb.trans hb2) hl2 (f20.cells hk2) (f34.cells hk2)
    · refine M7 _ _ _ (by rw [eval_put _ 34 22 _ (by decide), eval_put _ 20 22 _ (by decide), eval_put _ 16 22 _ (by decide)]; exact E22) (fun a23 c23 w2 hf hb2 => ⟨fun _ => HSB.out w2 (btr hb hb2), ?_⟩)
      rw [show (#[true, false, true, true, true, true, true, false, true, true, false, true, true, true, true, true, true, true, true, true, true, true, true, false, false, false, false] : Array Bool).setIfInBounds 7 true = #[true, false, true, true, true, true, true, true, true, true, false, true, true, true, true, true, true, true, true, true, true, true, true, false, false, false, false] from by kernel_rfl, put_swap _ 34 23 _ _ (by decide)]
      exact st0_4_7_18_ g16 a20 c20 a23 c23 a34 c34 w2 (btr hb hb2) (f16.below hb2) (f20.below hb2) hf (f34.below hb2)
    · refine M23 _ _ _ (by rw [eval_put _ 34 38 _ (by decide), eval_put _ 20 38 _ (by decide), eval_put _ 16 38 _ (by decide)]; exact E38) (fun a39 c39 w2 hf hb2 => ⟨fun _ => HSB.out w2 (btr hb hb2), ?_⟩)
      rw [show (#[true, false, true, true, true, true, true, false, true, true, false, true, true, true, true, true, true, true, true, true, true, true, true, false, false, false, false] : Array Bool).setIfInBounds 23 true = #[true, false, true, true, true, true, true, false, true, true, false, true, true, true, true, true, true, true, true, true, true, true, true, true, false, false, false] from by kernel_rfl]
      exact st0_4_18_23_ g16 a20 c20 a34 c34 a39 c39 w2 (btr hb hb2) (f16.below hb2) (f20.below hb2) (f34.below hb2) hf
  have st0_1_4_ : ∀ (g16 : Nat) (a20 : Option Addr) (c20 : Nat) (w1 : World), Below W.heap.size W w1 → Lit w1 g16 #[.int .u8 104, .int .u8 103] 5 W.heap.size → Bytes w1 (.slice a20 4 c20) (be4 p.gen) → T 7 #[true, true, true, true, true, true, true, false, true, true, false, true, true, true, true, true, true, true, false, true, true, true, true, false, false, false, false] (((A.put (some 16) (.slice (some ⟨g16, 0, none⟩) 2 2)).put (some 17) (.slice (some ⟨g16, 0, none⟩) 2 2)).put (some 20) (.slice a20 4 c20)) w1 := by
    intro g16 a20 c20 w1 hb f16 f20
    refine HT _ _ _ _ [7, 18, 23] (by rw [HR]; kernel_rfl) (by decide) ?_
    refine List.forall_mem_cons.2 ⟨?_, List.forall_mem_cons.2 ⟨?_, List.forall_mem_cons.2 ⟨?_, fun _ h => by cases h⟩⟩⟩
    · refine M7 _ _ _ (by rw [eval_put _ 20 22 _ (by decide), eval_put _ 17 22 _ (by decide), eval_put _ 16 22 _ (by decide)]; exact E22) (fun a23 c23 w2 hf hb2 => ⟨fun _ => HSB.out w2 (btr hb hb2), ?_⟩)
      rw [show (#[true, true, true, true, true, true, true, false, true, true, false, true, true, true, true, true, true, true, false, true, true, true, true, false, false, false, false] : Array Bool).setIfInBounds 7 true = #[true, true, true, true, true, true, true, true, true, true, false, true, true, true, true, true, true, true, false, true, true, true, true, false, false, false, false] from by kernel_rfl]
      exact st0_1_4_7_ g16 a20 c20 a23 c23 w2 (btr hb hb2) (f16.below hb2) (f20.below hb2) hf
    · refine M18 _ _ _ (by rw [eval_put _ 20 28 _ (by decide), eval_put _ 17 28 _ (by decide), eval_put _ 16 28 _ (by decide)]; exact E28) (by rw [eval_put _ 20 31 _ (by decide), eval_put _ 17 31 _ (by decide), eval_put _ 16 31 _ (by decide)]; exact E31) (by rw [eval_put _ 20 33 _ (by decide), eval_put _ 17 33 _ (by decide), eval_put _ 16 33 _ (by decide)]; exact E33) (fun a34 c34 w2 hf hb2 => ⟨fun _ => HSB.out w2 (btr hb hb2), ?_⟩)
      rw [show (#[true, true, true, true, true, true, true, false, true, true, false, true, true, true, true, true, true, true, false, true, true, true, true, false, false, false, false] : Array Bool).setIfInBounds 18 true = #[true, true, true, true, true, true, true, false, true, true, false, true, true, true, true, true, true, true, true, true, true, true, true, false, false, false, false] from by kernel_rfl]
      exact st0_1_4_18_ g16 a20 c20 a34 c34 w2 (btr hb hb2) (f16.below hb2) (f20.below hb2) hf
    · refine M23 _ _ _ (by rw [eval_put _ 20 38 _ (by decide), eval_put _ 17 38 _ (by decide), eval_put _ 16 38 _ (by decide)]; exact E38) (fun a39 c39 w2 hf hb2 => ⟨fun _ => HSB.out w2 (btr hb hb2), ?_⟩)
      rw [show (#[true, true, true, true, true, true, true, false, true, true, false, true, true, true, true, true, true, true, false, true, true, true, true, false, false, false, false] : Array Bool).setIfInBounds 23 true = #[true, true, true, true, true, true, true, false, true, true, false, true, true, true, true, true, true, true, false, true, true, true, true, true, false, false, false] from by kernel_rfl]
      exact st0_1_4_23_ g16 a20 c20 a39 c39 w2 (btr hb hb2) (f16.below hb2) (f20.below hb2) hf
  have st4_18_ : ∀ (a20 : Option Addr) (c20 : Nat) (a34 : Option Addr) (c34 : Nat) (w1 : World), Below W.heap.size W w1 → Bytes w1 (.slice a20 4 c20) (be4 p.gen) → Bytes w1 (.slice a34 3 c34) (UInt8.ofNat p.kind :: be2 p.data.length) → T 8 #[false, false, true, true, true, true, true, false, true, true, false, true, true, true, true, true, true, true, true, true, true, true, true, false, false, false, false] ((A.put (some 20) (.slice a20 4 c20)).put (some 34) (.slice a34 3 c34)) w1 := by
    intro a20 c20 a34 c34 w1 hb f20 f34
    refine HT _ _ _ _ [0, 7, 23] (by rw [HR]; kernel_rfl) (by decide) ?_
    refine List.forall_mem_cons.2 ⟨?_, List.forall_mem_cons.2 ⟨?_, List.forall_mem_cons.2 ⟨?_, fun _ h => by cases h⟩⟩⟩
    · refine M0 _ _ _ hb  (fun g16 w2 hf hb2 => ⟨fun _ => HSB.out w2 (btr hb hb2), ?_⟩)
      rw [show (#[false, false, true, true, true, true, true, false, true, true, false, true, true, true, true, true, true, true, true, true, true, true, true, false, false, false, false] : Array Bool).setIfInBounds 0 true = #[true, false, true, true, true, true, true, false, true, true, false, true, true, true, true, true, true, true, true, true, true, true, true, false, false, false, false] from by kernel_rfl, put_swap _ 34 16 _ _ (by decide), put_swap _ 20 16 _ _ (by decide)]
      exact st0_4_18_ g16 a20 c20 a34 c34 w2 (btr hb hb2) hf (f20.below hb2) (f34.below hb2)
    · refine M7 _ _ _ (by rw [eval_put _ 34 22 _ (by decide), eval_put _ 20 22 _ (by decide)]; exact E22) (fun a23 c23 w2 hf hb2 => ⟨fun _ => HSB.out w2 (btr hb hb2), ?_⟩)
      rw [show (#[false, false, true, true, true, true, true, false, true, true, false, true, true, true, true, true, true, true, true, true, true, true, true, false, false, false, false] : Array Bool).setIfInBounds 7 true = #[false, false, true, true, true, true, true, true, true, true, false, true, true, true, true, true, true, true, true, true, true, true, true, false, false, false, false] from by kernel_rfl, put_swap _ 34 23 _ _ (by decide)]
      exact st4_7_18_ a20 c20 a23 c23 a34 c34 w2 (btr hb hb2) (f20.below hb2) hf (f34.below hb2)
    · refine M23 _ _ _ (by rw [eval_put _ 34 38 _ (by decide), eval_put _ 20 38 _ (by decide)]; exact E38) (fun a39 c39 w2 hf hb2 => ⟨fun _ => HSB.out w2 (btr hb hb2), ?_⟩)
      rw [show (#[false, false, true, true, true, true, true, false, true, true, false, true, true, true, true, true, true, true, true, true, true, true, true, false, false, false, false] : Array Bool).setIfInBounds 23 true = #[false, false, true, true, true, true, true, false, true, true, false, true, true, true, true, true, true, true, true, true, true, true, true, true, false, false, false] from by kernel_rfl]
      exact st4_18_23_ a20 c20 a34 c34 a39 c39 w2 (btr hb hb2) (f20.below hb2) (f34.below hb2) hf
  have st18_23_ : ∀ (a34 : Option Addr) (c34 : Nat) (a39 : Option Addr) (c39 : Nat) (w1 : World), Below W.heap.size W w1 → Bytes w1 (.slice a34 3 c34) (UInt8.ofNat p.kind :: be2 p.data.length) → Bytes w1 (.slice a39 rm c39) (List.replicate rm 0) → T 8 #[false, false, true, true, false, true, true, false, true, true, false, true, true, true, true, true, true, true, true, true, true, true, true, true, false, false, false] ((A.put (some 34) (.slice a34 3 c34)).put (some 39) (.slice a39 rm c39)) w1 := by
    intro a34 c34 a39 c39 w1 hb f34 f39
    refine HT _ _ _ _ [0, 4] (by rw [HR]; kernel_rfl) (by decide) ?_
    refine List.forall_mem_cons.2 ⟨?_, List.forall_mem_cons.2 ⟨?_, fun _ h => by cases h⟩⟩
    · refine M0 _ _ _ hb  (fun g16 w2 hf hb2 => ⟨fun _ => HSB.out w2 (btr hb hb2), ?_⟩)
      rw [show (#[false, false, true, true, false, true, true, false, true, true, false, true, true, true, true, true, true, true, true, true, true, true, true, true, false, false, false] : Array Bool).setIfInBounds 0 true = #[true, false, true, true, false, true, true, false, true, true, false, true, true, true, true, true, true, true, true, true, true, true, true, true, false, false, false] from by kernel_rfl, put_swap _ 39 16 _ _ (by decide), put_swap _ 34 16 _ _ (by decide)]
      exact st0_18_23_ g16 a34 c34 a39 c39 w2 (btr hb hb2) hf (f34.below hb2) (f39.below hb2)
    · refine M4 _ _ _ (by rw [eval_put _ 39 19 _ (by decide), eval_put _ 34 19 _ (by decide)]; exact E19) (fun a20 c20 w2 hf hb2 => ⟨fun _ => HSB.out w2 (btr hb hb2), ?_⟩)
      rw [show (#[false, false, true, true, false, true, true, false, true, true, false, true, true, true, true, true, true, true, true, true, true, true, true, true, false, false, false] : Array Bool).setIfInBounds 4 true = #[false, false, true, true, true, true, true, false, true, true, false, true, true, true, true, true, true, true, true, true, true, true, true, true, false, false, false] from by kernel_rfl, put_swap _ 39 20 _ _ (by decide), put_swap _ 34 20 _ _ (by decide)]
      exact st4_18_23_ a20 c20 a34 c34 a39 c39 w2 (btr hb hb2) hf (f34.below hb2) (f39.below hb2)
  have st0_4_ : ∀ (g16 : Nat) (a20 : Option Addr) (c20 : Nat) (w1 : World), Below W.heap.size W w1 → Lit w1 g16 #[.int .u8 104, .int .u8 103] 5 W.heap.size → Bytes w1 (.slice a20 4 c20) (be4 p.gen) → T 8 #[true, false, true, true, true, true, true, false, true, true, false, true, true, true, true, true, true, true, false, true, true, true, true, false, false, false, false] ((A.put (some 16) (.slice (some ⟨g16, 0, none⟩) 2 2)).put (some 20) (.slice a20 4 c20)) w1 := by
    intro g16 a20 c20 w1 hb f16 f20
    refine HT _ _ _ _ [1, 7, 18, 23] (by rw [HR]; kernel_rfl) (by decide) ?_
    refine List.forall_mem_cons.2 ⟨?_, List.forall_mem_cons.2 ⟨?_, List.forall_mem_cons.2 ⟨?_, List.forall_mem_cons.2 ⟨?_, fun _ h => by cases h⟩⟩⟩⟩
    · refine M1 _ _ _ (by rw [eval_put _ 20 16 _ (by decide)]; exact ep _) f16 (fun w2 hb2 hk2 hl2 => ⟨fun _ => HSB.out w2 (hb.trans hb2), ?_⟩)
      rw [show (#[true, false, true, true, true, true, true, false, true, true, false, true, true, true, true, true, true, true, false, true, true, true, true, false, false, false, false] : Array Bool).setIfInBounds 1 true = #[true, true, true, true, true, true, true, false, true, true, false, true, true, true, true, true, true, true, false, true, true, true, true, false, false, false, false] from by kernel_rfl, put_swap _ 20 17 _ _ (by decide)]
      exact st0_1_4_ g16 a20 c20 w2 (hb.trans hb2) hl2 (f20.cells hk2)
    · refine M7 _ _ _ (by rw [eval_put _ 20 22 _ (by decide), eval_put _ 16 22 _ (by decide)]; exact E22) (fun a23 c23 w2 hf hb2 => ⟨fun _ => HSB.out w2 (btr hb hb2), ?_⟩)
      rw [show (#[true, false, true, true, true, true, true, false, true, true, false, true, true, true, true, true, true, true, false, true, true, true, true, false, false, false, false] : Array Bool).setIfInBounds 7 true = #[true, false, true, true, true, true, true, true, true, true, false, true, true, true, true, true, true, true, false, true, true, true, true, false, false, false, false] from by kernel_rfl]
      exact st0_4_7_ g16 a20 c20 a23 c23 w2 (btr hb hb2) (f16.below hb2) (f20.below hb2) hf
    · refine M18 _ _ _ (by rw [eval_put _ 20 28 _ (by decide), eval_put _ 16 28 _ (by decide)]; exact E28) (by rw [eval_put _ 20 31 _ (by decide), eval_put _ 16 31 _ (by decide)]; exact E31) (by rw [eval_put _ 20 33 _ (by decide), eval_put _ 16 33 _ (by decide)]; exact E33) (fun a34 c34 w2 hf hb2 => ⟨fun _ => HSB.out w2 (btr hb hb2), ?_⟩)
      rw [show (#[true, false, true, true, true, true, true, false, true, true, false, true, true, true, true, true, true, true, false, true, true, true, true, false, false, false, false] : Array Bool).setIfInBounds 18 true = #[true, false, true, true, true, true, true, false, true, true, false, true, true, true, true, true, true, true, true, true, true, true, true, false, false, false, false] from by kernel_rfl]
      exact st0_4_18_ g16 a20 c20 a34 c34 w2 (btr hb hb2) (f16.below hb2) (f20.below hb2) hf
    · refine M23 _ _ _ (by rw [eval_put _ 20 38 _ (by decide), eval_put _ 16 38 _ (by decide)]; exact E38) (fun a39 c39 w2 hf hb2 => ⟨fun _ => HSB.out w2 (btr hb hb2), ?_⟩)
      rw [show (#[true, false, true, true, true, true, true, false, true, true, false, true, true, true, true, true, true, true, false, true, true, true, true, false, false, false, false] : Array Bool).setIfInBounds 23 true = #[true, false, true, true, true, true, true, false, true, true, false, true, true, true, true, true, true, true, false, true, true, true, true, true, false, false, false] from by kernel_rfl]
      exact st0_4_23_ g16 a20 c20 a39 c39 w2 (btr hb hb2) (f16.below hb2) (f20.below hb2) hf
  have st4_7_ : ∀ (a20 : Option Addr) (c20 : Nat) (a23 : Option Addr) (c23 : Nat) (w1 : World), Below W.heap.size W w1 → Bytes w1 (.slice a20 4 c20) (be4 p.gen) → Bytes w1 (.slice a23 4 c23) (be4 p.serial) → T 8 #[false, false, true, true, true, true, true, true, true, true, false, true, true, true, true, true, true, true, false, true, true, true, true, false, false, false, false] ((A.put (some 20) (.slice a20 4 c20)).put (some 23) (.slice a23 4 c23)) w1 := by
    intro a20 c20 a23 c23 w1 hb f20 f23
    refine HT _ _ _ _ [0, 10, 18, 23] (by rw [HR]; kernel_rfl) (by decide) ?_
    refine List.forall_mem_cons.2 ⟨?_, List.forall_mem_cons.2 ⟨?_, List.forall_mem_cons.2 ⟨?_, List.forall_mem_cons.2 ⟨?_, fun _ h => by cases h⟩⟩⟩⟩
    · refine M0 _ _ _ hb  (fun g16 w2 hf hb2 => ⟨fun _ => HSB.out w2 (btr hb hb2), ?_⟩)
      rw [show (#[false, false, true, true, true, true, true, true, true, true, false, true, true, true, true, true, true, true, false, true, true, true, true, false, false, false, false] : Array Bool).setIfInBounds 0 true = #[true, false, true, true, true, true, true, true, true, true, false, true, true, true, true, true, true, true, false, true, true, true, true, false, false, false, false] from by kernel_rfl, put_swap _ 23 16 _ _ (by decide), put_swap _ 20 16 _ _ (by decide)]
      exact st0_4_7_ g16 a20 c20 a23 c23 w2 (btr hb hb2) hf (f20.below hb2) (f23.below hb2)
    · refine M10 _ _ _ (by rw [eval_put _ 23 25 _ (by decide), eval_put _ 20 25 _ (by decide)]; exact E25) (fun a26 c26 w2 hf hb2 => ⟨fun _ => HSB.out w2 (btr hb hb2), ?_⟩)
      rw [show (#[false, false, true, true, true, true, true, true, true, true, false, true, true, true, true, true, true, true, false, true, true, true, true, false, false, false, false] : Array Bool).setIfInBounds 10 true = #[false, false, true, true, true, true, true, true, true, true, true, true, true, true, true, true, true, true, false, true, true, true, true, false, false, false, false] from by kernel_rfl]
      exact st4_7_10_ a20 c20 a23 c23 a26 c26 w2 (btr hb hb2) (f20.below hb2) (f23.below hb2) hf
    · refine M18 _ _ _ (by rw [eval_put _ 23 28 _ (by decide), eval_put _ 20 28 _ (by decide)]; exact E28) (by rw [eval_put _ 23 31 _ (by decide), eval_put _ 20 31 _ (by decide)]; exact E31) (by rw [eval_put _ 23 33 _ (by decide), eval_put _ 20 33 _ (by decide)]; exact E33) (fun a34 c34 w2 hf hb2 => ⟨fun _ => HSB.out w2 (btr hb hb2), ?_⟩)
      rw [show (#[false, false, true, true, true, true, true, true, true, true, false, true, true, true, true, true, true, true, false, true, true, true, true, false, false, false, false] : Array Bool).setIfInBounds 18 true = #[false, false, true, true, true, true, true, true, true, true, false, true, true, true, true, true, true, true, true, true, true, true, true, false, false, false, false] from by kernel_rfl]
      exact st4_7_18_ a20 c20 a23 c23 a34 c34 w2 (btr hb hb2) (f20.below hb2) (f23.below hb2) hf
    · refine M23 _ _ _ (by rw [eval_put _ 23 38 _ (by decide), eval_put _ 20 38 _ (by decide)]; exact E38) (fun a39 c39 w2 hf hb2 => ⟨fun _ => HSB.out w2 (btr hb hb2), ?_⟩)
      rw [show (#[false, false, true, true, true, true, true, true, true, true, false, true, true, true, true, true, true, true, false, true, true, true, true, false, false, false, false] : Array Bool).setIfInBounds 23 true = #[false, false, true, true, true, true, true, true, true, true, false, true, true, true, true, true, true, true, false, true, true, true, true, true, false, false, false] from by kernel_rfl]
      exact st4_7_23_ a20 c20 a23 c23 a39 c39 w2 (btr hb hb2) (f20.below hb2) (f23.below hb2) hf
  have st0_18_ : ∀ (g16 : Nat) (a34 : Option Addr) (c34 : Nat) (w1 : World), Below W.heap.size W w1 → Lit w1 g16 #[.int .u8 104, .int .u8 103] 5 W.heap.size → Bytes w1 (.slice a34 3 c34) (UInt8.ofNat p.kind :: be2 p.data.length) → T 8 #[true, false, true, true, false, true, true, false, true, true, false, true, true, true, true, true, true, true, true, true, true, true, true, false, false, false, false] ((A.put (some 16) (.slice (some ⟨g16, 0, none⟩) 2 2)).put (some 34) (.slice a34 3 c34)) w1 := by
    intro g16 a34 c34 w1 hb f16 f34
    refine HT _ _ _ _ [1, 4, 23] (by rw [HR]; kernel_rfl) (by decide) ?_
    refine List.forall_mem_cons.2 ⟨?_, List.forall_mem_cons.2 ⟨?_, List.forall_mem_cons.2 ⟨?_, fun _ h => by cases h⟩⟩⟩
    · refine M1 _ _ _ (by rw [eval_put _ 34 16 _ (by decide)]; exact ep _) f16 (fun w2 hb2 hk2 hl2 => ⟨fun _ => HSB.out w2 (hb.trans hb2), ?_⟩)
      rw [show (#[true, false, true, true, false, true, true, false, true, true, false, true, true, true, true, true, true, true, true, true, true, true, true, false, false, false, false] : Array Bool).setIfInBounds 1 true = #[true, true, true, true, false, true, true, false, true, true, false, true, true, true, true, true, true, true, true, true, true, true, true, false, false, false, false] from by kernel_rfl, put_swap _ 34 17 _ _ (by decide)]
      exact st0_1_18_ g16 a34 c34 w2 (hb.trans hb2) hl2 (f34.cells hk2)
    · refine M4 _ _ _ (by rw [eval_put _ 34 19 _ (by decide), eval_put _ 16 19 _ (by decide)]; exact E19) (fun a20 c20 w2 hf hb2 => ⟨fun _ => HSB.out w2 (btr hb hb2), ?_⟩)
      rw [show (#[true, false, true, true, false, true, true, false, true, true, false, true, true, true, true, true, true, true, true, true, true, true, true, false, false, false, false] : Array Bool).setIfInBounds 4 true = #[true, false, true, true, true, true, true, false, true, true, false, true, true, true, true, true, true, true, true, true, true, true, true, false, false, false, false] from by kernel_rfl, put_swap _ 34 20 _ _ (by decide)]
      exact st0_4_18_ g16 a20 c20 a34 c34 w2 (btr hb hb2) (f16.below hb2) hf (f34.below hb2)
    · refine M23 _ _ _ (by rw [eval_put _ 34 38 _ (by decide), eval_put _ 16 38 _ (by decide)]; exact E38) (fun a39 c39 w2 hf hb2 => ⟨fun _ => HSB.out w2 (btr hb hb2), ?_⟩)
      rw [show (#[true, false, true, true, false, true, true, false, true, true, false, true, true, true, true, true, true, true, true, true, true, true, true, false, false, false, false] : Array Bool).setIfInBounds 23 true = #[true, false, true, true, false, true, true, false, true, true, false, true, true, true, true, true, true, true, true, true, true, true, true, true, false, false, false] from by kernel_rfl]
      exact st0_18_23_ g16 a34 c34 a39 c39 w2 (btr hb hb2) (f16.below hb2) (f34.below hb2) hf
  have st0_1_ : ∀ (g16 : Nat) (w1 : World), Below W.heap.size W w1 → Lit w1 g16 #[.int .u8 104, .int .u8 103] 5 W.heap.size → T 8 #[true, true, true, true, false, true, true, false, true, true, false, true, true, true, true, true, true, true, false, true, true, true, true, false, false, false, false] ((A.put (some 16) (.slice (some ⟨g16, 0, none⟩) 2 2)).put (some 17) (.slice (some ⟨g16, 0, none⟩) 2 2)) w1 := by
    intro g16 w1 hb f16
    refine HT _ _ _ _ [4, 18, 23] (by rw [HR]; kernel_rfl) (by decide) ?_
    refine List.forall_mem_cons.2 ⟨?_, List.forall_mem_cons.2 ⟨?_, List.forall_mem_cons.2 ⟨?_, fun _ h => by cases h⟩⟩⟩
    · refine M4 _ _ _ (by rw [eval_put _ 17 19 _ (by decide), eval_put _ 16 19 _ (by decide)]; exact E19) (fun a20 c20 w2 hf hb2 => ⟨fun _ => HSB.out w2 (btr hb hb2), ?_⟩)
      rw [show (#[true, true, true, true, false, true, true, false, true, true, false, true, true, true, true, true, true, true, false, true, true, true, true, false, false, false, false] : Array Bool).setIfInBounds 4 true = #[true, true, true, true, true, true, true, false, true, true, false, true, true, true, true, true, true, true, false, true, true, true, true, false, false, false, false] from by kernel_rfl]
      exact st0_1_4_ g16 a20 c20 w2 (btr hb hb2) (f16.below hb2) hf
    · refine M18 _ _ _ (by rw [eval_put _ 17 28 _ (by decide), eval_put _ 16 28 _ (by decide)]; exact E28) (by rw [eval_put _ 17 31 _ (by decide), eval_put _ 16 31 _ (by decide)]; exact E31) (by rw [eval_put _ 17 33 _ (by decide), eval_put _ 16 33 _ (by decide)]; exact E33) (fun a34 c34 w2 hf hb2 => ⟨fun _ => HSB.out w2 (btr hb hb2), ?_⟩)
      rw [show (#[true, true, true, true, false, true, true, false, true, true, false, true, true, true, true, true, true, true, false, true, true, true, true, false, false, false, false] : Array Bool).setIfInBounds 18 true = #[true, true, true, true, false, true, true, false, true, true, false, true, true, true, true, true, true, true, true, true, true, true, true, false, false, false, false] from by kernel_rfl]
      exact st0_1_18_ g16 a34 c34 w2 (btr hb hb2) (f16.below hb2) hf
    · refine M23 _ _ _ (by rw [eval_put _ 17 38 _ (by decide), eval_put _ 16 38 _ (by decide)]; exact E38) (fun a39 c39 w2 hf hb2 => ⟨fun _ => HSB.out w2 (btr hb hb2), ?_⟩)
      rw [show (#[true, true, true, true, false, true, true, false, true, true, false, true, true, true, true, true, true, true, false, true, true, true, true, false, false, false, false] : Array Bool).setIfInBounds 23 true = #[true, true, true, true, false, true, true, false, true, true, false, true, true, true, true, true, true, true, false, true, true, true, true, true, false, false, false] from by kernel_rfl]
      exact st0_1_23_ g16 a39 c39 w2 (btr hb hb2) (f16.below hb2) hf
  have st0_23_ : ∀ (g16 : Nat) (a39 : Option Addr) (c39 : Nat) (w1 : World), Below W.heap.size W w1 → Lit w1 g16 #[.int .u8 104, .int .u8 103] 5 W.heap.size → Bytes w1 (.slice a39 rm c39) (List.replicate rm 0) → T 8 #[true, false, true, true, false, true, true, false, true, true, false, true, true, true, true, true, true, true, false, true, true, true, true, true, false, false, false] ((A.put (some 16) (.slice (some ⟨g16, 0, none⟩) 2 2)).put (some 39) (.slice a39 rm c39)) w1 := by
    intro g16 a39 c39 w1 hb f16 f39
    refine HT _ _ _ _ [1, 4, 18] (by rw [HR]; kernel_rfl) (by decide) ?_
    refine List.forall_mem_cons.2 ⟨?_, List.forall_mem_cons.2 ⟨?_, List.forall_mem_cons.2 ⟨?_, fun _ h => by cases h⟩⟩⟩
    · refine M1 _ _ _ (by rw [eval_put _ 39 16 _ (by decide)]; exact ep _) f16 (fun w2 hb2 hk2 hl2 => ⟨fun _ => HSB.out w2 (hb.trans hb2), ?_⟩)
      rw [show (#[true, false, true, true, false, true, true, false, true, true, false, true, true, true, true, true, true, true, false, true, true, true, true, true, false, false, false] : Array Bool).setIfInBounds 1 true = #[true, true, true, true, false, true, true, false, true, true, false, true, true, true, true, true, true, true, false, true, true, true, true, true, false, false, false] from by kernel_rfl, put_swap _ 39 17 _ _ (by decide)]
      exact st0_1_23_ g16 a39 c39 w2 (hb.trans hb2) hl2 (f39.cells hk2)
    · refine M4 _ _ _ (by rw [eval_put _ 39 19 _ (by decide), eval_put _ 16 19 _ (by decide)]; exact E19) (fun a20 c20 w2 hf hb2 => ⟨fun _ => HSB.out w2 (btr hb hb2), ?_⟩)
      rw [show (#[true, false, true, true, false, true, true, false, true, true, false, true, true, true, true, true, true, true, false, true, true, true, true, true, false, false, false] : Array Bool).setIfInBounds 4 true = #[true, false, true, true, true, true, true, false, true, true, false, true, true, true, true, true, true, true, false, true, true, true, true, true, false, false, false] from by kernel_rfl, put_swap _ 39 20 _ _ (by decide)]
      exact st0_4_23_ g16 a20 c20 a39 c39 w2 (btr hb hb2) (f16.below hb2) hf (f39.below hb2)
    · refine M18 _ _ _ (by rw [eval_put _ 39 28 _ (by decide), eval_put _ 16 28 _ (by decide)]; exact E28) (by rw [eval_put _ 39 31 _ (by decide), eval_put _ 16 31 _ (by decide)]; exact E31) (by rw [eval_put _ 39 33 _ (by decide), eval_put _ 16 33 _ (by decide)]; exact E33) (fun a34 c34 w2 hf hb2 => ⟨fun _ => HSB.out w2 (btr hb hb2), ?_⟩)
      rw [show (#[true, false, true, true, false, true, true, false, true, true, false, true, true, true, true, true, true, true, false, true, true, true, true, true, false, false, false] : Array Bool).setIfInBounds 18 true = #[true, false, true, true, false, true, true, false, true, true, false, true, true, true, true, true, true, true, true, true, true, true, true, true, false, false, false] from by kernel_rfl, put_swap _ 39 34 _ _ (by decide)]
      exact st0_18_23_ g16 a34 c34 a39 c39 w2 (btr hb hb2) (f16.below hb2) hf (f39.below hb2)
  have st4_23_ : ∀ (a20 : Option Addr) (c20 : Nat) (a39 : Option Addr) (c39 : Nat) (w1 : World), Below W.heap.size W w1 → Bytes w1 (.slice a20 4 c20) (be4 p.gen) → Bytes w1 (.slice a39 rm c39) (List.replicate rm 0) → T 8 #[false, false, true, true, true, true, true, false, true, true, false, true, true, true, true, true, true, true, false, true, true, true, true, true, false, false, false] ((A.put (some 20) (.slice a20 4 c20)).put (some 39) (.slice a39 rm c39)) w1 := by
    intro a20 c20 a39 c39 w1 hb f20 f39
    refine HT _ _ _ _ [0, 7, 18] (by rw [HR]; kernel_rfl) (by decide) ?_
    refine List.forall_mem_cons.2 ⟨?_, List.forall_mem_cons.2 ⟨?_, List.forall_mem_cons.2 ⟨?_, fun _ h => by cases h⟩⟩⟩
    · refine M0 _ _ _ hb  (fun g16 w2 hf hb2 => ⟨fun _ => HSB.out w2 (btr hb hb2), ?_⟩)
      rw [show (#[false, false, true, true, true, true, true, false, true, true, false, true, true, true, true, true, true, true, false, true, true, true, true, true, false, false, false] : Array Bool).setIfInBounds 0 true = #[true, false, true, true, true, true, true, false, true, true, false, true, true, true, true, true, true, true, false, true, true, true, true, true, false, false, false] from by kernel_rfl, put_swap _ 39 16 _ _ (by decide), put_swap _ 20 16 _ _ (by decide)]
      exact st0_4_23_ g16 a20 c20 a39 c39 w2 (btr hb hb2) hf (f20.below hb2) (f39.below hb2)
    · refine M7 _ _ _ (by rw [eval_put _ 39 22 _ (by decide), eval_put _ 20 22 _ (by decide)]; exact E22) (fun a23 c23 w2 hf hb2 => ⟨fun _ => HSB.out w2 (btr hb hb2), ?_⟩)
      rw [show (#[false, false, true, true, true, true, true, false, true, true, false, true, true, true, true, true, true, true, false, true, true, true, true, true, false, false, false] : Array Bool).setIfInBounds 7 true = #[false, false, true, true, true, true, true, true, true, true, false, true, true, true, true, true, true, true, false, true, true, true, true, true, false, false, false] from by kernel_rfl, put_swap _ 39 23 _ _ (by decide)]
      exact st4_7_23_ a20 c20 a23 c23 a39 c39 w2 (btr hb hb2) (f20.below hb2) hf (f39.below hb2)
    · refine M18 _ _ _ (by rw [eval_put _ 39 28 _ (by decide), eval_put _ 20 28 _ (by decide)]; exact E28) (by rw [eval_put _ 39 31 _ (by decide), eval_put _ 20 31 _ (by decide)]; exact E31) (by rw [eval_put _ 39 33 _ (by decide), eval_put _ 20 33 _ (by decide)]; exact E33) (fun a34 c34 w2 hf hb2 => ⟨fun _ => HSB.out w2 (btr hb hb2), ?_⟩)
      rw [show (#[false, false, true, true, true, true, true, false, true, true, false, true, true, true, true, true, true, true, false, true, true, true, true, true, false, false, false] : Array Bool).setIfInBounds 18 true = #[false, false, true, true, true, true, true, false, true, true, false, true, true, true, true, true, true, true, true, true, true, true, true, true, false, false, false] from by kernel_rfl, put_swap _ 39 34 _ _ (by decide)]
      exact st4_18_23_ a20 c20 a34 c34 a39 c39 w2 (btr hb hb2) (f20.below hb2) hf (f39.below hb2)
  have st18_ : ∀ (a34 : Option Addr) (c34 : Nat) (w1 : World), Below W.heap.size W w1 → Bytes w1 (.slice a34 3 c34) (UInt8.ofNat p.kind :: be2 p.data.length) → T 9 #[false, false, true, true, false, true, true, false, true, true, false, true, true, true, true, true, true, true, true, true, true, true, true, false, false, false, false] (A.put (some 34) (.slice a34 3 c34)) w1 := by
    intro a34 c34 w1 hb f34
    refine HT _ _ _ _ [0, 4, 23] (by rw [HR]; kernel_rfl) (by decide) ?_
    refine List.forall_mem_cons.2 ⟨?_, List.forall_mem_cons.2 ⟨?_, List.forall_mem_cons.2 ⟨?_, fun _ h => by cases h⟩⟩⟩
    · refine M0 _ _ _ hb  (fun g16 w2 hf hb2 => ⟨fun _ => HSB.out w2 (btr hb hb2), ?_⟩)
      rw [show (#[false, false, true, true, false, true, true, false, true, true, false, true, true, true, true, true, true, true, true, true, true, true, true, false, false, false, false] : Array Bool).setIfInBounds 0 true = #[true, false, true, true, false, true, true, false, true, true, false, true, true, true, true, true, true, true, true, true, true, true, true, false, false, false, false] from by kernel_rfl, put_swap _ 34 16 _ _ (by decide)]
      exact st0_18_ g16 a34 c34 w2 (btr hb hb2) hf (f34.below hb2)
    · refine M4 _ _ _ (by rw [eval_put _ 34 19 _ (by decide)]; exact E19) (fun a20 c20 w2 hf hb2 => ⟨fun _ => HSB.out w2 (btr hb hb2), ?_⟩)
      rw [show (#[false, false, true, true, false, true, true, false, true, true, false, true, true, true, true, true, true, true, true, true, true, true, true, false, false, false, false] : Array Bool).setIfInBounds 4 true = #[false, false, true, true, true, true, true, false, true, true, false, true, true, true, true, true, true, true, true, true, true, true, true, false, false, false, false] from by kernel_rfl, put_swap _ 34 20 _ _ (by decide)]
      exact st4_18_ a20 c20 a34 c34 w2 (btr hb hb2) hf (f34.below hb2)
    · refine M23 _ _ _ (by rw [eval_put _ 34 38 _ (by decide)]; exact E38) (fun a39 c39 w2 hf hb2 => ⟨fun _ => HSB.out w2 (btr hb hb2), ?_⟩)
      rw [show (#[false, false, true, true, false, true, true, false, true, true, false, true, true, true, true, true, true, true, true, true, true, true, true, false, false, false, false] : Array Bool).setIfInBounds 23 true = #[false, false, true, true, false, true, true, false, true, true, false, true, true, true, true, true, true, true, true, true, true, true, true, true, false, false, false] from by kernel_rfl]
      exact st18_23_ a34 c34 a39 c39 w2 (btr hb hb2) (f34.below hb2) hf
  have st23_ : ∀ (a39 : Option Addr) (c39 : Nat) (w1 : World), Below W.heap.size W w1 → Bytes w1 (.slice a39 rm c39) (List.replicate rm 0) → T 9 #[false, false, true, true, false, true, true, false, true, true, false, true, true, true, true, true, true, true, false, true, true, true, true, true, false, false, false] (A.put (some 39) (.slice a39 rm c39)) w1 := by
    intro a39 c39 w1 hb f39
    refine HT _ _ _ _ [0, 4, 18] (by rw [HR]; kernel_rfl) (by decide) ?_
    refine List.forall_mem_cons.2 ⟨?_, List.forall_mem_cons.2 ⟨?_, List.forall_mem_cons.2 ⟨?_, fun _ h => by cases h⟩⟩⟩
    · refine M0 _ _ _ hb  (fun g16 w2 hf hb2 => ⟨fun _ => HSB.out w2 (btr hb hb2), ?_⟩)
      rw [show (#[false, false, true, true, false, true, true, false, true, true, false, true, true, true, true, true, true, true, false, true, true, true, true, true, false, false, false] : Array Bool).setIfInBounds 0 true = #[true, false, true, true, false, true, true, false, true, true, false, true, true, true, true, true, true, true, false, true, true, true, true, true, false, false, false] from by kernel_rfl, put_swap _ 39 16 _ _ (by decide)]
      exact st0_23_ g16 a39 c39 w2 (btr hb hb2) hf (f39.below hb2)
    · refine M4 _ _ _ (by rw [eval_put _ 39 19 _ (by decide)]; exact E19) (fun a20 c20 w2 hf hb2 => ⟨fun _ => HSB.out w2 (btr hb hb2), ?_⟩)
      rw [show (#[false, false, true, true, false, true, true, false, true, true, false, true, true, true, true, true, true, true, false, true, true, true, true, true, false, false, false] : Array Bool).setIfInBounds 4 true = #[false, false, true, true, true, true, true, false, true, true, false, true, true, true, true, true, true, true, false, true, true, true, true, true, false, false, false] from by kernel_rfl, put_swap _ 39 20 _ _ (by decide)]
      exact st4_23_ a20 c20 a39 c39 w2 (btr hb hb2) hf (f39.below hb2)
    · refine M18 _ _ _ (by rw [eval_put _ 39 28 _ (by decide)]; exact E28) (by rw [eval_put _ 39 31 _ (by decide)]; exact E31) (by rw [eval_put _ 39 33 _ (by decide)]; exact E33) (fun a34 c34 w2 hf hb2 => ⟨fun _ => HSB.out w2 (btr hb hb2), ?_⟩)
      rw [show (#[false, false, true, true, false, true, true, false, true, true, false, true, true, true, true, true, true, true, false, true, true, true, true, true, false, false, false] : Array Bool).setIfInBounds 18 true = #[false, false, true, true, false, true, true, false, true, true, false, true, true, true, true, true, true, true, true, true, true, true, true, true, false, false, false] from by kernel_rfl, put_swap _ 39 34 _ _ (by decide)]
      exact st18_23_ a34 c34 a39 c39 w2 (btr hb hb2) hf (f39.below hb2)
  have st4_ : ∀ (a20 : Option Addr) (c20 : Nat) (w1 : World), Below W.heap.size W w1 → Bytes w1 (.slice a20 4 c20) (be4 p.gen) → T 9 #[false, false, true, true, true, true, true, false, true, true, false, true, true, true, true, true, true, true, false, true, true, true, true, false, false, false, false] (A.put (some 20) (.slice a20 4 c20)) w1 := by
    intro a20 c20 w1 hb f20
    refine HT _ _ _ _ [0, 7, 18, 23] (by rw [HR]; kernel_rfl) (by decide) ?_
    refine List.forall_mem_cons.2 ⟨?_, List.forall_mem_cons.2 ⟨?_, List.forall_mem_cons.2 ⟨?_, List.forall_mem_cons.2 ⟨?_, fun _ h => by cases h⟩⟩⟩⟩
    · refine M0 _ _ _ hb  (fun g16 w2 hf hb2 => ⟨fun _ => HSB.out w2 (btr hb hb2), ?_⟩)
      rw [show (#[false, false, true, true, true, true, true, false, true, true, false, true, true, true, true, true, true, true, false, true, true, true, true, false, false, false, false] : Array Bool).setIfInBounds 0 true = #[true, false, true, true, true, true, true, false, true, true, false, true, true, true, true, true, true, true, false, true, true, true, true, false, false, false, false] from by kernel_rfl, put_swap _ 20 16 _ _ (by decide)]
      exact st0_4_ g16 a20 c20 w2 (btr hb hb2) hf (f20.below hb2)
    · refine M7 _ _ _ (by rw [eval_put _ 20 22 _ (by decide)]; exact E22) (fun a23 c23 w2 hf hb2 => ⟨fun _ => HSB.out w2 (btr hb hb2), ?_⟩)
      rw [show (#[false, false, true, true, true, true, true, false, true, true, false, true, true, true, true, true, true, true, false, true, true, true, true, false, false, false, false] : Array Bool).setIfInBounds 7 true = #[false, false, true, true, true, true, true, true, true, true, false, true, true, true, true, true, true, true, false, true, true, true, true, false, false, false, false] from by kernel_rfl]
      exact st4_7_ a20 c20 a23 c23 w2 (btr hb hb2) (f20.below hb2) hf
    · refine M18 _ _ _ (by rw [eval_put _ 20 28 _ (by decide)]; exact E28) (by rw [eval_put _ 20 31 _ (by decide)]; exact E31) (by rw [eval_put _ 20 33 _ (by decide)]; exact E33) (fun a34 c34 w2 hf hb2 => ⟨fun _ => HSB.out w2 (btr hb hb2), ?_⟩)
      rw [show (#[false, false, true, true, true, true, true, false, true, true, false, true, true, true, true, true, true, true, false, true, true, true, true, false, false, false, false] : Array Bool).setIfInBounds 18 true = #[false, false, true, true, true, true, true, false, true, true, false, true, true, true, true, true, true, true, true, true, true, true, true, false, false, false, false] from by kernel_rfl]
      exact st4_18_ a20 c20 a34 c34 w2 (btr hb hb2) (f20.below hb2) hf
    · refine M23 _ _ _ (by rw [eval_put _ 20 38 _ (by decide)]; exact E38) (fun a39 c39 w2 hf hb2 => ⟨fun _ => HSB.out w2 (btr hb hb2), ?_⟩)
      rw [show (#[false, false, true, true, true, true, true, false, true, true, false, true, true, true, true, true, true, true, false, true, true, true, true, false, false, false, false] : Array Bool).setIfInBounds 23 true = #[false, false, true, true, true, true, true, false, true, true, false, true, true, true, true, true, true, true, false, true, true, true, true, true, false, false, false] from by kernel_rfl]
      exact st4_23_ a20 c20 a39 c39 w2 (btr hb hb2) (f20.below hb2) hf
  have st0_ : ∀ (g16 : Nat) (w1 : World), Below W.heap.size W w1 → Lit w1 g16 #[.int .u8 104, .int .u8 103] 5 W.heap.size → T 9 #[true, false, true, true, false, true, true, false, true, true, false, true, true, true, true, true, true, true, false, true, true, true, true, false, false, false, false] (A.put (some 16) (.slice (some ⟨g16, 0, none⟩) 2 2)) w1 := by
    intro g16 w1 hb f16
    refine HT _ _ _ _ [1, 4, 18, 23] (by rw [HR]; kernel_rfl) (by decide) ?_
    refine List.forall_mem_cons.2 ⟨?_, List.forall_mem_cons.2 ⟨?_, List.forall_mem_cons.2 ⟨?_, List.forall_mem_cons.2 ⟨?_, fun _ h => by cases h⟩⟩⟩⟩
    · refine M1 _ _ _ (by exact ep _) f16 (fun w2 hb2 hk2 hl2 => ⟨fun _ => HSB.out w2 (hb.trans hb2), ?_⟩)
      rw [show (#[true, false, true, true, false, true, true, false, true, true, false, true, true, true, true, true, true, true, false, true, true, true, true, false, false, false, false] : Array Bool).setIfInBounds 1 true = #[true, true, true, true, false, true, true, false, true, true, false, true, true, true, true, true, true, true, false, true, true, true, true, false, false, false, false] from by kernel_rfl]
      exact st0_1_ g16 w2 (hb.trans hb2) hl2
    · refine M4 _ _ _ (by rw [eval_put _ 16 19 _ (by decide)]; exact E19) (fun a20 c20 w2 hf hb2 => ⟨fun _ => HSB.out w2 (btr hb hb2), ?_⟩)
      rw [show (#[true, false, true, true, false, true, true, false, true, true, false, true, true, true, true, true, true, true, false, true, true, true, true, false, false, false, false] : Array Bool).setIfInBounds 4 true = #[true, false, true, true, true, true, true, false, true, true, false, true, true, true, true, true, true, true, false, true, true, true, true, false, false, false, false] from by kernel_rfl]
      exact st0_4_ g16 a20 c20 w2 (btr hb hb2) (f16.below hb2) hf
    · refine M18 _ _ _ (by rw [eval_put _ 16 28 _ (by decide)]; exact E28) (by rw [eval_put _ 16 31 _ (by decide)]; exact E31) (by rw [eval_put _ 16 33 _ (by decide)]; exact E33) (fun a34 c34 w2 hf hb2 => ⟨fun _ => HSB.out w2 (btr hb hb2), ?_⟩)
      rw [show (#[true, false, true, true, false, true, true, false, true, true, false, true, true, true, true, true, true, true, false, true, true, true, true, false, false, false, false] : Array Bool).setIfInBounds 18 true = #[true, false, true, true, false, true, true, false, true, true, false, true, true, true, true, true, true, true, true, true, true, true, true, false, false, false, false] from by kernel_rfl]
      exact st0_18_ g16 a34 c34 w2 (btr hb hb2) (f16.below hb2) hf
    · refine M23 _ _ _ (by rw [eval_put _ 16 38 _ (by decide)]; exact E38) (fun a39 c39 w2 hf hb2 => ⟨fun _ => HSB.out w2 (btr hb hb2), ?_⟩)
      rw [show (#[true, false, true, true, false, true, true, false, true, true, false, true, true, true, true, true, true, true, false, true, true, true, true, false, false, false, false] : Array Bool).setIfInBounds 23 true = #[true, false, true, true, false, true, true, false, true, true, false, true, true, true, true, true, true, true, false, true, true, true, true, true, false, false, false] from by kernel_rfl]
      exact st0_23_ g16 a39 c39 w2 (btr hb hb2) (f16.below hb2) hf
  have st : ∀  (w1 : World), Below W.heap.size W w1 → T 10 #[false, false, true, true, false, true, true, false, true, true, false, true, true, true, true, true, true, true, false, true, true, true, true, false, false, false, false] A w1 := by
    intro  w1 hb 
    refine HT _ _ _ _ [0, 4, 18, 23] (by rw [HR]; kernel_rfl) (by decide) ?_
    refine List.forall_mem_cons.2 ⟨?_, List.forall_mem_cons.2 ⟨?_, List.forall_mem_cons.2 ⟨?_, List.forall_mem_cons.2 ⟨?_, fun _ h => by cases h⟩⟩⟩⟩
    · refine M0 _ _ _ hb  (fun g16 w2 hf hb2 => ⟨fun _ => HSB.out w2 (btr hb hb2), ?_⟩)
      rw [show (#[false, false, true, true, false, true, true, false, true, true, false, true, true, true, true, true, true, true, false, true, true, true, true, false, false, false, false] : Array Bool).setIfInBounds 0 true = #[true, false, true, true, false, true, true, false, true, true, false, true, true, true, true, true, true, true, false, true, true, true, true, false, false, false, false] from by kernel_rfl]
      exact st0_ g16 w2 (btr hb hb2) hf
    · refine M4 _ _ _ (by exact E19) (fun a20 c20 w2 hf hb2 => ⟨fun _ => HSB.out w2 (btr hb hb2), ?_⟩)
      rw [show (#[false, false, true, true, false, true, true, false, true, true, false, true, true, true, true, true, true, true, false, true, true, true, true, false, false, false, false] : Array Bool).setIfInBounds 4 true = #[false, false, true, true, true, true, true, false, true, true, false, true, true, true, true, true, true, true, false, true, true, true, true, false, false, false, false] from by kernel_rfl]
      exact st4_ a20 c20 w2 (btr hb hb2) hf
    · refine M18 _ _ _ (by exact E28) (by exact E31) (by exact E33) (fun a34 c34 w2 hf hb2 => ⟨fun _ => HSB.out w2 (btr hb hb2), ?_⟩)
      rw [show (#[false, false, true, true, false, true, true, false, true, true, false, true, true, true, true, true, true, true, false, true, true, true, true, false, false, false, false] : Array Bool).setIfInBounds 18 true = #[false, false, true, true, false, true, true, false, true, true, false, true, true, true, true, true, true, true, true, true, true, true, true, false, false, false, false] from by kernel_rfl]
      exact st18_ a34 c34 w2 (btr hb hb2) hf
    · refine M23 _ _ _ (by exact E38) (fun a39 c39 w2 hf hb2 => ⟨fun _ => HSB.out w2 (btr hb hb2), ?_⟩)
      rw [show (#[false, false, true, true, false, true, true, false, true, true, false, true, true, true, true, true, true, true, false, true, true, true, true, false, false, false, false] : Array Bool).setIfInBounds 23 true = #[false, false, true, true, false, true, true, false, true, true, false, true, true, true, true, true, true, true, false, true, true, true, true, true, false, false, false] from by kernel_rfl]
      exact st23_ a39 c39 w2 (btr hb hb2) hf
  exact st _ (bdr (bre W))
end Go.Proofs.YtejdlgfiiagcmaaDoor
