/- Walk: a page follows. -/
import Derived.Test.YtacfkhnajdneeaaDoorRlFol
import Derived.Test.YtacfkhnajdneeaaDoorPreB
namespace Go.Proofs.YtacfkhnajdneeaaDoor
open Go.RowKit

theorem eqB (a b : Nat) : ((a : Int) == (b : Int)) = decide (a = b) ∧ decide ((a : Int) = (b : Int)) = decide (a = b) ∧ (a == b) = decide (a = b) := by
  by_cases h : a = b
  · subst h
    exact ⟨by simp, by simp, by simp⟩
  · exact ⟨by rw [decide_eq_false h]; exact beq_false_of_ne (by omega), by rw [decide_eq_false h]; exact decide_eq_false (by omega), by rw [decide_eq_false h]; exact beq_false_of_ne h⟩

set_option maxRecDepth 20000 in
set_option maxHeartbeats 1600000 in
theorem follows_any (g gen i ahead : Nat) (v : Value) (p : Pg) (w : World) (hv : PgAt w v p) (ok : p.Ok) (hgen : w.cell? ⟨g, 1, none⟩ = some (.int .u32 gen)) (ha : ahead < 4294967296) (hl : p.data.length ≤ 100000000) :
    Calls Tryd.prog 74 #[.pointer (some ⟨g, 0, none⟩), v, .int .i64 i, .int .u32 ahead] w fun e w' => e = .returned (.bool (followsB gen i ahead p)) ∧ Below w.heap.size w w' := by
  obtain ⟨vd, rfl, hd⟩ := PgAt.val hv
  obtain ⟨a, c, rfl, hm, hc, -, -⟩ := id hd
  unfold PgVal
  have hpn := ok.number
  have HD := Lib.hid hd
  have HL := Lib.hid hl
  obtain ⟨L, hL⟩ : ∃ L, L = p.data.length := ⟨_, rfl⟩
  rw [← hL] at hm hc hl HD ⊢
  obtain ⟨n1, hn1⟩ : ∃ n, n = w.heap.size := ⟨_, rfl⟩
  have hg : g < w.heap.size := block_lt_of_cell hgen
  have hlast : followsB gen i ahead p = (decide (p.gen = gen) && decide (p.kind = 1) && decide (p.number = i) && decide (p.data.take 4 = be4 ahead)) := rfl
  obtain ⟨P0, hP0⟩ : ∃ x, x = p.gen := ⟨_, rfl⟩
  obtain ⟨P2, hP2⟩ : ∃ x, x = p.number := ⟨_, rfl⟩
  obtain ⟨P3, hP3⟩ : ∃ x, x = p.kind := ⟨_, rfl⟩
  obtain ⟨P1, hP1⟩ : ∃ x, x = p.serial := ⟨_, rfl⟩
  obtain ⟨R, hR⟩ : ∃ R, R = decide (p.data.take 4 = be4 ahead) := ⟨_, rfl⟩
  obtain ⟨D, hD⟩ : ∃ D, D = p.data := ⟨_, rfl⟩
  rw [← hP0, ← hP2, ← hP3, ← hR] at hlast
  rw [hlast, ← hP0, ← hP1, ← hP2, ← hP3]
  rw [← hP2] at hpn
  rw [← hD] at HD HL hR
  have HR := Lib.hid hR
  clear hlast hL hP0 hP1 hP2 hP3 hR hD hd hv ok
  obtain ⟨e1, e2, e3⟩ := eqB P0 gen
  obtain ⟨f1, f2, f3⟩ := eqB P3 1
  rw [show ((1 : Nat) : Int) = 1 from rfl] at f1 f2
  obtain ⟨k1, k2, k3⟩ := eqB P2 i
  have hwr : IntKind.i64.wrap (P2 : Int) = (P2 : Int) := by rw [IntKind.wrap_i64]; omega
  generalize decide (P0 = gen) = B0 at *
  generalize decide (P3 = 1) = B1 at *
  generalize decide (P2 = i) = B2 at *
  go_enter Tryd.func74, Tryd.ntmps74
  go_upto_region 1 with fail
  have hb0 := bal (bre w) (.cells #[.int .u32 P0, .int .u32 P1, .int .u32 P2, .int .u8 P3, .slice a L c] 122)
  have hr0 := heap_alloc_new w (.cells #[.int .u32 P0, .int .u32 P1, .int .u32 P2, .int .u8 P3, .slice a L c] 122)
  generalize w.alloc (.cells #[.int .u32 P0, .int .u32 P1, .int .u32 P2, .int .u8 P3, .slice a L c] 122) = W at *
  rw [← hn1] at hr0 ⊢
  have hg1 := (hb0.cell (p := ⟨g, 1, none⟩) hg).trans hgen
  have hgl : g < W.heap.size := by have := hb0.size; omega
  have HD1 := Lib.hid (HD.out.below hb0)
  have HB := Lib.hid hb0
  have x0 := cell_of_row W n1 0 _ _ _ hr0
  have x2 := cell_of_row W n1 2 _ _ _ hr0
  have x3 := cell_of_row W n1 3 _ _ _ hr0
  have x4 := cell_of_row W n1 4 _ _ _ hr0
  clear hb0 hr0 hgen hg hn1 HD
  cases B0 with
  | true =>
    cases B1 with
    | true =>
      cases B2 with
      | true =>
        have HSB : Hid (∀ w', Below W.heap.size W w' → (w'.cell? ⟨n1, 0, none⟩ = some (.int .u32 P0) ∧ w'.cell? ⟨n1, 2, none⟩ = some (.int .u32 P2) ∧ w'.cell? ⟨n1, 3, none⟩ = some (.int .u8 P3) ∧ w'.cell? ⟨n1, 4, none⟩ = some (.slice a L c) ∧ w'.cell? ⟨g, 1, none⟩ = some (.int .u32 gen))) := Lib.hid fun w' hb => ⟨(hb.cell (p := ⟨n1, 0, none⟩) (block_lt_of_cell x0)).trans x0, (hb.cell (p := ⟨n1, 2, none⟩) (block_lt_of_cell x2)).trans x2, (hb.cell (p := ⟨n1, 3, none⟩) (block_lt_of_cell x3)).trans x3, (hb.cell (p := ⟨n1, 4, none⟩) (block_lt_of_cell x4)).trans x4, (hb.cell (p := ⟨g, 1, none⟩) hgl).trans hg1⟩
        clear x0 x2 x3 x4 hg1
        have HB2 := Lib.hid (btr HB.out (bdr (bre W)))
        have HD2 := Lib.hid (HD1.out.below (bdr (bre W)))
        refine region_anyZ (z := 24) (S := fun w' => (w'.cell? ⟨n1, 0, none⟩ = some (.int .u32 P0) ∧ w'.cell? ⟨n1, 2, none⟩ = some (.int .u32 P2) ∧ w'.cell? ⟨n1, 3, none⟩ = some (.int .u8 P3) ∧ w'.cell? ⟨n1, 4, none⟩ = some (.slice a L c) ∧ w'.cell? ⟨g, 1, none⟩ = some (.int .u32 gen))) (by kernel_rfl) ?_
        refine anyZ_begin (fun hcl0 => ?_)
        refine anyZ_held (by exact HSB.out _ (bdr (bre W))) (fun hHeld => ?_)
        -- 0: Op.fieldAddr 122 (Operand.tmp 5) 0
        refine' anyZ_pure (i := 0) (v := _) rfl (by rfl) (by kernel_rfl) (by kernel_rfl) (by kernel_rfl) hcl0 (fun _ _ _ h => h) (Or.inl ⟨by rfl, fun w _ => ?hz1⟩) (fun _ => hHeld) (fun hcl1 => ?rz1)
        case hz1 => (simp only [List.getElem_toArray, List.getElem_cons_zero]; first | (go_simp; with_reducible rfl) | (go_simp; done) | rfl)
        simp only [List.getElem_toArray, List.getElem_cons_zero, Act.put, List.setIfInBounds_toArray, List.set_cons_zero, List.set_cons_succ]
        -- 1: Op.load 34 (Operand.tmp 9)
        refine' anyZ_take (i := 1) (v := _) rfl (by rfl) (by kernel_rfl) (by kernel_rfl) (by kernel_rfl) hcl1 8 (by kernel_rfl) (by kernel_rfl) (fun _ _ _ h => h) (Or.inl ⟨by rfl, fun w hSw => ?hz2⟩) hHeld (fun hcl2 => ?rz2)
        case hz2 => (simp only [List.getElem_toArray, List.getElem_cons_succ, List.getElem_cons_zero]; obtain ⟨hS1, hS2, hS3, hS4, hS5⟩ := hSw; first | (go_simp; with_reducible rfl) | (go_simp; done) | rfl)
        simp only [List.getElem_toArray, List.getElem_cons_succ, List.getElem_cons_zero, Act.put, List.setIfInBounds_toArray, List.set_cons_zero, List.set_cons_succ]
        -- 2: Op.move (Operand.tmp 0)
        refine' anyZ_pure (i := 2) (v := _) rfl (by rfl) (by kernel_rfl) (by kernel_rfl) (by kernel_rfl) hcl2 (fun _ _ _ h => h) (Or.inl ⟨by rfl, fun w _ => ?hz3⟩) (fun _ => hHeld) (fun hcl3 => ?rz3)
        case hz3 => (simp only [List.getElem_toArray, List.getElem_cons_succ, List.getElem_cons_zero]; first | (go_simp; with_reducible rfl) | (go_simp; done) | rfl)
        simp only [List.getElem_toArray, List.getElem_cons_succ, List.getElem_cons_zero, Act.put, List.setIfInBounds_toArray, List.set_cons_zero, List.set_cons_succ]
        -- 3: Op.nilCheck (Operand.tmp 11)
        refine' anyZ_pure (i := 3) (v := _) rfl (by rfl) (by kernel_rfl) (by kernel_rfl) (by kernel_rfl) hcl3 (fun _ _ _ h => h) (Or.inl ⟨by rfl, fun w _ => ?hz4⟩) (fun _ => hHeld) (fun hcl4 => ?rz4)
        case hz4 => (simp only [List.getElem_toArray, List.getElem_cons_succ, List.getElem_cons_zero]; first | (go_simp; with_reducible rfl) | (go_simp; done) | rfl)
        simp only [List.getElem_toArray, List.getElem_cons_succ, List.getElem_cons_zero, Act.put, List.setIfInBounds_toArray, List.set_cons_zero, List.set_cons_succ]
        -- 4: Op.fieldAddr 99 (Operand.tmp 12) 1
        refine' anyZ_pure (i := 4) (v := _) rfl (by rfl) (by kernel_rfl) (by kernel_rfl) (by kernel_rfl) hcl4 (fun _ _ _ h => h) (Or.inl ⟨by rfl, fun w _ => ?hz5⟩) (fun _ => hHeld) (fun hcl5 => ?rz5)
        case hz5 => (simp only [List.getElem_toArray, List.getElem_cons_succ, List.getElem_cons_zero]; first | (go_simp; with_reducible rfl) | (go_simp; done) | rfl)
        simp only [List.getElem_toArray, List.getElem_cons_succ, List.getElem_cons_zero, Act.put, List.setIfInBounds_toArray, List.set_cons_zero, List.set_cons_succ]
        -- 5: Op.load 34 (Operand.tmp 13)
        refine' anyZ_take (i := 5) (v := _) rfl (by rfl) (by kernel_rfl) (by kernel_rfl) (by kernel_rfl) hcl5 8 (by kernel_rfl) (by kernel_rfl) (fun _ _ _ h => h) (Or.inl ⟨by rfl, fun w hSw => ?hz6⟩) hHeld (fun hcl6 => ?rz6)
        case hz6 => (simp only [List.getElem_toArray, List.getElem_cons_succ, List.getElem_cons_zero]; obtain ⟨hS1, hS2, hS3, hS4, hS5⟩ := hSw; first | (go_simp; with_reducible rfl) | (go_simp; done) | rfl)
        simp only [List.getElem_toArray, List.getElem_cons_succ, List.getElem_cons_zero, Act.put, List.setIfInBounds_toArray, List.set_cons_zero, List.set_cons_succ]
        -- 6: Op.binOp BinOp.eql 34 (Operand.tmp 10) (Operand.tmp 14) 34
        refine' anyZ_pure (i := 6) (v := _) rfl (by rfl) (by kernel_rfl) (by kernel_rfl) (by kernel_rfl) hcl6 (fun _ _ _ h => h) (Or.inl ⟨by rfl, fun w _ => ?hz7⟩) (fun _ => hHeld) (fun hcl7 => ?rz7)
        case hz7 => (simp only [List.getElem_toArray, List.getElem_cons_succ, List.getElem_cons_zero]; first | (go_simp; with_reducible rfl) | (go_simp; done) | rfl)
        simp only [List.getElem_toArray, List.getElem_cons_succ, List.getElem_cons_zero, Act.put, List.setIfInBounds_toArray, List.set_cons_zero, List.set_cons_succ]
        -- 7: Op.move (Operand.tmp 15)
        refine' anyZ_pure (i := 7) (v := _) rfl (by rfl) (by kernel_rfl) (by kernel_rfl) (by kernel_rfl) hcl7 (fun _ _ _ h => h) (Or.inl ⟨by rfl, fun w _ => ?hz8⟩) (fun _ => hHeld) (fun hcl8 => ?rz8)
        case hz8 => (simp only [List.getElem_toArray, List.getElem_cons_succ, List.getElem_cons_zero]; first | (go_simp; with_reducible rfl) | (go_simp; done) | rfl)
        simp only [List.getElem_toArray, List.getElem_cons_succ, List.getElem_cons_zero, Act.put, List.setIfInBounds_toArray, List.set_cons_zero, List.set_cons_succ]
        -- 8: Op.fieldAddr 122 (Operand.tmp 5) 3
        refine' anyZ_pure (i := 8) (v := _) rfl (by rfl) (by kernel_rfl) (by kernel_rfl) (by kernel_rfl) hcl8 (fun _ _ _ h => h) (Or.inl ⟨by rfl, fun w _ => ?hz9⟩) (fun _ => hHeld) (fun hcl9 => ?rz9)
        case hz9 => (simp only [List.getElem_toArray, List.getElem_cons_succ, List.getElem_cons_zero]; first | (go_simp; with_reducible rfl) | (go_simp; done) | rfl)
        simp only [List.getElem_toArray, List.getElem_cons_succ, List.getElem_cons_zero, Act.put, List.setIfInBounds_toArray, List.set_cons_zero, List.set_cons_succ]
        -- 9: Op.load 5 (Operand.tmp 17)
        refine' anyZ_take (i := 9) (v := _) rfl (by rfl) (by kernel_rfl) (by kernel_rfl) (by kernel_rfl) hcl9 8 (by kernel_rfl) (by kernel_rfl) (fun _ _ _ h => h) (Or.inl ⟨by rfl, fun w hSw => ?hz10⟩) hHeld (fun hcl10 => ?rz10)
        case hz10 => (simp only [List.getElem_toArray, List.getElem_cons_succ, List.getElem_cons_zero]; obtain ⟨hS1, hS2, hS3, hS4, hS5⟩ := hSw; first | (go_simp; with_reducible rfl) | (go_simp; done) | rfl)
        simp only [List.getElem_toArray, List.getElem_cons_succ, List.getElem_cons_zero, Act.put, List.setIfInBounds_toArray, List.set_cons_zero, List.set_cons_succ]
        -- 10: Op.binOp BinOp.eql 5 (Operand.tmp 18) (Operand.const (Value.
        refine' anyZ_pure (i := 10) (v := _) rfl (by rfl) (by kernel_rfl) (by kernel_rfl) (by kernel_rfl) hcl10 (fun _ _ _ h => h) (Or.inl ⟨by rfl, fun w _ => ?hz11⟩) (fun _ => hHeld) (fun hcl11 => ?rz11)
        case hz11 => (simp only [List.getElem_toArray, List.getElem_cons_succ, List.getElem_cons_zero]; first | (go_simp; with_reducible rfl) | (go_simp; done) | rfl)
        simp only [List.getElem_toArray, List.getElem_cons_succ, List.getElem_cons_zero, Act.put, List.setIfInBounds_toArray, List.set_cons_zero, List.set_cons_succ]
        -- 11: Op.pick (Operand.tmp 16) (Operand.tmp 19) (Operand.const (Va
        refine' anyZ_pure (i := 11) (v := _) rfl (by rfl) (by kernel_rfl) (by kernel_rfl) (by kernel_rfl) hcl11 (fun _ _ _ h => h) (Or.inl ⟨by rfl, fun w _ => ?hz12⟩) (fun _ => hHeld) (fun hcl12 => ?rz12)
        case hz12 => (simp only [List.getElem_toArray, List.getElem_cons_succ, List.getElem_cons_zero]; first | (go_simp; with_reducible rfl) | (go_simp; done) | rfl)
        simp only [List.getElem_toArray, List.getElem_cons_succ, List.getElem_cons_zero, Act.put, List.setIfInBounds_toArray, List.set_cons_zero, List.set_cons_succ]
        -- 12: Op.move (Operand.tmp 20)
        refine' anyZ_pure (i := 12) (v := _) rfl (by rfl) (by kernel_rfl) (by kernel_rfl) (by kernel_rfl) hcl12 (fun _ _ _ h => h) (Or.inl ⟨by rfl, fun w _ => ?hz13⟩) (fun _ => hHeld) (fun hcl13 => ?rz13)
        case hz13 => (simp only [List.getElem_toArray, List.getElem_cons_succ, List.getElem_cons_zero]; first | (go_simp; with_reducible rfl) | (go_simp; done) | rfl)
        simp only [List.getElem_toArray, List.getElem_cons_succ, List.getElem_cons_zero, Act.put, List.setIfInBounds_toArray, List.set_cons_zero, List.set_cons_succ]
        -- 13: Op.fieldAddr 122 (Operand.tmp 5) 2
        refine' anyZ_pure (i := 13) (v := _) rfl (by rfl) (by kernel_rfl) (by kernel_rfl) (by kernel_rfl) hcl13 (fun _ _ _ h => h) (Or.inl ⟨by rfl, fun w _ => ?hz14⟩) (fun _ => hHeld) (fun hcl14 => ?rz14)
        case hz14 => (simp only [List.getElem_toArray, List.getElem_cons_succ, List.getElem_cons_zero]; first | (go_simp; with_reducible rfl) | (go_simp; done) | rfl)
        simp only [List.getElem_toArray, List.getElem_cons_succ, List.getElem_cons_zero, Act.put, List.setIfInBounds_toArray, List.set_cons_zero, List.set_cons_succ]
        -- 14: Op.load 34 (Operand.tmp 22)
        refine' anyZ_take (i := 14) (v := _) rfl (by rfl) (by kernel_rfl) (by kernel_rfl) (by kernel_rfl) hcl14 8 (by kernel_rfl) (by kernel_rfl) (fun _ _ _ h => h) (Or.inl ⟨by rfl, fun w hSw => ?hz15⟩) hHeld (fun hcl15 => ?rz15)
        case hz15 => (simp only [List.getElem_toArray, List.getElem_cons_succ, List.getElem_cons_zero]; obtain ⟨hS1, hS2, hS3, hS4, hS5⟩ := hSw; first | (go_simp; with_reducible rfl) | (go_simp; done) | rfl)
        simp only [List.getElem_toArray, List.getElem_cons_succ, List.getElem_cons_zero, Act.put, List.setIfInBounds_toArray, List.set_cons_zero, List.set_cons_succ]
        -- 15: Op.convert 34 2 (Operand.tmp 23)
        refine' anyZ_pure (i := 15) (v := _) rfl (by rfl) (by kernel_rfl) (by kernel_rfl) (by kernel_rfl) hcl15 (fun _ _ _ h => h) (Or.inl ⟨by rfl, fun w _ => ?hz16⟩) (fun _ => hHeld) (fun hcl16 => ?rz16)
        case hz16 => (simp only [List.getElem_toArray, List.getElem_cons_succ, List.getElem_cons_zero]; first | (go_simp; with_reducible rfl) | (go_simp; done) | rfl)
        simp only [List.getElem_toArray, List.getElem_cons_succ, List.getElem_cons_zero, Act.put, List.setIfInBounds_toArray, List.set_cons_zero, List.set_cons_succ]
        -- 16: Op.move (Operand.tmp 2)
        refine' anyZ_pure (i := 16) (v := _) rfl (by rfl) (by kernel_rfl) (by kernel_rfl) (by kernel_rfl) hcl16 (fun _ _ _ h => h) (Or.inl ⟨by rfl, fun w _ => ?hz17⟩) (fun _ => hHeld) (fun hcl17 => ?rz17)
        case hz17 => (simp only [List.getElem_toArray, List.getElem_cons_succ, List.getElem_cons_zero]; first | (go_simp; with_reducible rfl) | (go_simp; done) | rfl)
        simp only [List.getElem_toArray, List.getElem_cons_succ, List.getElem_cons_zero, Act.put, List.setIfInBounds_toArray, List.set_cons_zero, List.set_cons_succ]
        -- 17: Op.binOp BinOp.eql 2 (Operand.tmp 24) (Operand.tmp 25) 2
        refine' anyZ_pure (i := 17) (v := _) rfl (by rfl) (by kernel_rfl) (by kernel_rfl) (by kernel_rfl) hcl17 (fun _ _ _ h => h) (Or.inl ⟨by rfl, fun w _ => ?hz18⟩) (fun _ => hHeld) (fun hcl18 => ?rz18)
        case hz18 => (simp only [List.getElem_toArray, List.getElem_cons_succ, List.getElem_cons_zero]; first | (go_simp; with_reducible rfl) | (go_simp; done) | rfl)
        simp only [List.getElem_toArray, List.getElem_cons_succ, List.getElem_cons_zero, Act.put, List.setIfInBounds_toArray, List.set_cons_zero, List.set_cons_succ]
        -- 18: Op.pick (Operand.tmp 21) (Operand.tmp 26) (Operand.const (Va
        refine' anyZ_pure (i := 18) (v := _) rfl (by rfl) (by kernel_rfl) (by kernel_rfl) (by kernel_rfl) hcl18 (fun _ _ _ h => h) (Or.inl ⟨by rfl, fun w _ => ?hz19⟩) (fun _ => hHeld) (fun hcl19 => ?rz19)
        case hz19 => (simp only [List.getElem_toArray, List.getElem_cons_succ, List.getElem_cons_zero]; first | (go_simp; with_reducible rfl) | (go_simp; done) | rfl)
        simp only [List.getElem_toArray, List.getElem_cons_succ, List.getElem_cons_zero, Act.put, List.setIfInBounds_toArray, List.set_cons_zero, List.set_cons_succ]
        -- 19: Op.move (Operand.tmp 27)
        refine' anyZ_pure (i := 19) (v := _) rfl (by rfl) (by kernel_rfl) (by kernel_rfl) (by kernel_rfl) hcl19 (fun _ _ _ h => h) (Or.inl ⟨by rfl, fun w _ => ?hz20⟩) (fun _ => hHeld) (fun hcl20 => ?rz20)
        case hz20 => (simp only [List.getElem_toArray, List.getElem_cons_succ, List.getElem_cons_zero]; first | (go_simp; with_reducible rfl) | (go_simp; done) | rfl)
        simp only [List.getElem_toArray, List.getElem_cons_succ, List.getElem_cons_zero, Act.put, List.setIfInBounds_toArray, List.set_cons_zero, List.set_cons_succ]
        -- 20: Op.fieldAddr 122 (Operand.tmp 5) 4
        refine' anyZ_pure (i := 20) (v := _) rfl (by rfl) (by kernel_rfl) (by kernel_rfl) (by kernel_rfl) hcl20 (fun _ _ _ h => h) (Or.inl ⟨by rfl, fun w _ => ?hz21⟩) (fun _ => hHeld) (fun hcl21 => ?rz21)
        case hz21 => (simp only [List.getElem_toArray, List.getElem_cons_succ, List.getElem_cons_zero]; first | (go_simp; with_reducible rfl) | (go_simp; done) | rfl)
        simp only [List.getElem_toArray, List.getElem_cons_succ, List.getElem_cons_zero, Act.put, List.setIfInBounds_toArray, List.set_cons_zero, List.set_cons_succ]
        -- 21: Op.load 23 (Operand.tmp 29)
        refine' anyZ_take (i := 21) (v := _) rfl (by rfl) (by kernel_rfl) (by kernel_rfl) (by kernel_rfl) hcl21 8 (by kernel_rfl) (by kernel_rfl) (fun _ _ _ h => h) (Or.inl ⟨by rfl, fun w hSw => ?hz22⟩) hHeld (fun hcl22 => ?rz22)
        case hz22 => (simp only [List.getElem_toArray, List.getElem_cons_succ, List.getElem_cons_zero]; obtain ⟨hS1, hS2, hS3, hS4, hS5⟩ := hSw; first | (go_simp; with_reducible rfl) | (go_simp; done) | rfl)
        simp only [List.getElem_toArray, List.getElem_cons_succ, List.getElem_cons_zero, Act.put, List.setIfInBounds_toArray, List.set_cons_zero, List.set_cons_succ]
        -- 22: Op.move (Operand.tmp 3)
        refine' anyZ_pure (i := 22) (v := _) rfl (by rfl) (by kernel_rfl) (by kernel_rfl) (by kernel_rfl) hcl22 (fun _ _ _ h => h) (Or.inl ⟨by rfl, fun w _ => ?hz23⟩) (fun _ => hHeld) (fun hcl23 => ?rz23)
        case hz23 => (simp only [List.getElem_toArray, List.getElem_cons_succ, List.getElem_cons_zero]; first | (go_simp; with_reducible rfl) | (go_simp; done) | rfl)
        simp only [List.getElem_toArray, List.getElem_cons_succ, List.getElem_cons_zero, Act.put, List.setIfInBounds_toArray, List.set_cons_zero, List.set_cons_succ]
        -- 23: Op.call { callee := Callee.value (Operand.func 76), args := 
        refine anyZ_oneG (i := 23) hcl23 (by kernel_rfl) (by simp only [List.getElem?_toArray, List.getElem?_cons_succ, List.getElem?_cons_zero]; rfl) (by rfl) (fun hcl24 K hK => ?_)
        go_simp
        refine (rfour_any ahead ha _).mono ?_
        rintro e w3 ⟨v3, rfl, ho3, hb3⟩
        have HB3 := Lib.hid (btr HB2.out hb3)
        have HPX := Lib.hid (prefix_any _ v3 D (be4 ahead) w3 (HD2.out.below hb3) ho3.bytes (by rw [be4_len]; decide))
        rw [be4_len, ← HR.out] at HPX
        clear ho3
        refine hK _ _ (fun _ => ?_) ?_
        · exact HSB.out _ (btr (bdr (bre W)) hb3)
        clear hK K hHeld
        try simp only [Act.put, List.setIfInBounds_toArray, List.set_cons_zero, List.set_cons_succ]
        refine anyZ_chain_at (by kernel_rfl) ?_
        simp only [List.drop_succ_cons, List.drop_zero]
        go_wp2_with fail
        refine HPX.out.mono ?_
        rintro e w4 ⟨rfl, hw4⟩
        have hw4' := hw4.symm
        subst hw4'
        clear hw4
        go_wp2_with fail
        go_ret
        exact ⟨by simp, HB3.out⟩
      | false =>
        go_quiet (fail)
        go_wp2
        go_ret
        exact ⟨by simp, btr HB.out (bdn (bre W) _)⟩
    | false =>
      go_quiet (fail)
      go_wp2
      go_ret
      exact ⟨by simp, btr HB.out (bdn (bre W) _)⟩
  | false =>
    go_quiet (fail)
    go_wp2
    go_ret
    exact ⟨by simp, btr HB.out (bdn (bre W) _)⟩
end Go.Proofs.YtacfkhnajdneeaaDoor
