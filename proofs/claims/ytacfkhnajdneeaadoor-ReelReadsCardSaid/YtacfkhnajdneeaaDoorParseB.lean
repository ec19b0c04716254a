/- Walk: Parse, what is opened. -/
import Derived.Test.YtacfkhnajdneeaaDoorParse
import Derived.Test.YtacfkhnajdneeaaDoorPreC
import Derived.Test.YtacfkhnajdneeaaDoorPreB
namespace Go.Proofs.YtacfkhnajdneeaaDoor
open Go.RowKit

/-- an empty page in a block of its own -/
def Zed (w : World) (n B : Nat) : Prop := w.heap[n]? = some (.cells #[.int .u32 0, .int .u32 0, .int .u32 0, .int .u8 0, .slice none 0 0] 122 (0, 0)) ∧ B ≤ n
theorem Zed.below {w w' : World} {n B : Nat} (h : Zed w n B) (hb : Below w.heap.size w w') : Zed w' n B := ⟨(hb.block n (Array.getElem?_eq_some_iff.1 h.1).1).trans h.1, h.2⟩

theorem page_set {w w5 : World} {n7 B : Nat} (v0 v1 v2 k : Nat) (hB : Below B w w5) (h : Zed w5 n7 B) :
    (((((w5.setCell ⟨n7, 0, none⟩ (.int .u32 v0)).setCell ⟨n7, 1, none⟩ (.int .u32 v1)).setCell ⟨n7, 2, none⟩ (.int .u32 v2)).setCell ⟨n7, 3, none⟩ (.int .u8 k)).setCell ⟨n7, 4, none⟩ (.slice none 0 0)).heap[n7]? = some (.cells #[.int .u32 v0, .int .u32 v1, .int .u32 v2, .int .u8 k, .slice none 0 0] 122 (0, 0)) ∧ Below B w (((((w5.setCell ⟨n7, 0, none⟩ (.int .u32 v0)).setCell ⟨n7, 1, none⟩ (.int .u32 v1)).setCell ⟨n7, 2, none⟩ (.int .u32 v2)).setCell ⟨n7, 3, none⟩ (.int .u8 k)).setCell ⟨n7, 4, none⟩ (.slice none 0 0)) := by
  obtain ⟨hc, hn⟩ := h
  refine ⟨?_, ((((hB.setCell hn _).setCell hn _).setCell hn _).setCell hn _).setCell hn _⟩
  exact heap_setCell_same _ n7 4 _ _ (.slice none 0 0) (heap_setCell_same _ n7 3 _ _ (.int .u8 k) (heap_setCell_same _ n7 2 _ _ (.int .u32 v2) (heap_setCell_same _ n7 1 _ _ (.int .u32 v1) (heap_setCell_same w5 n7 0 _ _ (.int .u32 v0) hc))))

set_option maxRecDepth 10000 in
theorem num_step (t s : Nat) (a0 a1 a2 a3 : UInt8) (l : List UInt8) (v : Value) (o : Oper) (a : Act) (w1 : World) (K : Act → World → Prop) (Q : Exit → Act → World → Prop) (hv : Bytes w1 v (a0 :: a1 :: a2 :: a3 :: l)) (ho : o.op = .call { callee := .value (.func 85), args := #[.tmp t], argTypes := #[23] }) (hd : o.dst = some s)
    (he : a.eval (.tmp t) = v) (hK : ∀ w2, Bytes w2 v (a0 :: a1 :: a2 :: a3 :: l) → Below w1.heap.size w1 w2 → K (a.put (some s) (.int .u32 (val [a0, a1, a2, a3]))) w2) : o.wp Tryd.prog a w1 K Q := by
  have hrun : (execOp a.eval o).run Tryd.prog w1 = .ok (.enter 85 #[v]) w1 := by
    unfold execOp
    simp only [ho, resolve, invoke, Sem.run_bind, List.map_toArray, List.map_cons, List.map_nil, he]
    rfl
  unfold Oper.wp
  rw [hrun, Oper.upon_enter]
  refine (num_any v a0 a1 a2 a3 l w1 hv).mono ?_
  rintro e w2 ⟨rfl, n, rfl⟩
  rw [hd]
  exact hK _ (hv.below (bdn (bre w1) n)) (bdn (bre w1) n)

set_option maxRecDepth 10000 in
set_option maxHeartbeats 3200000 in
theorem parse_form (v : Value) (b : List UInt8) (w : World) (hv : Bytes w v b) (hl : b.length = 512) (hz : ¬ noughts b) (hs : b = seal8 (b.take 508)) (hbad : b.getD 14 0 = 0 ∨ 491 < lenOf b ∨ ¬ (b.take 2 = mark ∧ noughts ((b.take 508).drop (17 + lenOf b)))) :
    Calls Tryd.prog 73 #[v] w (ParsePost w 2 Pg.zero) := by
  have HBAD := Lib.hid hbad
  clear hbad
  obtain ⟨a, c, rfl, hm, hc, -, -⟩ := id hv
  have HL := Lib.hid hl
  rw [hl] at hv ⊢
  have HV := Lib.hid hv
  have HZ := Lib.hid hz
  have HS := Lib.hid hs
  clear hv hm hc hl hz hs
  go_enter Tryd.func73, Tryd.ntmps73
  go_wp2_with fail
  have hb1 := bal (bre w) (.cells #[.int .u32 0, .int .u32 0, .int .u32 0, .int .u8 0, .slice none 0 0] 122)
  have hc1 := heap_alloc_new w (.cells #[.int .u32 0, .int .u32 0, .int .u32 0, .int .u8 0, .slice none 0 0] 122)
  generalize w.alloc (.cells #[.int .u32 0, .int .u32 0, .int .u32 0, .int .u8 0, .slice none 0 0] 122) = W at *
  obtain ⟨n2, hn2⟩ : ∃ n2, n2 = w.heap.size := ⟨_, rfl⟩
  rw [← hn2] at hc1 ⊢
  have HN2 : Hid (w.heap.size ≤ n2) := Lib.hid (Nat.le_of_eq hn2.symm)
  refine (blank_any _ b _ (HV.out.below hb1)).mono ?_
  rintro e w1 ⟨rfl, n, rfl⟩
  rw [decide_eq_false HZ.out]
  have hb2 := btr hb1 (bdn (bre _) n)
  have hc2 : (W.drewN n).heap[n2]? = _ := hc1
  generalize W.drewN n = W2 at *
  have HB2 := Lib.hid hb2
  have HC2 := Lib.hid hc2
  clear hb1 hb2 hc1 hc2 hn2
  go_wp2_with fail
  refine (make_any W2).mono ?_
  rintro e w3 ⟨rfl, hb3⟩
  have hb4 := HB2.out.trans (hb3.mono HB2.out.size)
  have hc4 := (hb3.block n2 (Array.getElem?_eq_some_iff.1 HC2.out).1).trans HC2.out
  have HB4 := Lib.hid hb4
  have HC4 := Lib.hid hc4
  clear hb3 hb4 hc4
  go_wp2_with fail
  refine (open_long _ b 508 w3 (HV.out.below HB4.out) HL.out (by rw [HL.out]; omega)).mono ?_
  rintro e w5 ⟨hb5, h5⟩
  rcases h5 with ⟨-, v4, rfl, ho4⟩ | ⟨h5, -⟩
  rotate_left
  · exact absurd HS.out h5
  obtain ⟨q, hq⟩ : ∃ q, q = b.take 508 := ⟨_, rfl⟩
  rw [← hq] at ho4
  have hql : q.length = 508 := by rw [hq, List.length_take, HL.out]; rfl
  obtain ⟨m0, m1, c0, c1, c2, c3, d0, d1, d2, d3, e0, e1, e2, e3, kd, y0, y1, t, hqq⟩ := open17 q (by omega)
  have hy := ho4.bytes
  obtain ⟨aq, cq, rfl, -, hcq, -, -⟩ := id hy
  have hy2 : Bytes w5 (.slice aq 508 cq) q := by rw [← hql]; exact hy
  obtain ⟨g, o, rfl, x14⟩ := hy2.byteAt 14 (by omega)
  obtain ⟨g1, o1, ee, x15⟩ := hy2.byteAt 15 (by omega)
  cases ee
  obtain ⟨g1, o1, ee, x16⟩ := hy2.byteAt 16 (by omega)
  cases ee
  rw [show q[14] = kd by simp only [hqq]; rfl] at x14
  rw [show q[15] = y0 by simp only [hqq]; rfl] at x15
  rw [show q[16] = y1 by simp only [hqq]; rfl] at x16
  obtain ⟨A2, hA2⟩ : ∃ A : Option Addr, A = (if cq = 2 then some ⟨g, o, none⟩ else some ⟨g, o + 2, none⟩) := ⟨_, rfl⟩
  have z2 : Bytes w5 (.slice A2 506 (cq - 2)) (q.drop 2) := by rw [hA2]; exact Bytes.suffix hy2 2 (by omega)
  obtain ⟨A6, hA6⟩ : ∃ A : Option Addr, A = (if cq = 6 then some ⟨g, o, none⟩ else some ⟨g, o + 6, none⟩) := ⟨_, rfl⟩
  have z6 : Bytes w5 (.slice A6 502 (cq - 6)) (q.drop 6) := by rw [hA6]; exact Bytes.suffix hy2 6 (by omega)
  obtain ⟨A10, hA10⟩ : ∃ A : Option Addr, A = (if cq = 10 then some ⟨g, o, none⟩ else some ⟨g, o + 10, none⟩) := ⟨_, rfl⟩
  have z10 : Bytes w5 (.slice A10 498 (cq - 10)) (q.drop 10) := by rw [hA10]; exact Bytes.suffix hy2 10 (by omega)
  rw [hqq] at z2 z6 z10
  rw [hql] at hcq ⊢
  have HY := Lib.hid hy2
  have HQ := Lib.hid hq
  have HQL := Lib.hid hql
  have HQQ := Lib.hid hqq
  have HA2 := Lib.hid hA2
  have HA6 := Lib.hid hA6
  have HA10 := Lib.hid hA10
  clear hA2 hA6 hA10
  have Z2 := Lib.hid (show Bytes w5 (.slice A2 506 (cq - 2)) (c0 :: c1 :: c2 :: c3 :: (d0 :: d1 :: d2 :: d3 :: e0 :: e1 :: e2 :: e3 :: kd :: y0 :: y1 :: t)) from z2)
  have Z6 := Lib.hid (show Bytes w5 (.slice A6 502 (cq - 6)) (d0 :: d1 :: d2 :: d3 :: (e0 :: e1 :: e2 :: e3 :: kd :: y0 :: y1 :: t)) from z6)
  have Z10 := Lib.hid (show Bytes w5 (.slice A10 498 (cq - 10)) (e0 :: e1 :: e2 :: e3 :: (kd :: y0 :: y1 :: t)) from z10)
  have hb6 := HB4.out.trans (hb5.mono HB4.out.size)
  have hc6 := (hb5.block n2 (Array.getElem?_eq_some_iff.1 HC4.out).1).trans HC4.out
  have HB6 := Lib.hid hb6
  have HC6 := Lib.hid hc6
  have hy0 := y0.toNat_lt
  have hy1 := y1.toNat_lt
  obtain ⟨p0, hp0⟩ : ∃ p0, p0 = y0.toNat := ⟨_, rfl⟩
  obtain ⟨p1, hp1⟩ : ∃ p1, p1 = y1.toNat := ⟨_, rfl⟩
  obtain ⟨pk, hpk⟩ : ∃ pk, pk = kd.toNat := ⟨_, rfl⟩
  rw [← hp0] at x15 hy0
  rw [← hp1] at x16 hy1
  rw [← hpk] at x14
  have HP0 := Lib.hid hp0
  have HP1 := Lib.hid hp1
  have HPK := Lib.hid hpk
  clear hb5 hb6 hc6 hy hy2 hq hql hqq z2 z6 z10 ho4 hp0 hp1 hpk
  go_upto_region 8 with fail
  go_quiet (fail)
  rw [or2 p0 p1 (by omega) (by omega)]
  obtain ⟨ln, hln⟩ : ∃ ln, ln = p0 * 256 + p1 := ⟨_, rfl⟩
  rw [← hln]
  have hb7 := bdn (bre w5) nq
  have f14 : (w5.drewN nq).cell? ⟨g, o + 14, none⟩ = some (.int .u8 pk) := x14
  have Y2 := Lib.hid (Z2.out.below hb7)
  have Y6 := Lib.hid (Z6.out.below hb7)
  have Y10 := Lib.hid (Z10.out.below hb7)
  have HY7 := Lib.hid (HY.out.below hb7)
  have HB7 := Lib.hid (HB6.out.trans (hb7.mono HB6.out.size))
  have HC7 := Lib.hid (show (w5.drewN nq).heap[n2]? = _ from HC6.out)
  have HLN := Lib.hid hln
  clear x14 x15 x16 hb7 hln Z2 Z6 Z10
  generalize w5.drewN nq = W5 at *
  go_upto_region 9 with fail
  have hSB : ∀ w', Below W5.heap.size W5 w' → w'.cell? ⟨g, o + 14, none⟩ = some (.int .u8 pk) := fun w' hb => (hb.cell (p := ⟨g, o + 14, none⟩) (block_lt_of_cell f14)).trans f14
  have HSB := Lib.hid hSB
  clear hSB
  refine region_anyZ (z := 14) (S := fun w' => w'.cell? ⟨g, o + 14, none⟩ = some (.int .u8 pk)) (by kernel_rfl) ?_
  refine anyZ_begin (fun hcl0 => ?_)
  refine anyZ_held (by exact HSB.out _ (bdr (bre W5))) (fun hHeld => ?_)
  -- 0: Op.move (Operand.tmp 4)
  refine' anyZ_pure (i := 0) (v := _) rfl (by rfl) (by kernel_rfl) (by kernel_rfl) (by kernel_rfl) hcl0 (fun _ _ _ h => h) (Or.inl ⟨by rfl, fun w _ => ?h1⟩) (fun _ => hHeld) (fun hcl1 => ?r1)
  case h1 => (simp only [List.getElem_toArray, List.getElem_cons_zero]; first | (go_simp; with_reducible rfl) | (go_simp; done) | rfl)
  simp only [List.getElem_toArray, List.getElem_cons_zero, Act.put, List.setIfInBounds_toArray, List.set_cons_zero, List.set_cons_succ]
  -- 1: Op.slice 23 (Operand.tmp 37) (some (Operand.const (Value.int
  refine' anyZ_pure (i := 1) (v := _) rfl (by rfl) (by kernel_rfl) (by kernel_rfl) (by kernel_rfl) hcl1 (fun _ _ _ h => h) (Or.inl ⟨by rfl, fun w _ => ?h2⟩) (fun _ => hHeld) (fun hcl2 => ?r2)
  case h2 => (simp only [List.getElem_toArray, List.getElem_cons_succ, List.getElem_cons_zero]; first | (go_simp; with_reducible rfl) | (go_simp; done) | rfl)
  simp only [List.getElem_toArray, List.getElem_cons_succ, List.getElem_cons_zero, Act.put, List.setIfInBounds_toArray, List.set_cons_zero, List.set_cons_succ]
  -- 3: Op.move (Operand.tmp 4)
  refine' anyZ_pure (i := 3) (v := _) rfl (by rfl) (by kernel_rfl) (by kernel_rfl) (by kernel_rfl) hcl2 (fun _ _ _ h => h) (Or.inl ⟨by rfl, fun w _ => ?h3⟩) (fun _ => hHeld) (fun hcl3 => ?r3)
  case h3 => (simp only [List.getElem_toArray, List.getElem_cons_succ, List.getElem_cons_zero]; first | (go_simp; with_reducible rfl) | (go_simp; done) | rfl)
  simp only [List.getElem_toArray, List.getElem_cons_succ, List.getElem_cons_zero, Act.put, List.setIfInBounds_toArray, List.set_cons_zero, List.set_cons_succ]
  -- 4: Op.slice 23 (Operand.tmp 40) (some (Operand.const (Value.int
  refine' anyZ_pure (i := 4) (v := _) rfl (by rfl) (by kernel_rfl) (by kernel_rfl) (by kernel_rfl) hcl3 (fun _ _ _ h => h) (Or.inl ⟨by rfl, fun w _ => ?h4⟩) (fun _ => hHeld) (fun hcl4 => ?r4)
  case h4 => (simp only [List.getElem_toArray, List.getElem_cons_succ, List.getElem_cons_zero]; first | (go_simp; with_reducible rfl) | (go_simp; done) | rfl)
  simp only [List.getElem_toArray, List.getElem_cons_succ, List.getElem_cons_zero, Act.put, List.setIfInBounds_toArray, List.set_cons_zero, List.set_cons_succ]
  -- 6: Op.move (Operand.tmp 4)
  refine' anyZ_pure (i := 6) (v := _) rfl (by rfl) (by kernel_rfl) (by kernel_rfl) (by kernel_rfl) hcl4 (fun _ _ _ h => h) (Or.inl ⟨by rfl, fun w _ => ?h5⟩) (fun _ => hHeld) (fun hcl5 => ?r5)
  case h5 => (simp only [List.getElem_toArray, List.getElem_cons_succ, List.getElem_cons_zero]; first | (go_simp; with_reducible rfl) | (go_simp; done) | rfl)
  simp only [List.getElem_toArray, List.getElem_cons_succ, List.getElem_cons_zero, Act.put, List.setIfInBounds_toArray, List.set_cons_zero, List.set_cons_succ]
  -- 7: Op.slice 23 (Operand.tmp 43) (some (Operand.const (Value.int
  refine' anyZ_pure (i := 7) (v := _) rfl (by rfl) (by kernel_rfl) (by kernel_rfl) (by kernel_rfl) hcl5 (fun _ _ _ h => h) (Or.inl ⟨by rfl, fun w _ => ?h6⟩) (fun _ => hHeld) (fun hcl6 => ?r6)
  case h6 => (simp only [List.getElem_toArray, List.getElem_cons_succ, List.getElem_cons_zero]; first | (go_simp; with_reducible rfl) | (go_simp; done) | rfl)
  simp only [List.getElem_toArray, List.getElem_cons_succ, List.getElem_cons_zero, Act.put, List.setIfInBounds_toArray, List.set_cons_zero, List.set_cons_succ]
  -- 9: Op.move (Operand.tmp 4)
  refine' anyZ_pure (i := 9) (v := _) rfl (by rfl) (by kernel_rfl) (by kernel_rfl) (by kernel_rfl) hcl6 (fun _ _ _ h => h) (Or.inl ⟨by rfl, fun w _ => ?h7⟩) (fun _ => hHeld) (fun hcl7 => ?r7)
  case h7 => (simp only [List.getElem_toArray, List.getElem_cons_succ, List.getElem_cons_zero]; first | (go_simp; with_reducible rfl) | (go_simp; done) | rfl)
  simp only [List.getElem_toArray, List.getElem_cons_succ, List.getElem_cons_zero, Act.put, List.setIfInBounds_toArray, List.set_cons_zero, List.set_cons_succ]
  -- 10: Op.indexAddr 23 (Operand.tmp 46) (Operand.const (Value.int I
  refine' anyZ_pure (i := 10) (v := _) rfl (by rfl) (by kernel_rfl) (by kernel_rfl) (by kernel_rfl) hcl7 (fun _ _ _ h => h) (Or.inl ⟨by rfl, fun w _ => ?h8⟩) (fun _ => hHeld) (fun hcl8 => ?r8)
  case h8 => (simp only [List.getElem_toArray, List.getElem_cons_succ, List.getElem_cons_zero]; first | (go_simp; with_reducible rfl) | (go_simp; done) | rfl)
  simp only [List.getElem_toArray, List.getElem_cons_succ, List.getElem_cons_zero, Act.put, List.setIfInBounds_toArray, List.set_cons_zero, List.set_cons_succ]
  -- 11: Op.load 5 (Operand.tmp 47)
  refine' anyZ_take (i := 11) (v := _) rfl (by rfl) (by kernel_rfl) (by kernel_rfl) (by kernel_rfl) hcl8 5 (by kernel_rfl) (by kernel_rfl) (fun _ _ _ h => h) (Or.inl ⟨by rfl, fun w hSw => ?h9⟩) hHeld (fun hcl9 => ?r9)
  case h9 => (simp only [List.getElem_toArray, List.getElem_cons_succ, List.getElem_cons_zero]; first | (go_simp; with_reducible rfl) | (go_simp; done) | rfl)
  simp only [List.getElem_toArray, List.getElem_cons_succ, List.getElem_cons_zero, Act.put, List.setIfInBounds_toArray, List.set_cons_zero, List.set_cons_succ]
  refine anyZ_cast (listed' := #[true, true, false, true, true, false, true, true, false, true, true, true, false, false, false]) (by kernel_rfl) ?_
  refine anyZ_name (fun T Wp R HT HR Hop HE => ?_)
  generalize hA : Act.mk _ _ = A
  have E38 : A.eval (.tmp 38) = .slice A2 506 (cq - 2) := by rw [← hA, HA2.out]; rfl
  have E41 : A.eval (.tmp 41) = .slice A6 502 (cq - 6) := by rw [← hA, HA6.out]; rfl
  have E44 : A.eval (.tmp 44) = .slice A10 498 (cq - 10) := by rw [← hA, HA10.out]; rfl
  have E48 : A.eval (.tmp 48) = .int .u8 pk := by rw [← hA]; rfl
  have hsz : A.tmps.size = 79 := by rw [← hA]; rfl
  have HA := Lib.hid hA
  clear hA
  have M2 : ∀ (a : Act) (w1 : World) (K : Act → World → Prop), Below W5.heap.size W5 w1 → a.eval (.tmp 38) = .slice A2 506 (cq - 2) → (∀ w2, Bytes w2 (.slice A2 506 (cq - 2)) (c0 :: c1 :: c2 :: c3 :: (d0 :: d1 :: d2 :: d3 :: e0 :: e1 :: e2 :: e3 :: kd :: y0 :: y1 :: t)) → Below w1.heap.size w1 w2 → K (a.put (some 39) (.int .u32 (val [c0, c1, c2, c3]))) w2) → Wp 2 K a w1 := by
    intro a w1 K hb he hK
    exact Hop 2 _ a w1 K (by simp only [List.getElem?_toArray, List.getElem?_cons_succ, List.getElem?_cons_zero]; rfl) rfl (num_step 38 39 _ _ _ _ _ _ _ a w1 K _ (Y2.out.below hb) rfl rfl he hK)
  have M5 : ∀ (a : Act) (w1 : World) (K : Act → World → Prop), Below W5.heap.size W5 w1 → a.eval (.tmp 41) = .slice A6 502 (cq - 6) → (∀ w2, Bytes w2 (.slice A6 502 (cq - 6)) (d0 :: d1 :: d2 :: d3 :: (e0 :: e1 :: e2 :: e3 :: kd :: y0 :: y1 :: t)) → Below w1.heap.size w1 w2 → K (a.put (some 42) (.int .u32 (val [d0, d1, d2, d3]))) w2) → Wp 5 K a w1 := by
    intro a w1 K hb he hK
    exact Hop 5 _ a w1 K (by simp only [List.getElem?_toArray, List.getElem?_cons_succ, List.getElem?_cons_zero]; rfl) rfl (num_step 41 42 _ _ _ _ _ _ _ a w1 K _ (Y6.out.below hb) rfl rfl he hK)
  have M8 : ∀ (a : Act) (w1 : World) (K : Act → World → Prop), Below W5.heap.size W5 w1 → a.eval (.tmp 44) = .slice A10 498 (cq - 10) → (∀ w2, Bytes w2 (.slice A10 498 (cq - 10)) (e0 :: e1 :: e2 :: e3 :: (kd :: y0 :: y1 :: t)) → Below w1.heap.size w1 w2 → K (a.put (some 45) (.int .u32 (val [e0, e1, e2, e3]))) w2) → Wp 8 K a w1 := by
    intro a w1 K hb he hK
    exact Hop 8 _ a w1 K (by simp only [List.getElem?_toArray, List.getElem?_cons_succ, List.getElem?_cons_zero]; rfl) rfl (num_step 44 45 _ _ _ _ _ _ _ a w1 K _ (Y10.out.below hb) rfl rfl he hK)
  have M13 : ∀ (a : Act) (w1 : World) (K : Act → World → Prop), Below W5.heap.size W5 w1 → (∀ n w2, Zed w2 n W5.heap.size → Below w1.heap.size w1 w2 → K (a.put (some 7) (.pointer (some ⟨n, 0, none⟩))) w2) → Wp 13 K a w1 := by
    intro a w1 K hb hK
    refine Hop 13 _ a w1 K (by simp only [List.getElem?_toArray, List.getElem?_cons_succ, List.getElem?_cons_zero]; rfl) rfl ?_
    have hs := hb.size
    go_simp
    exact hK _ _ ⟨heap_alloc_new w1 _, hs⟩ (bal (bre w1) _)
  have M12 : ∀ (a : Act) (w1 : World) (K : Act → World → Prop), a.eval (.tmp 39) = .int .u32 (val [c0, c1, c2, c3]) → a.eval (.tmp 42) = .int .u32 (val [d0, d1, d2, d3]) → a.eval (.tmp 45) = .int .u32 (val [e0, e1, e2, e3]) → a.eval (.tmp 48) = .int .u8 pk → K (a.put (some 49) (.agg #[.int .u32 (val [c0, c1, c2, c3]), .int .u32 (val [d0, d1, d2, d3]), .int .u32 (val [e0, e1, e2, e3]), .int .u8 pk, .slice none 0 0])) w1 → Wp 12 K a w1 := by
    intro a w1 K e1 e2 e3 e4 hK
    simp only [Act.eval, Array.getD_eq_getD_getElem?] at e1 e2 e3 e4
    refine Hop 12 _ a w1 K (by simp only [List.getElem?_toArray, List.getElem?_cons_succ, List.getElem?_cons_zero]; rfl) rfl ?_
    go_simp
    exact hK
  clear Hop
  have st2_5_8_12_13_ : ∀ (n7 : Nat) (w1 : World), Below W5.heap.size W5 w1 → Bytes w1 (.slice A2 506 (cq - 2)) (c0 :: c1 :: c2 :: c3 :: (d0 :: d1 :: d2 :: d3 :: e0 :: e1 :: e2 :: e3 :: kd :: y0 :: y1 :: t)) → Bytes w1 (.slice A6 502 (cq - 6)) (d0 :: d1 :: d2 :: d3 :: (e0 :: e1 :: e2 :: e3 :: kd :: y0 :: y1 :: t)) → Bytes w1 (.slice A10 498 (cq - 10)) (e0 :: e1 :: e2 :: e3 :: (kd :: y0 :: y1 :: t)) → Zed w1 n7 W5.heap.size → T 1 #[true, true, true, true, true, true, true, true, true, true, true, true, true, true, false] (((((A.put (some 7) (.pointer (some ⟨n7, 0, none⟩))).put (some 39) (.int .u32 (val [c0, c1, c2, c3]))).put (some 42) (.int .u32 (val [d0, d1, d2, d3]))).put (some 45) (.int .u32 (val [e0, e1, e2, e3]))).put (some 49) (.agg #[.int .u32 (val [c0, c1, c2, c3]), .int .u32 (val [d0, d1, d2, d3]), .int .u32 (val [e0, e1, e2, e3]), .int .u8 pk, .slice none 0 0])) w1 := by
    intro n7 w1 hb f2 f6 f10 f7
    refine HE _ _ _ _ (anyZ_chain_at (by kernel_rfl) ?_)
    simp only [List.drop_succ_cons, List.drop_zero]
    rw [← HA.out]
    simp only [Act.put, List.setIfInBounds_toArray, List.set_cons_zero, List.set_cons_succ]
    clear HT HR HE M2 M5 M8 M12 M13 E38 E41 E44 E48 f2 f6 f10 hsz
    obtain ⟨q0, q1, q2, q3, q4⟩ : w1.cell? ⟨n7, 0, none⟩ = some (.int .u32 0) ∧ w1.cell? ⟨n7, 1, none⟩ = some (.int .u32 0) ∧ w1.cell? ⟨n7, 2, none⟩ = some (.int .u32 0) ∧ w1.cell? ⟨n7, 3, none⟩ = some (.int .u8 0) ∧ w1.cell? ⟨n7, 4, none⟩ = some (.slice none 0 0) := ⟨cell_of_row w1 n7 0 _ _ _ f7.1, cell_of_row w1 n7 1 _ _ _ f7.1, cell_of_row w1 n7 2 _ _ _ f7.1, cell_of_row w1 n7 3 _ _ _ f7.1, cell_of_row w1 n7 4 _ _ _ f7.1⟩
    have qf := fun o => frozen_of_row w1 n7 o _ _ f7.1
    have hps := page_set (val [c0, c1, c2, c3]) (val [d0, d1, d2, d3]) (val [e0, e1, e2, e3]) pk hb f7
    have HPS := Lib.hid hps
    have H7 := Lib.hid f7.2
    clear hps f7
    go_upto_region 10 with fail
    obtain ⟨hr6, hb6⟩ := HPS.out
    generalize (((((w1.setCell ⟨n7, 0, none⟩ (.int .u32 (val [c0, c1, c2, c3]))).setCell ⟨n7, 1, none⟩ (.int .u32 (val [d0, d1, d2, d3]))).setCell ⟨n7, 2, none⟩ (.int .u32 (val [e0, e1, e2, e3]))).setCell ⟨n7, 3, none⟩ (.int .u8 pk)).setCell ⟨n7, 4, none⟩ (.slice none 0 0)) = W6 at *
    have HR6 := Lib.hid hr6
    have HB66 := Lib.hid hb6
    clear hb q0 q1 q2 q3 q4 qf
    have hy6 := HY7.out.below hb6
    have hpre : Bytes W6 (.slice (some ⟨g, o, none⟩) 2 cq) (q.take 2) := hy6.firsts 2 (by rw [HQL.out]; omega)
    have hst := run_str (P := Tryd.prog) W6 23 9 5 _ _ hpre Tryd.underlying23 Tryd.underlying5 Tryd.underlying9
    generalize hstr : strOf (q.take 2) = st2 at *
    have HST := Lib.hid hstr
    have fk := cell_of_row W6 n7 3 _ _ _ hr6
    clear hr6 hb6 hy6 hpre hstr
    have hc2 := (HB66.out.block n2 (Array.getElem?_eq_some_iff.1 HC7.out).1).trans HC7.out
    have HC2 := Lib.hid hc2
    have HW6 := Lib.hid (HB7.out.trans (HB66.out.mono HB7.out.size))
    have hpp := parse_parts b HS.out m0 m1 c0 c1 c2 c3 d0 d1 d2 d3 e0 e1 e2 e3 kd y0 y1 t (by rw [← HQ.out]; exact HQQ.out)
    have HPP := Lib.hid hpp
    clear hpp hc2
    by_cases hm : st2.toList = [104, 103]
    · by_cases hk : pk = 0
      · have hk1 : ((pk : Int) == 0) = true := by rw [hk]; rfl
        have hk2 : decide ((pk : Int) = 0) = true := by rw [hk]; rfl
        clear hk
        have z0 := cell_of_row W6 n2 0 _ _ _ HC2.out
        have z1 := cell_of_row W6 n2 1 _ _ _ HC2.out
        have z2 := cell_of_row W6 n2 2 _ _ _ HC2.out
        have z3 := cell_of_row W6 n2 3 _ _ _ HC2.out
        have z4 := cell_of_row W6 n2 4 _ _ _ HC2.out
        have zf := fun o => frozen_of_row W6 n2 o _ _ HC2.out
        go_wp2_with fail
        obtain ⟨hz1, hz2⟩ := zero_end HW6.out HN2.out HC2.out
        generalize (((((W6.setCell ⟨n2, 0, none⟩ (.int .u32 0)).setCell ⟨n2, 1, none⟩ (.int .u32 0)).setCell ⟨n2, 2, none⟩ (.int .u32 0)).setCell ⟨n2, 3, none⟩ (.int .u8 0)).setCell ⟨n2, 4, none⟩ (.slice none 0 0)) = W9 at *
        have g0 := cell_of_row W9 n2 0 _ _ _ hz1
        have g1 := cell_of_row W9 n2 1 _ _ _ hz1
        have g2 := cell_of_row W9 n2 2 _ _ _ hz1
        have g3 := cell_of_row W9 n2 3 _ _ _ hz1
        have g4 := cell_of_row W9 n2 4 _ _ _ hz1
        exact bodyPost_ret (v := .tuple #[.agg #[.int .u32 0, .int .u32 0, .int .u32 0, .int .u8 0, .slice none 0 0], .int .i64 2]) (by simp [results, Tryd.results73, go_sem, g0, g1, g2, g3, g4]) rfl ⟨_, rfl, zeroPg _, hz2⟩
      · have hk1 : ((pk : Int) == 0) = false := beq_false_of_ne (by omega)
        have hk2 : decide ((pk : Int) = 0) = false := decide_eq_false (by omega)
        by_cases hlen : 491 < ln
        · have hl1 : (491 : Int) < ln := by omega
          have hl2 : decide ((491 : Int) < ln) = true := decide_eq_true hl1
          clear hlen hk
          have z0 := cell_of_row W6 n2 0 _ _ _ HC2.out
          have z1 := cell_of_row W6 n2 1 _ _ _ HC2.out
          have z2 := cell_of_row W6 n2 2 _ _ _ HC2.out
          have z3 := cell_of_row W6 n2 3 _ _ _ HC2.out
          have z4 := cell_of_row W6 n2 4 _ _ _ HC2.out
          have zf := fun o => frozen_of_row W6 n2 o _ _ HC2.out
          go_wp2_with fail
          obtain ⟨hz1, hz2⟩ := zero_end HW6.out HN2.out HC2.out
          generalize (((((W6.setCell ⟨n2, 0, none⟩ (.int .u32 0)).setCell ⟨n2, 1, none⟩ (.int .u32 0)).setCell ⟨n2, 2, none⟩ (.int .u32 0)).setCell ⟨n2, 3, none⟩ (.int .u8 0)).setCell ⟨n2, 4, none⟩ (.slice none 0 0)) = W9 at *
          have g0 := cell_of_row W9 n2 0 _ _ _ hz1
          have g1 := cell_of_row W9 n2 1 _ _ _ hz1
          have g2 := cell_of_row W9 n2 2 _ _ _ hz1
          have g3 := cell_of_row W9 n2 3 _ _ _ hz1
          have g4 := cell_of_row W9 n2 4 _ _ _ hz1
          exact bodyPost_ret (v := .tuple #[.agg #[.int .u32 0, .int .u32 0, .int .u32 0, .int .u8 0, .slice none 0 0], .int .i64 2]) (by simp [results, Tryd.results73, go_sem, g0, g1, g2, g3, g4]) rfl ⟨_, rfl, zeroPg _, hz2⟩
        · have hl1 : (ln : Int) ≤ 491 := by omega
          have hl2 : decide ((491 : Int) < ln) = false := decide_eq_false (by omega)
          have HK := Lib.hid hk
          have HLEN := Lib.hid hlen
          obtain ⟨j, hj⟩ : ∃ j, j = 17 + ln := ⟨_, rfl⟩
          have hjI : (17 : Int) + ln = j := by omega
          have hj1 : (j : Int) ≤ 508 := by omega
          have hj2 : (508 : Int) ≤ cq := by omega
          have HJ := Lib.hid hj
          have hy66 : Bytes W6 (.slice (some ⟨g, o, none⟩) 508 cq) q := HY7.out.below HB66.out
          obtain ⟨A7, N7, C7, s7, zz7, -⟩ := run_suffix hy66 j 23 5 (by rw [HQL.out]; omega) row8
          have ZZ7 := Lib.hid zz7
          clear hj hk hlen hy66 zz7
          go_wp2_with fail
          refine (blank_any _ (q.drop j) W6 ZZ7.out).mono ?_
          rintro e w7 ⟨rfl, n9, rfl⟩
          by_cases hbz : noughts (q.drop j)
          · exfalso
            obtain ⟨pa, pb, pc, -⟩ := HPP.out
            have hlo : lenOf b = ln := by rw [pa, HLN.out, HP0.out, HP1.out]
            rcases HBAD.out with h | h | h
            · rw [pb] at h
              exact HK.out (by rw [HPK.out, h]; rfl)
            · rw [hlo] at h
              exact HLEN.out h
            · apply h
              have h1 : q.take 2 = [104, 103] := by rw [← strOf_toList (q.take 2), HST.out]; exact hm
              have h2 : q.take 2 = [m0, m1] := by rw [HQQ.out]; rfl
              refine ⟨?_, ?_⟩
              · rw [pc, ← h2, h1]; rfl
              · rw [hlo, ← HQ.out, ← HJ.out]; exact hbz
          · rw [decide_eq_false hbz]
            have hb9 := bdn (bre W6) n9
            have hc9 : (W6.drewN n9).heap[n2]? = some (.cells #[.int .u32 0, .int .u32 0, .int .u32 0, .int .u8 0, .slice none 0 0] 122 (0, 0)) := HC2.out
            have hw9 := HW6.out.trans (hb9.mono HW6.out.size)
            generalize W6.drewN n9 = W8 at *
            have HC8 := Lib.hid hc9
            have HW8 := Lib.hid hw9
            clear hbz hb9 hc9 hw9
            have z0 := cell_of_row W8 n2 0 _ _ _ HC8.out
            have z1 := cell_of_row W8 n2 1 _ _ _ HC8.out
            have z2 := cell_of_row W8 n2 2 _ _ _ HC8.out
            have z3 := cell_of_row W8 n2 3 _ _ _ HC8.out
            have z4 := cell_of_row W8 n2 4 _ _ _ HC8.out
            have zf := fun o => frozen_of_row W8 n2 o _ _ HC8.out
            go_wp2_with fail
            obtain ⟨hz1, hz2⟩ := zero_end HW8.out HN2.out HC8.out
            generalize (((((W8.setCell ⟨n2, 0, none⟩ (.int .u32 0)).setCell ⟨n2, 1, none⟩ (.int .u32 0)).setCell ⟨n2, 2, none⟩ (.int .u32 0)).setCell ⟨n2, 3, none⟩ (.int .u8 0)).setCell ⟨n2, 4, none⟩ (.slice none 0 0)) = W9 at *
            have g0 := cell_of_row W9 n2 0 _ _ _ hz1
            have g1 := cell_of_row W9 n2 1 _ _ _ hz1
            have g2 := cell_of_row W9 n2 2 _ _ _ hz1
            have g3 := cell_of_row W9 n2 3 _ _ _ hz1
            have g4 := cell_of_row W9 n2 4 _ _ _ hz1
            exact bodyPost_ret (v := .tuple #[.agg #[.int .u32 0, .int .u32 0, .int .u32 0, .int .u8 0, .slice none 0 0], .int .i64 2]) (by simp [results, Tryd.results73, go_sem, g0, g1, g2, g3, g4]) rfl ⟨_, rfl, zeroPg _, hz2⟩
    · clear fk
      have z0 := cell_of_row W6 n2 0 _ _ _ HC2.out
      have z1 := cell_of_row W6 n2 1 _ _ _ HC2.out
      have z2 := cell_of_row W6 n2 2 _ _ _ HC2.out
      have z3 := cell_of_row W6 n2 3 _ _ _ HC2.out
      have z4 := cell_of_row W6 n2 4 _ _ _ HC2.out
      have zf := fun o => frozen_of_row W6 n2 o _ _ HC2.out
      go_wp2_with fail
      obtain ⟨hz1, hz2⟩ := zero_end HW6.out HN2.out HC2.out
      generalize (((((W6.setCell ⟨n2, 0, none⟩ (.int .u32 0)).setCell ⟨n2, 1, none⟩ (.int .u32 0)).setCell ⟨n2, 2, none⟩ (.int .u32 0)).setCell ⟨n2, 3, none⟩ (.int .u8 0)).setCell ⟨n2, 4, none⟩ (.slice none 0 0)) = W9 at *
      have g0 := cell_of_row W9 n2 0 _ _ _ hz1
      have g1 := cell_of_row W9 n2 1 _ _ _ hz1
      have g2 := cell_of_row W9 n2 2 _ _ _ hz1
      have g3 := cell_of_row W9 n2 3 _ _ _ hz1
      have g4 := cell_of_row W9 n2 4 _ _ _ hz1
      exact bodyPost_ret (v := .tuple #[.agg #[.int .u32 0, .int .u32 0, .int .u32 0, .int .u8 0, .slice none 0 0], .int .i64 2]) (by simp [results, Tryd.results73, go_sem, g0, g1, g2, g3, g4]) rfl ⟨_, rfl, zeroPg _, hz2⟩
  have st2_5_8_12_ : ∀  (w1 : World), Below W5.heap.size W5 w1 → Bytes w1 (.slice A2 506 (cq - 2)) (c0 :: c1 :: c2 :: c3 :: (d0 :: d1 :: d2 :: d3 :: e0 :: e1 :: e2 :: e3 :: kd :: y0 :: y1 :: t)) → Bytes w1 (.slice A6 502 (cq - 6)) (d0 :: d1 :: d2 :: d3 :: (e0 :: e1 :: e2 :: e3 :: kd :: y0 :: y1 :: t)) → Bytes w1 (.slice A10 498 (cq - 10)) (e0 :: e1 :: e2 :: e3 :: (kd :: y0 :: y1 :: t)) → T 2 #[true, true, true, true, true, true, true, true, true, true, true, true, true, false, false] ((((A.put (some 39) (.int .u32 (val [c0, c1, c2, c3]))).put (some 42) (.int .u32 (val [d0, d1, d2, d3]))).put (some 45) (.int .u32 (val [e0, e1, e2, e3]))).put (some 49) (.agg #[.int .u32 (val [c0, c1, c2, c3]), .int .u32 (val [d0, d1, d2, d3]), .int .u32 (val [e0, e1, e2, e3]), .int .u8 pk, .slice none 0 0])) w1 := by
    intro  w1 hb f2 f6 f10
    refine HT _ _ _ _ [13] (by rw [HR]; kernel_rfl) (by decide) ?_
    refine List.forall_mem_cons.2 ⟨?_, fun _ h => by cases h⟩
    · refine M13 _ _ _ hb  (fun n7 w2 hf hb2 => ⟨fun _ => HSB.out w2 (btr hb hb2), ?_⟩)
      rw [show (#[true, true, true, true, true, true, true, true, true, true, true, true, true, false, false] : Array Bool).setIfInBounds 13 true = #[true, true, true, true, true, true, true, true, true, true, true, true, true, true, false] from by kernel_rfl, put_swap _ 49 7 _ _ (by decide), put_swap _ 45 7 _ _ (by decide), put_swap _ 42 7 _ _ (by decide), put_swap _ 39 7 _ _ (by decide)]
      exact st2_5_8_12_13_ n7 w2 (btr hb hb2) (f2.below hb2) (f6.below hb2) (f10.below hb2) hf
  have st2_5_8_13_ : ∀ (n7 : Nat) (w1 : World), Below W5.heap.size W5 w1 → Bytes w1 (.slice A2 506 (cq - 2)) (c0 :: c1 :: c2 :: c3 :: (d0 :: d1 :: d2 :: d3 :: e0 :: e1 :: e2 :: e3 :: kd :: y0 :: y1 :: t)) → Bytes w1 (.slice A6 502 (cq - 6)) (d0 :: d1 :: d2 :: d3 :: (e0 :: e1 :: e2 :: e3 :: kd :: y0 :: y1 :: t)) → Bytes w1 (.slice A10 498 (cq - 10)) (e0 :: e1 :: e2 :: e3 :: (kd :: y0 :: y1 :: t)) → Zed w1 n7 W5.heap.size → T 2 #[true, true, true, true, true, true, true, true, true, true, true, true, false, true, false] ((((A.put (some 7) (.pointer (some ⟨n7, 0, none⟩))).put (some 39) (.int .u32 (val [c0, c1, c2, c3]))).put (some 42) (.int .u32 (val [d0, d1, d2, d3]))).put (some 45) (.int .u32 (val [e0, e1, e2, e3]))) w1 := by
    intro n7 w1 hb f2 f6 f10 f7
    refine HT _ _ _ _ [12] (by rw [HR]; kernel_rfl) (by decide) ?_
    refine List.forall_mem_cons.2 ⟨?_, fun _ h => by cases h⟩
    · refine M12 _ _ _ (by rw [eval_put _ 45 39 _ (by decide), eval_put _ 42 39 _ (by decide)]; exact eval_hit _ 39 _ (by first | exact hsz ▸ (by decide) | simp [Act.put, hsz])) (by rw [eval_put _ 45 42 _ (by decide)]; exact eval_hit _ 42 _ (by first | exact hsz ▸ (by decide) | simp [Act.put, hsz])) (by exact eval_hit _ 45 _ (by first | exact hsz ▸ (by decide) | simp [Act.put, hsz])) (by rw [eval_put _ 45 48 _ (by decide), eval_put _ 42 48 _ (by decide), eval_put _ 39 48 _ (by decide), eval_put _ 7 48 _ (by decide)]; exact E48) ⟨fun _ => HSB.out w1 hb, ?_⟩
      rw [show (#[true, true, true, true, true, true, true, true, true, true, true, true, false, true, false] : Array Bool).setIfInBounds 12 true = #[true, true, true, true, true, true, true, true, true, true, true, true, true, true, false] from by kernel_rfl]
      exact st2_5_8_12_13_ n7 w1 hb f2 f6 f10 f7
  have st2_5_13_ : ∀ (n7 : Nat) (w1 : World), Below W5.heap.size W5 w1 → Bytes w1 (.slice A2 506 (cq - 2)) (c0 :: c1 :: c2 :: c3 :: (d0 :: d1 :: d2 :: d3 :: e0 :: e1 :: e2 :: e3 :: kd :: y0 :: y1 :: t)) → Bytes w1 (.slice A6 502 (cq - 6)) (d0 :: d1 :: d2 :: d3 :: (e0 :: e1 :: e2 :: e3 :: kd :: y0 :: y1 :: t)) → Zed w1 n7 W5.heap.size → T 3 #[true, true, true, true, true, true, true, true, false, true, true, true, false, true, false] (((A.put (some 7) (.pointer (some ⟨n7, 0, none⟩))).put (some 39) (.int .u32 (val [c0, c1, c2, c3]))).put (some 42) (.int .u32 (val [d0, d1, d2, d3]))) w1 := by
    intro n7 w1 hb f2 f6 f7
    refine HT _ _ _ _ [8] (by rw [HR]; kernel_rfl) (by decide) ?_
    refine List.forall_mem_cons.2 ⟨?_, fun _ h => by cases h⟩
    · refine M8 _ _ _ hb (by rw [eval_put _ 42 44 _ (by decide), eval_put _ 39 44 _ (by decide), eval_put _ 7 44 _ (by decide)]; exact E44) (fun  w2 hf hb2 => ⟨fun _ => HSB.out w2 (btr hb hb2), ?_⟩)
      rw [show (#[true, true, true, true, true, true, true, true, false, true, true, true, false, true, false] : Array Bool).setIfInBounds 8 true = #[true, true, true, true, true, true, true, true, true, true, true, true, false, true, false] from by kernel_rfl]
      exact st2_5_8_13_ n7 w2 (btr hb hb2) (f2.below hb2) (f6.below hb2) hf (f7.below hb2)
  have st2_5_8_ : ∀  (w1 : World), Below W5.heap.size W5 w1 → Bytes w1 (.slice A2 506 (cq - 2)) (c0 :: c1 :: c2 :: c3 :: (d0 :: d1 :: d2 :: d3 :: e0 :: e1 :: e2 :: e3 :: kd :: y0 :: y1 :: t)) → Bytes w1 (.slice A6 502 (cq - 6)) (d0 :: d1 :: d2 :: d3 :: (e0 :: e1 :: e2 :: e3 :: kd :: y0 :: y1 :: t)) → Bytes w1 (.slice A10 498 (cq - 10)) (e0 :: e1 :: e2 :: e3 :: (kd :: y0 :: y1 :: t)) → T 3 #[true, true, true, true, true, true, true, true, true, true, true, true, false, false, false] (((A.put (some 39) (.int .u32 (val [c0, c1, c2, c3]))).put (some 42) (.int .u32 (val [d0, d1, d2, d3]))).put (some 45) (.int .u32 (val [e0, e1, e2, e3]))) w1 := by
    intro  w1 hb f2 f6 f10
    refine HT _ _ _ _ [12, 13] (by rw [HR]; kernel_rfl) (by decide) ?_
    refine List.forall_mem_cons.2 ⟨?_, List.forall_mem_cons.2 ⟨?_, fun _ h => by cases h⟩⟩
    · refine M12 _ _ _ (by rw [eval_put _ 45 39 _ (by decide), eval_put _ 42 39 _ (by decide)]; exact eval_hit _ 39 _ (by first | exact hsz ▸ (by decide) | simp [Act.put, hsz])) (by rw [eval_put _ 45 42 _ (by decide)]; exact eval_hit _ 42 _ (by first | exact hsz ▸ (by decide) | simp [Act.put, hsz])) (by exact eval_hit _ 45 _ (by first | exact hsz ▸ (by decide) | simp [Act.put, hsz])) (by rw [eval_put _ 45 48 _ (by decide), eval_put _ 42 48 _ (by decide), eval_put _ 39 48 _ (by decide)]; exact E48) ⟨fun _ => HSB.out w1 hb, ?_⟩
      rw [show (#[true, true, true, true, true, true, true, true, true, true, true, true, false, false, false] : Array Bool).setIfInBounds 12 true = #[true, true, true, true, true, true, true, true, true, true, true, true, true, false, false] from by kernel_rfl]
      exact st2_5_8_12_  w1 hb f2 f6 f10
    · refine M13 _ _ _ hb  (fun n7 w2 hf hb2 => ⟨fun _ => HSB.out w2 (btr hb hb2), ?_⟩)
      rw [show (#[true, true, true, true, true, true, true, true, true, true, true, true, false, false, false] : Array Bool).setIfInBounds 13 true = #[true, true, true, true, true, true, true, true, true, true, true, true, false, true, false] from by kernel_rfl, put_swap _ 45 7 _ _ (by decide), put_swap _ 42 7 _ _ (by decide), put_swap _ 39 7 _ _ (by decide)]
      exact st2_5_8_13_ n7 w2 (btr hb hb2) (f2.below hb2) (f6.below hb2) (f10.below hb2) hf
  have st2_13_ : ∀ (n7 : Nat) (w1 : World), Below W5.heap.size W5 w1 → Bytes w1 (.slice A2 506 (cq - 2)) (c0 :: c1 :: c2 :: c3 :: (d0 :: d1 :: d2 :: d3 :: e0 :: e1 :: e2 :: e3 :: kd :: y0 :: y1 :: t)) → Zed w1 n7 W5.heap.size → T 4 #[true, true, true, true, true, false, true, true, false, true, true, true, false, true, false] ((A.put (some 7) (.pointer (some ⟨n7, 0, none⟩))).put (some 39) (.int .u32 (val [c0, c1, c2, c3]))) w1 := by
    intro n7 w1 hb f2 f7
    refine HT _ _ _ _ [5] (by rw [HR]; kernel_rfl) (by decide) ?_
    refine List.forall_mem_cons.2 ⟨?_, fun _ h => by cases h⟩
    · refine M5 _ _ _ hb (by rw [eval_put _ 39 41 _ (by decide), eval_put _ 7 41 _ (by decide)]; exact E41) (fun  w2 hf hb2 => ⟨fun _ => HSB.out w2 (btr hb hb2), ?_⟩)
      rw [show (#[true, true, true, true, true, false, true, true, false, true, true, true, false, true, false] : Array Bool).setIfInBounds 5 true = #[true, true, true, true, true, true, true, true, false, true, true, true, false, true, false] from by kernel_rfl]
      exact st2_5_13_ n7 w2 (btr hb hb2) (f2.below hb2) hf (f7.below hb2)
  have st2_5_ : ∀  (w1 : World), Below W5.heap.size W5 w1 → Bytes w1 (.slice A2 506 (cq - 2)) (c0 :: c1 :: c2 :: c3 :: (d0 :: d1 :: d2 :: d3 :: e0 :: e1 :: e2 :: e3 :: kd :: y0 :: y1 :: t)) → Bytes w1 (.slice A6 502 (cq - 6)) (d0 :: d1 :: d2 :: d3 :: (e0 :: e1 :: e2 :: e3 :: kd :: y0 :: y1 :: t)) → T 4 #[true, true, true, true, true, true, true, true, false, true, true, true, false, false, false] ((A.put (some 39) (.int .u32 (val [c0, c1, c2, c3]))).put (some 42) (.int .u32 (val [d0, d1, d2, d3]))) w1 := by
    intro  w1 hb f2 f6
    refine HT _ _ _ _ [8, 13] (by rw [HR]; kernel_rfl) (by decide) ?_
    refine List.forall_mem_cons.2 ⟨?_, List.forall_mem_cons.2 ⟨?_, fun _ h => by cases h⟩⟩
    · refine M8 _ _ _ hb (by rw [eval_put _ 42 44 _ (by decide), eval_put _ 39 44 _ (by decide)]; exact E44) (fun  w2 hf hb2 => ⟨fun _ => HSB.out w2 (btr hb hb2), ?_⟩)
      rw [show (#[true, true, true, true, true, true, true, true, false, true, true, true, false, false, false] : Array Bool).setIfInBounds 8 true = #[true, true, true, true, true, true, true, true, true, true, true, true, false, false, false] from by kernel_rfl]
      exact st2_5_8_  w2 (btr hb hb2) (f2.below hb2) (f6.below hb2) hf
    · refine M13 _ _ _ hb  (fun n7 w2 hf hb2 => ⟨fun _ => HSB.out w2 (btr hb hb2), ?_⟩)
      rw [show (#[true, true, true, true, true, true, true, true, false, true, true, true, false, false, false] : Array Bool).setIfInBounds 13 true = #[true, true, true, true, true, true, true, true, false, true, true, true, false, true, false] from by kernel_rfl, put_swap _ 42 7 _ _ (by decide), put_swap _ 39 7 _ _ (by decide)]
      exact st2_5_13_ n7 w2 (btr hb hb2) (f2.below hb2) (f6.below hb2) hf
  have st2_ : ∀  (w1 : World), Below W5.heap.size W5 w1 → Bytes w1 (.slice A2 506 (cq - 2)) (c0 :: c1 :: c2 :: c3 :: (d0 :: d1 :: d2 :: d3 :: e0 :: e1 :: e2 :: e3 :: kd :: y0 :: y1 :: t)) → T 5 #[true, true, true, true, true, false, true, true, false, true, true, true, false, false, false] (A.put (some 39) (.int .u32 (val [c0, c1, c2, c3]))) w1 := by
    intro  w1 hb f2
    refine HT _ _ _ _ [5, 13] (by rw [HR]; kernel_rfl) (by decide) ?_
    refine List.forall_mem_cons.2 ⟨?_, List.forall_mem_cons.2 ⟨?_, fun _ h => by cases h⟩⟩
    · refine M5 _ _ _ hb (by rw [eval_put _ 39 41 _ (by decide)]; exact E41) (fun  w2 hf hb2 => ⟨fun _ => HSB.out w2 (btr hb hb2), ?_⟩)
      rw [show (#[true, true, true, true, true, false, true, true, false, true, true, true, false, false, false] : Array Bool).setIfInBounds 5 true = #[true, true, true, true, true, true, true, true, false, true, true, true, false, false, false] from by kernel_rfl]
      exact st2_5_  w2 (btr hb hb2) (f2.below hb2) hf
    · refine M13 _ _ _ hb  (fun n7 w2 hf hb2 => ⟨fun _ => HSB.out w2 (btr hb hb2), ?_⟩)
      rw [show (#[true, true, true, true, true, false, true, true, false, true, true, true, false, false, false] : Array Bool).setIfInBounds 13 true = #[true, true, true, true, true, false, true, true, false, true, true, true, false, true, false] from by kernel_rfl, put_swap _ 39 7 _ _ (by decide)]
      exact st2_13_ n7 w2 (btr hb hb2) (f2.below hb2) hf
  have st13_ : ∀ (n7 : Nat) (w1 : World), Below W5.heap.size W5 w1 → Zed w1 n7 W5.heap.size → T 5 #[true, true, false, true, true, false, true, true, false, true, true, true, false, true, false] (A.put (some 7) (.pointer (some ⟨n7, 0, none⟩))) w1 := by
    intro n7 w1 hb f7
    refine HT _ _ _ _ [2] (by rw [HR]; kernel_rfl) (by decide) ?_
    refine List.forall_mem_cons.2 ⟨?_, fun _ h => by cases h⟩
    · refine M2 _ _ _ hb (by rw [eval_put _ 7 38 _ (by decide)]; exact E38) (fun  w2 hf hb2 => ⟨fun _ => HSB.out w2 (btr hb hb2), ?_⟩)
      rw [show (#[true, true, false, true, true, false, true, true, false, true, true, true, false, true, false] : Array Bool).setIfInBounds 2 true = #[true, true, true, true, true, false, true, true, false, true, true, true, false, true, false] from by kernel_rfl]
      exact st2_13_ n7 w2 (btr hb hb2) hf (f7.below hb2)
  have st : ∀  (w1 : World), Below W5.heap.size W5 w1 → T 6 #[true, true, false, true, true, false, true, true, false, true, true, true, false, false, false] A w1 := by
    intro  w1 hb 
    refine HT _ _ _ _ [2, 13] (by rw [HR]; kernel_rfl) (by decide) ?_
    refine List.forall_mem_cons.2 ⟨?_, List.forall_mem_cons.2 ⟨?_, fun _ h => by cases h⟩⟩
    · refine M2 _ _ _ hb (by exact E38) (fun  w2 hf hb2 => ⟨fun _ => HSB.out w2 (btr hb hb2), ?_⟩)
      rw [show (#[true, true, false, true, true, false, true, true, false, true, true, true, false, false, false] : Array Bool).setIfInBounds 2 true = #[true, true, true, true, true, false, true, true, false, true, true, true, false, false, false] from by kernel_rfl]
      exact st2_  w2 (btr hb hb2) hf
    · refine M13 _ _ _ hb  (fun n7 w2 hf hb2 => ⟨fun _ => HSB.out w2 (btr hb hb2), ?_⟩)
      rw [show (#[true, true, false, true, true, false, true, true, false, true, true, true, false, false, false] : Array Bool).setIfInBounds 13 true = #[true, true, false, true, true, false, true, true, false, true, true, true, false, true, false] from by kernel_rfl]
      exact st13_ n7 w2 (btr hb hb2) hf
  exact st _ (bdr (bre W5))
end Go.Proofs.YtacfkhnajdneeaaDoor
