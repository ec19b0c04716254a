/- Walk: the document's bytes of an operation. -/
import Derived.Test.YtminfdlhbecnhaaGreatDoorOpParse
import Derived.Test.YtminfdlhbecnhaaGreatDoorMakers
import Derived.Test.YtminfdlhbecnhaaGreatDoorLayR
import Derived.Test.YtminfdlhbecnhaaGreatDoorJoinR
namespace Go.Proofs.YtminfdlhbecnhaaGreatDoor
open Go.RowKit

set_option maxRecDepth 10000 in
theorem rfnum_step (t s n L : Nat) (hn : n < 18446744073709551616) (hL : L = (Vi.varint n).length) (o : Oper) (a : Act) (w1 : World) (K : Act → World → Prop) (Q : Exit → Act → World → Prop) (ho : o.op = .call { callee := .value (.func 39), args := #[.tmp t], argTypes := #[22] }) (hd : o.dst = some s)
    (he : a.eval (.tmp t) = .int .u64 n) (hK : ∀ ad c w2, Bytes w2 (.slice ad L c) (Vi.varint n) → Below w1.heap.size w1 w2 → K (a.put (some s) (.slice ad L c)) w2) : o.wp Tryz.prog a w1 K Q := by
  have hrun : (execOp a.eval o).run Tryz.prog w1 = .ok (.enter 39 #[.int .u64 n]) w1 := by
    unfold execOp
    simp only [ho, resolve, invoke, Sem.run_bind, List.map_toArray, List.map_cons, List.map_nil, he]
    rfl
  unfold Oper.wp
  rw [hrun, Oper.upon_enter]
  refine (refnum_any n w1 hn).mono ?_
  rintro e w2 ⟨v2, rfl, ho2, hb2⟩
  obtain ⟨a2, c2, rfl, -⟩ := id ho2.bytes
  rw [hd]
  have := ho2.bytes
  rw [← hL] at this ⊢
  exact hK a2 c2 w2 this hb2

set_option maxRecDepth 10000 in
theorem rflay_step (t s L : Nat) (f : Fld) (hs : f.s.size ≤ 1000000) (hL : L = (layOf f).length) (o : Oper) (a : Act) (w1 : World) (K : Act → World → Prop) (Q : Exit → Act → World → Prop) (ho : o.op = .call { callee := .value (.func 40), args := #[.tmp t], argTypes := #[76] }) (hd : o.dst = some s)
    (he : a.eval (.tmp t) = FldV f) (hK : ∀ ad c w2, Bytes w2 (.slice ad L c) (layOf f) → Below w1.heap.size w1 w2 → K (a.put (some s) (.slice ad L c)) w2) : o.wp Tryz.prog a w1 K Q := by
  have hrun : (execOp a.eval o).run Tryz.prog w1 = .ok (.enter 40 #[FldV f]) w1 := by
    unfold execOp
    simp only [ho, resolve, invoke, Sem.run_bind, List.map_toArray, List.map_cons, List.map_nil, he]
    rfl
  unfold Oper.wp
  rw [hrun, Oper.upon_enter]
  refine (layr_any f w1 hs).mono ?_
  rintro e w2 ⟨v2, rfl, ho2, hb2⟩
  obtain ⟨a2, c2, rfl, -⟩ := id ho2
  rw [hd]
  have := ho2
  rw [← hL] at this ⊢
  exact hK a2 c2 w2 this hb2

set_option maxRecDepth 10000 in
set_option maxHeartbeats 3200000 in
theorem rbytesop_any (k a b : Nat) (nm : ByteArray) (h : rightB k a b nm = true) (ha : a < 18446744073709551616) (hb : b < 18446744073709551616) (w : World) :
    Calls Tryz.prog 15 #[.agg #[.int .u8 k, .int .u64 a, .int .u64 b, .string nm]] w fun e w' => ∃ v', e = .returned v' ∧ Own8 5 w.heap.size w' v' (bytesOf k a b nm) ∧ Below w.heap.size w w' := by
  have h64 := right_name h
  have hk14 := (right_parts h).2.1
  obtain ⟨f, hf⟩ : ∃ f : Fld, f = ⟨2, 0, nm, 0, by decide, by decide, by decide⟩ := ⟨_, rfl⟩
  have hfs : f.s.size ≤ 64 := by rw [hf]; exact h64
  have hfv : FldV f = .agg #[.int .u8 2, .int .u64 0, .string nm, .int .u64 0] := by rw [hf]; rfl
  have hfl : layOf f = Vi.varint nm.size ++ nm.data.toList := by rw [hf]; rfl
  have hfl2 : (layOf f).length ≤ 74 := by
    rw [hfl, List.length_append, str_len]
    have := (Vi.varint_length nm.size).2
    omega
  have hbo : bytesOf k a b nm = [[UInt8.ofNat k], Vi.varint a, Vi.varint b, layOf f].flatten := by
    unfold bytesOf
    rw [if_pos h, hfl]
    simp
  have HBO := Lib.hid hbo
  have HFV := Lib.hid hfv
  have HFL := Lib.hid hfl2
  obtain ⟨La, hLa⟩ : ∃ L, L = (Vi.varint a).length := ⟨_, rfl⟩
  obtain ⟨Lb, hLb⟩ : ∃ L, L = (Vi.varint b).length := ⟨_, rfl⟩
  obtain ⟨Lf, hLf⟩ : ∃ L, L = (layOf f).length := ⟨_, rfl⟩
  have HLA := Lib.hid hLa
  have HLB := Lib.hid hLb
  have HLF := Lib.hid hLf
  clear hbo hfv hfl hfl2 hf h h64 hLa hLb hLf
  go_enter Tryz.func15, Tryz.ntmps15
  go_upto_region 1 with fail
  obtain ⟨n0, hn0⟩ : ∃ n0, n0 = w.heap.size := ⟨_, rfl⟩
  have hr0 := heap_alloc_new w (.cells #[.int .u8 k, .int .u64 a, .int .u64 b, .string nm] 32)
  have hb0 := bal (bre w) (.cells #[.int .u8 k, .int .u64 a, .int .u64 b, .string nm] 32)
  rw [← hn0] at hr0 ⊢
  generalize w.alloc (.cells #[.int .u8 k, .int .u64 a, .int .u64 b, .string nm] 32) = W at *
  have hlt := (Array.getElem?_eq_some_iff.1 hr0).1
  have f0 := cell_of_row W n0 0 _ _ _ hr0
  have f1 := cell_of_row W n0 1 _ _ _ hr0
  have f2 := cell_of_row W n0 2 _ _ _ hr0
  have f3 := cell_of_row W n0 3 _ _ _ hr0
  have hSB : ∀ w', Below W.heap.size W w' → (w'.cell? ⟨n0, 0, none⟩ = some (.int .u8 k) ∧ w'.cell? ⟨n0, 1, none⟩ = some (.int .u64 a) ∧ w'.cell? ⟨n0, 2, none⟩ = some (.int .u64 b) ∧ w'.cell? ⟨n0, 3, none⟩ = some (.string nm)) := fun w' hb =>
    ⟨(hb.cell (p := ⟨n0, 0, none⟩) hlt).trans f0, (hb.cell (p := ⟨n0, 1, none⟩) hlt).trans f1, (hb.cell (p := ⟨n0, 2, none⟩) hlt).trans f2, (hb.cell (p := ⟨n0, 3, none⟩) hlt).trans f3⟩
  have HSB := Lib.hid hSB
  have HB0 := Lib.hid hb0
  clear hr0 hb0 hn0 hSB f0 f1 f2 f3
  refine region_anyZ (z := 13) (S := fun w' => (w'.cell? ⟨n0, 0, none⟩ = some (.int .u8 k) ∧ w'.cell? ⟨n0, 1, none⟩ = some (.int .u64 a) ∧ w'.cell? ⟨n0, 2, none⟩ = some (.int .u64 b) ∧ w'.cell? ⟨n0, 3, none⟩ = some (.string nm))) (by kernel_rfl) ?_
  refine anyZ_begin (fun hcl0 => ?_)
  refine anyZ_held (by exact HSB.out _ (bdr (bre W))) (fun hHeld => ?_)
  -- 0: Op.fieldAddr 32 (Operand.tmp 1) 0
  refine' anyZ_pure (i := 0) (v := _) rfl (by rfl) (by kernel_rfl) (by kernel_rfl) (by kernel_rfl) hcl0 (fun _ _ _ h => h) (Or.inl ⟨by rfl, fun w _ => ?h1⟩) (fun _ => hHeld) (fun hcl1 => ?r1)
  case h1 => (simp only [List.getElem_toArray, List.getElem_cons_zero]; first | (go_simp; with_reducible rfl) | (go_simp; done) | rfl)
  simp only [List.getElem_toArray, List.getElem_cons_zero, Act.put, List.setIfInBounds_toArray, List.set_cons_zero, List.set_cons_succ]
  -- 1: Op.load 5 (Operand.tmp 3)
  refine' anyZ_take (i := 1) (v := _) rfl (by rfl) (by kernel_rfl) (by kernel_rfl) (by kernel_rfl) hcl1 5 (by kernel_rfl) (by kernel_rfl) (fun _ _ _ h => h) (Or.inl ⟨by rfl, fun w hSw => ?h2⟩) hHeld (fun hcl2 => ?r2)
  case h2 => (simp only [List.getElem_toArray, List.getElem_cons_succ, List.getElem_cons_zero]; obtain ⟨hS1, hS2, hS3, hS4⟩ := hSw; first | (go_simp; with_reducible rfl) | (go_simp; done) | rfl)
  simp only [List.getElem_toArray, List.getElem_cons_succ, List.getElem_cons_zero, Act.put, List.setIfInBounds_toArray, List.set_cons_zero, List.set_cons_succ]
  -- 3: Op.fieldAddr 32 (Operand.tmp 1) 1
  refine' anyZ_pure (i := 3) (v := _) rfl (by rfl) (by kernel_rfl) (by kernel_rfl) (by kernel_rfl) hcl2 (fun _ _ _ h => h) (Or.inl ⟨by rfl, fun w _ => ?h3⟩) (fun _ => hHeld) (fun hcl3 => ?r3)
  case h3 => (simp only [List.getElem_toArray, List.getElem_cons_succ, List.getElem_cons_zero]; first | (go_simp; with_reducible rfl) | (go_simp; done) | rfl)
  simp only [List.getElem_toArray, List.getElem_cons_succ, List.getElem_cons_zero, Act.put, List.setIfInBounds_toArray, List.set_cons_zero, List.set_cons_succ]
  -- 4: Op.load 22 (Operand.tmp 6)
  refine' anyZ_take (i := 4) (v := _) rfl (by rfl) (by kernel_rfl) (by kernel_rfl) (by kernel_rfl) hcl3 5 (by kernel_rfl) (by kernel_rfl) (fun _ _ _ h => h) (Or.inl ⟨by rfl, fun w hSw => ?h4⟩) hHeld (fun hcl4 => ?r4)
  case h4 => (simp only [List.getElem_toArray, List.getElem_cons_succ, List.getElem_cons_zero]; obtain ⟨hS1, hS2, hS3, hS4⟩ := hSw; first | (go_simp; with_reducible rfl) | (go_simp; done) | rfl)
  simp only [List.getElem_toArray, List.getElem_cons_succ, List.getElem_cons_zero, Act.put, List.setIfInBounds_toArray, List.set_cons_zero, List.set_cons_succ]
  -- 6: Op.fieldAddr 32 (Operand.tmp 1) 2
  refine' anyZ_pure (i := 6) (v := _) rfl (by rfl) (by kernel_rfl) (by kernel_rfl) (by kernel_rfl) hcl4 (fun _ _ _ h => h) (Or.inl ⟨by rfl, fun w _ => ?h5⟩) (fun _ => hHeld) (fun hcl5 => ?r5)
  case h5 => (simp only [List.getElem_toArray, List.getElem_cons_succ, List.getElem_cons_zero]; first | (go_simp; with_reducible rfl) | (go_simp; done) | rfl)
  simp only [List.getElem_toArray, List.getElem_cons_succ, List.getElem_cons_zero, Act.put, List.setIfInBounds_toArray, List.set_cons_zero, List.set_cons_succ]
  -- 7: Op.load 22 (Operand.tmp 9)
  refine' anyZ_take (i := 7) (v := _) rfl (by rfl) (by kernel_rfl) (by kernel_rfl) (by kernel_rfl) hcl5 5 (by kernel_rfl) (by kernel_rfl) (fun _ _ _ h => h) (Or.inl ⟨by rfl, fun w hSw => ?h6⟩) hHeld (fun hcl6 => ?r6)
  case h6 => (simp only [List.getElem_toArray, List.getElem_cons_succ, List.getElem_cons_zero]; obtain ⟨hS1, hS2, hS3, hS4⟩ := hSw; first | (go_simp; with_reducible rfl) | (go_simp; done) | rfl)
  simp only [List.getElem_toArray, List.getElem_cons_succ, List.getElem_cons_zero, Act.put, List.setIfInBounds_toArray, List.set_cons_zero, List.set_cons_succ]
  -- 9: Op.fieldAddr 32 (Operand.tmp 1) 3
  refine' anyZ_pure (i := 9) (v := _) rfl (by rfl) (by kernel_rfl) (by kernel_rfl) (by kernel_rfl) hcl6 (fun _ _ _ h => h) (Or.inl ⟨by rfl, fun w _ => ?h7⟩) (fun _ => hHeld) (fun hcl7 => ?r7)
  case h7 => (simp only [List.getElem_toArray, List.getElem_cons_succ, List.getElem_cons_zero]; first | (go_simp; with_reducible rfl) | (go_simp; done) | rfl)
  simp only [List.getElem_toArray, List.getElem_cons_succ, List.getElem_cons_zero, Act.put, List.setIfInBounds_toArray, List.set_cons_zero, List.set_cons_succ]
  -- 10: Op.load 9 (Operand.tmp 12)
  refine' anyZ_take (i := 10) (v := _) rfl (by rfl) (by kernel_rfl) (by kernel_rfl) (by kernel_rfl) hcl7 5 (by kernel_rfl) (by kernel_rfl) (fun _ _ _ h => h) (Or.inl ⟨by rfl, fun w hSw => ?h8⟩) hHeld (fun hcl8 => ?r8)
  case h8 => (simp only [List.getElem_toArray, List.getElem_cons_succ, List.getElem_cons_zero]; obtain ⟨hS1, hS2, hS3, hS4⟩ := hSw; first | (go_simp; with_reducible rfl) | (go_simp; done) | rfl)
  simp only [List.getElem_toArray, List.getElem_cons_succ, List.getElem_cons_zero, Act.put, List.setIfInBounds_toArray, List.set_cons_zero, List.set_cons_succ]
  -- 11: Op.build 76 #[(0, Operand.const (Value.int IntKind.u8 2)), (
  refine' anyZ_pure (i := 11) (v := _) rfl (by rfl) (by kernel_rfl) (by kernel_rfl) (by kernel_rfl) hcl8 (fun _ _ _ h => h) (Or.inl ⟨by rfl, fun w _ => ?h9⟩) (fun _ => hHeld) (fun hcl9 => ?r9)
  case h9 => (simp only [List.getElem_toArray, List.getElem_cons_succ, List.getElem_cons_zero]; first | (go_simp; with_reducible rfl) | (go_simp; done) | rfl)
  simp only [List.getElem_toArray, List.getElem_cons_succ, List.getElem_cons_zero, Act.put, List.setIfInBounds_toArray, List.set_cons_zero, List.set_cons_succ]
  refine anyZ_cast (listed' := #[true, true, false, true, true, false, true, true, false, true, true, true, false, false, false, false]) (by kernel_rfl) ?_
  refine anyZ_name (fun T Wp R HT HR Hop HE => ?_)
  generalize hA : Act.mk _ _ = A
  have E4 : A.eval (.tmp 4) = .int .u8 k := by rw [← hA]; rfl
  have E7 : A.eval (.tmp 7) = .int .u64 a := by rw [← hA]; rfl
  have E10 : A.eval (.tmp 10) = .int .u64 b := by rw [← hA]; rfl
  have E14 : A.eval (.tmp 14) = FldV f := by rw [← hA, HFV.out]; rfl
  have HA := Lib.hid hA
  clear hA
  have M2 : ∀ (a1 : Act) (w1 : World) (K : Act → World → Prop), a1.eval (.tmp 4) = .int .u8 k → (∀ ad c w2, Bytes w2 (.slice ad 1 c) [UInt8.ofNat k] → Below w1.heap.size w1 w2 → K (a1.put (some 5) (.slice ad 1 c)) w2) → Wp 2 K a1 w1 := by
    intro a1 w1 K e1 hK
    simp only [Act.eval, Array.getD_eq_getD_getElem?] at e1
    refine Hop 2 _ a1 w1 K (by simp only [List.getElem?_toArray, List.getElem?_cons_succ, List.getElem?_cons_zero]; rfl) rfl ?_
    go_simp
    refine hK _ _ _ (own8_lit _ w1 _ [UInt8.ofNat k] 1 ?_ rfl (by simp [maxLen])).bytes (bal (bre w1) _)
    simp only [List.map_cons, List.map_nil]
    unfold B8
    rw [UInt8.toNat_ofNat_of_lt' (by simp [UInt8.size]; omega)]
  have M5 : ∀ (a1 : Act) (w1 : World) (K : Act → World → Prop), a1.eval (.tmp 7) = .int .u64 a → (∀ ad c w2, Bytes w2 (.slice ad La c) (Vi.varint a) → Below w1.heap.size w1 w2 → K (a1.put (some 8) (.slice ad La c)) w2) → Wp 5 K a1 w1 := by
    intro a1 w1 K he hK
    exact Hop 5 _ a1 w1 K (by simp only [List.getElem?_toArray, List.getElem?_cons_succ, List.getElem?_cons_zero]; rfl) rfl (rfnum_step 7 8 a La ha HLA.out _ a1 w1 K _ rfl rfl he hK)
  have M8 : ∀ (a1 : Act) (w1 : World) (K : Act → World → Prop), a1.eval (.tmp 10) = .int .u64 b → (∀ ad c w2, Bytes w2 (.slice ad Lb c) (Vi.varint b) → Below w1.heap.size w1 w2 → K (a1.put (some 11) (.slice ad Lb c)) w2) → Wp 8 K a1 w1 := by
    intro a1 w1 K he hK
    exact Hop 8 _ a1 w1 K (by simp only [List.getElem?_toArray, List.getElem?_cons_succ, List.getElem?_cons_zero]; rfl) rfl (rfnum_step 10 11 b Lb hb HLB.out _ a1 w1 K _ rfl rfl he hK)
  have M12 : ∀ (a1 : Act) (w1 : World) (K : Act → World → Prop), a1.eval (.tmp 14) = FldV f → (∀ ad c w2, Bytes w2 (.slice ad Lf c) (layOf f) → Below w1.heap.size w1 w2 → K (a1.put (some 15) (.slice ad Lf c)) w2) → Wp 12 K a1 w1 := by
    intro a1 w1 K he hK
    exact Hop 12 _ a1 w1 K (by simp only [List.getElem?_toArray, List.getElem?_cons_succ, List.getElem?_cons_zero]; rfl) rfl (rflay_step 14 15 Lf f (by omega) HLF.out _ a1 w1 K _ rfl rfl he hK)
  clear Hop
  have st2_5_8_12_ : ∀ (a5 : Option Addr) (c5 : Nat) (a8 : Option Addr) (c8 : Nat) (a11 : Option Addr) (c11 : Nat) (a15 : Option Addr) (c15 : Nat) (w1 : World), Below W.heap.size W w1 → Bytes w1 (.slice a5 1 c5) [UInt8.ofNat k] → Bytes w1 (.slice a8 La c8) (Vi.varint a) → Bytes w1 (.slice a11 Lb c11) (Vi.varint b) → Bytes w1 (.slice a15 Lf c15) (layOf f) → T 3 #[true, true, true, true, true, true, true, true, true, true, true, true, true, false, false, false] ((((A.put (some 5) (.slice a5 1 c5)).put (some 8) (.slice a8 La c8)).put (some 11) (.slice a11 Lb c11)).put (some 15) (.slice a15 Lf c15)) w1 := by
    intro a5 c5 a8 c8 a11 c11 a15 c15 w1 hb f5 f8 f11 f15
    refine HE _ _ _ _ (anyZ_chain_at (by kernel_rfl) ?_)
    simp only [List.drop_succ_cons, List.drop_zero]
    rw [← HA.out]
    simp only [Act.put, List.setIfInBounds_toArray, List.set_cons_zero, List.set_cons_succ]
    obtain ⟨q, hq⟩ : ∃ q, q = [[UInt8.ofNat k], Vi.varint a, Vi.varint b, layOf f].flatten := ⟨_, rfl⟩
    have hql : q.length ≤ 100 := by
      have h1 := (Vi.varint_length a).2
      have h2 := (Vi.varint_length b).2
      have h3 := HFL.out
      rw [hq]
      simp
      omega
    have hrow : ∀ (j : Nat) (v : Value) (l : List UInt8), [Value.slice a5 1 c5, .slice a8 La c8, .slice a11 Lb c11, .slice a15 Lf c15][j]? = some v → [[UInt8.ofNat k], Vi.varint a, Vi.varint b, layOf f][j]? = some l → Bytes w1 v l := by
      intro j v l h1 h2
      match j, h1, h2 with
      | 0, h1, h2 => cases h1; cases h2; exact f5
      | 1, h1, h2 => cases h1; cases h2; exact f8
      | 2, h1, h2 => cases h1; cases h2; exact f11
      | 3, h1, h2 => cases h1; cases h2; exact f15
      | j + 4, h1, h2 => cases h1
    have hrl := rows_lit w1 [Value.slice a5 1 c5, .slice a8 La c8, .slice a11 Lb c11, .slice a15 Lf c15] _ 26 w1.heap.size 4 rfl rfl rfl (by simp [maxLen]) hrow
    have HRL := Lib.hid hrl
    have HQ := Lib.hid hq
    have HQL := Lib.hid hql
    clear HT HR HE M2 M5 M8 M12 E4 E7 E10 E14 f5 f8 f11 f15 hrow hrl hq hql HSB
    go_wp2_with fail
    have hb2 := HB0.out.trans ((bal hb (.cells #[Value.slice a5 1 c5, .slice a8 La c8, .slice a11 Lb c11, .slice a15 Lf c15] 26)).mono HB0.out.size)
    have hrl := HRL.out
    generalize hW2 : w1.alloc (.cells #[Value.slice a5 1 c5, .slice a8 La c8, .slice a11 Lb c11, .slice a15 Lf c15] 26) = W2 at *
    refine (rjoin_any _ _ W2 (by first | exact hrl | (rw [← hW2]; exact HRL.out)) (by have := HQL.out; rw [HQ.out] at this; omega)).mono ?_
    rintro e w3 ⟨v3, rfl, ho3, hb3⟩
    rw [← HBO.out] at ho3
    have hb03 := hb2.trans (hb3.mono hb2.size)
    have ho9 := ownsRow_base (base' := w.heap.size) ho3 hb2.size
    have HO3 := Lib.hid ho9
    have HB03 := Lib.hid hb03
    clear ho3 ho9 hb3 hb2 hb03 hrl hb HRL
    go_wp2_with fail
    go_ret
    exact ⟨_, rfl, HO3.out, HB03.out⟩
  have st5_8_12_ : ∀ (a8 : Option Addr) (c8 : Nat) (a11 : Option Addr) (c11 : Nat) (a15 : Option Addr) (c15 : Nat) (w1 : World), Below W.heap.size W w1 → Bytes w1 (.slice a8 La c8) (Vi.varint a) → Bytes w1 (.slice a11 Lb c11) (Vi.varint b) → Bytes w1 (.slice a15 Lf c15) (layOf f) → T 4 #[true, true, false, true, true, true, true, true, true, true, true, true, true, false, false, false] (((A.put (some 8) (.slice a8 La c8)).put (some 11) (.slice a11 Lb c11)).put (some 15) (.slice a15 Lf c15)) w1 := by
    intro a8 c8 a11 c11 a15 c15 w1 hb f8 f11 f15
    refine HT _ _ _ _ [2] (by rw [HR]; kernel_rfl) (by decide) ?_
    refine List.forall_mem_cons.2 ⟨?_, fun _ h => by cases h⟩
    · refine M2 _ _ _ (by rw [eval_put _ 15 4 _ (by decide), eval_put _ 11 4 _ (by decide), eval_put _ 8 4 _ (by decide)]; exact E4) (fun a5 c5 w2 hf hb2 => ⟨fun _ => HSB.out w2 (btr hb hb2), ?_⟩)
      rw [show (#[true, true, false, true, true, true, true, true, true, true, true, true, true, false, false, false] : Array Bool).setIfInBounds 2 true = #[true, true, true, true, true, true, true, true, true, true, true, true, true, false, false, false] from by kernel_rfl, put_swap _ 15 5 _ _ (by decide), put_swap _ 11 5 _ _ (by decide), put_swap _ 8 5 _ _ (by decide)]
      exact st2_5_8_12_ a5 c5 a8 c8 a11 c11 a15 c15 w2 (btr hb hb2) hf (f8.below hb2) (f11.below hb2) (f15.below hb2)
  have st2_5_8_ : ∀ (a5 : Option Addr) (c5 : Nat) (a8 : Option Addr) (c8 : Nat) (a11 : Option Addr) (c11 : Nat) (w1 : World), Below W.heap.size W w1 → Bytes w1 (.slice a5 1 c5) [UInt8.ofNat k] → Bytes w1 (.slice a8 La c8) (Vi.varint a) → Bytes w1 (.slice a11 Lb c11) (Vi.varint b) → T 4 #[true, true, true, true, true, true, true, true, true, true, true, true, false, false, false, false] (((A.put (some 5) (.slice a5 1 c5)).put (some 8) (.slice a8 La c8)).put (some 11) (.slice a11 Lb c11)) w1 := by
    intro a5 c5 a8 c8 a11 c11 w1 hb f5 f8 f11
    refine HT _ _ _ _ [12] (by rw [HR]; kernel_rfl) (by decide) ?_
    refine List.forall_mem_cons.2 ⟨?_, fun _ h => by cases h⟩
    · refine M12 _ _ _ (by rw [eval_put _ 11 14 _ (by decide), eval_put _ 8 14 _ (by decide), eval_put _ 5 14 _ (by decide)]; exact E14) (fun a15 c15 w2 hf hb2 => ⟨fun _ => HSB.out w2 (btr hb hb2), ?_⟩)
      rw [show (#[true, true, true, true, true, true, true, true, true, true, true, true, false, false, false, false] : Array Bool).setIfInBounds 12 true = #[true, true, true, true, true, true, true, true, true, true, true, true, true, false, false, false] from by kernel_rfl]
      exact st2_5_8_12_ a5 c5 a8 c8 a11 c11 a15 c15 w2 (btr hb hb2) (f5.below hb2) (f8.below hb2) (f11.below hb2) hf
  have st2_5_ : ∀ (a5 : Option Addr) (c5 : Nat) (a8 : Option Addr) (c8 : Nat) (w1 : World), Below W.heap.size W w1 → Bytes w1 (.slice a5 1 c5) [UInt8.ofNat k] → Bytes w1 (.slice a8 La c8) (Vi.varint a) → T 5 #[true, true, true, true, true, true, true, true, false, true, true, true, false, false, false, false] ((A.put (some 5) (.slice a5 1 c5)).put (some 8) (.slice a8 La c8)) w1 := by
    intro a5 c5 a8 c8 w1 hb f5 f8
    refine HT _ _ _ _ [8] (by rw [HR]; kernel_rfl) (by decide) ?_
    refine List.forall_mem_cons.2 ⟨?_, fun _ h => by cases h⟩
    · refine M8 _ _ _ (by rw [eval_put _ 8 10 _ (by decide), eval_put _ 5 10 _ (by decide)]; exact E10) (fun a11 c11 w2 hf hb2 => ⟨fun _ => HSB.out w2 (btr hb hb2), ?_⟩)
      rw [show (#[true, true, true, true, true, true, true, true, false, true, true, true, false, false, false, false] : Array Bool).setIfInBounds 8 true = #[true, true, true, true, true, true, true, true, true, true, true, true, false, false, false, false] from by kernel_rfl]
      exact st2_5_8_ a5 c5 a8 c8 a11 c11 w2 (btr hb hb2) (f5.below hb2) (f8.below hb2) hf
  have st5_8_ : ∀ (a8 : Option Addr) (c8 : Nat) (a11 : Option Addr) (c11 : Nat) (w1 : World), Below W.heap.size W w1 → Bytes w1 (.slice a8 La c8) (Vi.varint a) → Bytes w1 (.slice a11 Lb c11) (Vi.varint b) → T 5 #[true, true, false, true, true, true, true, true, true, true, true, true, false, false, false, false] ((A.put (some 8) (.slice a8 La c8)).put (some 11) (.slice a11 Lb c11)) w1 := by
    intro a8 c8 a11 c11 w1 hb f8 f11
    refine HT _ _ _ _ [2, 12] (by rw [HR]; kernel_rfl) (by decide) ?_
    refine List.forall_mem_cons.2 ⟨?_, List.forall_mem_cons.2 ⟨?_, fun _ h => by cases h⟩⟩
    · refine M2 _ _ _ (by rw [eval_put _ 11 4 _ (by decide), eval_put _ 8 4 _ (by decide)]; exact E4) (fun a5 c5 w2 hf hb2 => ⟨fun _ => HSB.out w2 (btr hb hb2), ?_⟩)
      rw [show (#[true, true, false, true, true, true, true, true, true, true, true, true, false, false, false, false] : Array Bool).setIfInBounds 2 true = #[true, true, true, true, true, true, true, true, true, true, true, true, false, false, false, false] from by kernel_rfl, put_swap _ 11 5 _ _ (by decide), put_swap _ 8 5 _ _ (by decide)]
      exact st2_5_8_ a5 c5 a8 c8 a11 c11 w2 (btr hb hb2) hf (f8.below hb2) (f11.below hb2)
    · refine M12 _ _ _ (by rw [eval_put _ 11 14 _ (by decide), eval_put _ 8 14 _ (by decide)]; exact E14) (fun a15 c15 w2 hf hb2 => ⟨fun _ => HSB.out w2 (btr hb hb2), ?_⟩)
      rw [show (#[true, true, false, true, true, true, true, true, true, true, true, true, false, false, false, false] : Array Bool).setIfInBounds 12 true = #[true, true, false, true, true, true, true, true, true, true, true, true, true, false, false, false] from by kernel_rfl]
      exact st5_8_12_ a8 c8 a11 c11 a15 c15 w2 (btr hb hb2) (f8.below hb2) (f11.below hb2) hf
  have st2_ : ∀ (a5 : Option Addr) (c5 : Nat) (w1 : World), Below W.heap.size W w1 → Bytes w1 (.slice a5 1 c5) [UInt8.ofNat k] → T 6 #[true, true, true, true, true, false, true, true, false, true, true, true, false, false, false, false] (A.put (some 5) (.slice a5 1 c5)) w1 := by
    intro a5 c5 w1 hb f5
    refine HT _ _ _ _ [5] (by rw [HR]; kernel_rfl) (by decide) ?_
    refine List.forall_mem_cons.2 ⟨?_, fun _ h => by cases h⟩
    · refine M5 _ _ _ (by rw [eval_put _ 5 7 _ (by decide)]; exact E7) (fun a8 c8 w2 hf hb2 => ⟨fun _ => HSB.out w2 (btr hb hb2), ?_⟩)
      rw [show (#[true, true, true, true, true, false, true, true, false, true, true, true, false, false, false, false] : Array Bool).setIfInBounds 5 true = #[true, true, true, true, true, true, true, true, false, true, true, true, false, false, false, false] from by kernel_rfl]
      exact st2_5_ a5 c5 a8 c8 w2 (btr hb hb2) (f5.below hb2) hf
  have st5_ : ∀ (a8 : Option Addr) (c8 : Nat) (w1 : World), Below W.heap.size W w1 → Bytes w1 (.slice a8 La c8) (Vi.varint a) → T 6 #[true, true, false, true, true, true, true, true, false, true, true, true, false, false, false, false] (A.put (some 8) (.slice a8 La c8)) w1 := by
    intro a8 c8 w1 hb f8
    refine HT _ _ _ _ [2, 8] (by rw [HR]; kernel_rfl) (by decide) ?_
    refine List.forall_mem_cons.2 ⟨?_, List.forall_mem_cons.2 ⟨?_, fun _ h => by cases h⟩⟩
    · refine M2 _ _ _ (by rw [eval_put _ 8 4 _ (by decide)]; exact E4) (fun a5 c5 w2 hf hb2 => ⟨fun _ => HSB.out w2 (btr hb hb2), ?_⟩)
      rw [show (#[true, true, false, true, true, true, true, true, false, true, true, true, false, false, false, false] : Array Bool).setIfInBounds 2 true = #[true, true, true, true, true, true, true, true, false, true, true, true, false, false, false, false] from by kernel_rfl, put_swap _ 8 5 _ _ (by decide)]
      exact st2_5_ a5 c5 a8 c8 w2 (btr hb hb2) hf (f8.below hb2)
    · refine M8 _ _ _ (by rw [eval_put _ 8 10 _ (by decide)]; exact E10) (fun a11 c11 w2 hf hb2 => ⟨fun _ => HSB.out w2 (btr hb hb2), ?_⟩)
      rw [show (#[true, true, false, true, true, true, true, true, false, true, true, true, false, false, false, false] : Array Bool).setIfInBounds 8 true = #[true, true, false, true, true, true, true, true, true, true, true, true, false, false, false, false] from by kernel_rfl]
      exact st5_8_ a8 c8 a11 c11 w2 (btr hb hb2) (f8.below hb2) hf
  have st : ∀  (w1 : World), Below W.heap.size W w1 → T 7 #[true, true, false, true, true, false, true, true, false, true, true, true, false, false, false, false] A w1 := by
    intro  w1 hb 
    refine HT _ _ _ _ [2, 5] (by rw [HR]; kernel_rfl) (by decide) ?_
    refine List.forall_mem_cons.2 ⟨?_, List.forall_mem_cons.2 ⟨?_, fun _ h => by cases h⟩⟩
    · refine M2 _ _ _ (by exact E4) (fun a5 c5 w2 hf hb2 => ⟨fun _ => HSB.out w2 (btr hb hb2), ?_⟩)
      rw [show (#[true, true, false, true, true, false, true, true, false, true, true, true, false, false, false, false] : Array Bool).setIfInBounds 2 true = #[true, true, true, true, true, false, true, true, false, true, true, true, false, false, false, false] from by kernel_rfl]
      exact st2_ a5 c5 w2 (btr hb hb2) hf
    · refine M5 _ _ _ (by exact E7) (fun a8 c8 w2 hf hb2 => ⟨fun _ => HSB.out w2 (btr hb hb2), ?_⟩)
      rw [show (#[true, true, false, true, true, false, true, true, false, true, true, true, false, false, false, false] : Array Bool).setIfInBounds 5 true = #[true, true, false, true, true, true, true, true, false, true, true, true, false, false, false, false] from by kernel_rfl]
      exact st5_ a8 c8 w2 (btr hb hb2) hf
  exact st _ (bdr (bre W))
end Go.Proofs.YtminfdlhbecnhaaGreatDoor
