/- Walk: the closures of an expression. -/
import Derived.Test.YtljdphpbalioaaaGreatDoorGrN
namespace Go.Proofs.YtljdphpbalioaaaGreatDoor
open Go.RowKit

set_option linter.unusedSimpArgs false in
set_option maxRecDepth 20000 in
set_option maxHeartbeats 3200000 in
theorem expr1_tok (I : World → Prop) (w0 : World) (g bp bt gt D : Nat) (ta : Option Addr) (tc : Nat) (ts : List Tok) (B n : Nat) (s : PS) (k typ : Nat) (name mod tgt : List UInt8) (num : Int) (w : World) (hih : ExprIH g ta tc ts B n) (hmu : muOf ts s ≤ n) (hI : ∀ w, I w → Caps w bt bp gt g) (h : NS I w0 w g ta tc ts B s D gt k name num typ mod tgt [] [] [] [] []) (hok : Gr.Ok ts s) :
    Calls Tryz.prog 69 #[.pointer (some ⟨bp, 0, none⟩), .pointer (some ⟨bt, 0, none⟩)] w fun e w' => e = .returned (.tuple #[]) ∧
      ∃ bs, NS I w0 w' g ta tc ts B (Gr.expr ts n s).2 D gt k name num typ mod tgt [(Gr.expr ts n s).1] bs [] [] [] := by
  have HIH := Lib.hid hih
  have HN0 : Hid (NS I w0 w.drew g ta tc ts B s D gt k name num typ mod tgt [] [] [] [] []) := Lib.hid (h.below (bdr (bre w)))
  clear hih h
  go_enter Tryz.func69, Tryz.ntmps69
  go_upto_region 0 with fail
  refine region_anyZ (z := 4) (S := I) (by kernel_rfl) ?_
  refine anyZ_begin (fun hcl0 => ?_)
  refine anyZ_held (by exact HN0.out.holds) (fun hHeld => ?_)
  -- 0: Op.load 48 (Operand.tmp 1)
  refine' anyZ_take (i := 0) (v := _) rfl (by rfl) (by kernel_rfl) (by kernel_rfl) (by kernel_rfl) hcl0 8 (by kernel_rfl) (by kernel_rfl) (fun _ _ _ h => h) (Or.inl ⟨by rfl, fun w hSw => ?hz1⟩) hHeld (fun hcl1 => ?rz1)
  case hz1 => (simp only [List.getElem_toArray, List.getElem_cons_zero]; have hcw := hI _ hSw; obtain ⟨hS1, hS2⟩ := hcw; first | (go_simp; with_reducible rfl) | (go_simp; done) | rfl)
  simp only [List.getElem_toArray, List.getElem_cons_zero, Act.put, List.setIfInBounds_toArray, List.set_cons_zero, List.set_cons_succ]
  -- 1: Op.load 45 (Operand.tmp 0)
  refine' anyZ_take (i := 1) (v := _) rfl (by rfl) (by kernel_rfl) (by kernel_rfl) (by kernel_rfl) hcl1 8 (by kernel_rfl) (by kernel_rfl) (fun _ _ _ h => h) (Or.inl ⟨by rfl, fun w hSw => ?hz2⟩) hHeld (fun hcl2 => ?rz2)
  case hz2 => (simp only [List.getElem_toArray, List.getElem_cons_succ, List.getElem_cons_zero]; have hcw := hI _ hSw; obtain ⟨hS1, hS2⟩ := hcw; first | (go_simp; with_reducible rfl) | (go_simp; done) | rfl)
  simp only [List.getElem_toArray, List.getElem_cons_succ, List.getElem_cons_zero, Act.put, List.setIfInBounds_toArray, List.set_cons_zero, List.set_cons_succ]
  -- 2: Op.call { callee := Callee.value (Operand.func 49), args := 
  refine anyZ_one (i := 2) hcl2 (by kernel_rfl) (by simp only [List.getElem?_toArray, List.getElem?_cons_succ, List.getElem?_cons_zero]; rfl) (by rfl) (fun hcl3 K hK => ?_)
  go_simp
  refine (HIH.out s _ hmu hok.wide HN0.out.asks).mono ?_
  rintro e w2 ⟨v, b2, rfl, hd2, hp2, ho2⟩
  obtain ⟨gv, rfl⟩ := hd2.ptr
  have HN2 := Lib.hid (HN0.out.got hp2 ho2 hd2)
  clear hd2 hp2 ho2
  refine hK _ _ (fun _ => ?_) ?_
  · exact HN2.out.holds
  clear hK K hHeld
  try simp only [Act.put, List.setIfInBounds_toArray, List.set_cons_zero, List.set_cons_succ]
  -- 3: Op.buildSlice 54 1 #[(0, Operand.tmp 4)]
  refine anyZ_one (i := 3) hcl3 (by kernel_rfl) (by simp only [List.getElem?_toArray, List.getElem?_cons_succ, List.getElem?_cons_zero]; rfl) (by rfl) (fun hcl4 K hK => ?_)
  go_simp
  refine hK _ _ (fun _ => ?_) ?_
  · exact (HN2.out.below (bal (bre w2) _)).holds
  clear hK K
  try simp only [Act.put, List.setIfInBounds_toArray, List.set_cons_zero, List.set_cons_succ]
  refine anyZ_chain_at (by kernel_rfl) ?_
  simp only [List.drop_succ_cons, List.drop_zero]
  have hn3 : NS I w0 ((w2.alloc (.cells #[.pointer (some ⟨gv, 0, none⟩)] 47)).setCell ⟨gt, 8, none⟩ (.slice (some ⟨w2.heap.size, 0, none⟩) 1 1)) g ta tc ts B (Gr.expr ts n s).2 D gt k name num typ mod tgt [(Gr.expr ts n s).1] (w2.heap.size :: ([] ++ b2)) [] [] [] := HN2.out.rowed 1 rfl (by decide)
  obtain ⟨kv3, ps3, hrow3, -, -⟩ := (HN2.out.below (bal (bre w2) (.cells #[.pointer (some ⟨gv, 0, none⟩)] 47))).box
  have hfz := fun i => frozen_of_row _ gt i _ _ hrow3
  have c8 := cell_of_row _ gt 8 _ _ _ hrow3
  have HN3 := Lib.hid hn3
  clear hn3 hrow3
  go_wp2_with fail
  refine bodyPost_end (results_none rfl _ _ _) rfl ?_
  exact ⟨rfl, _, HN3.out⟩

set_option linter.unusedSimpArgs false in
set_option maxRecDepth 20000 in
set_option maxHeartbeats 3200000 in
theorem expr2_tok (I : World → Prop) (w0 : World) (g bp bt gt D : Nat) (ta : Option Addr) (tc : Nat) (ts : List Tok) (B n : Nat) (s : PS) (k typ : Nat) (name mod tgt : List UInt8) (num : Int) (w : World) (hih : ExprIH g ta tc ts B n) (hmu : muOf ts s ≤ n) (hI : ∀ w, I w → Caps w bt bp gt g) (h : NS I w0 w g ta tc ts B s D gt k name num typ mod tgt [] [] [] [] []) (hok : Gr.Ok ts s) :
    Calls Tryz.prog 70 #[.pointer (some ⟨bp, 0, none⟩), .pointer (some ⟨bt, 0, none⟩)] w fun e w' => e = .returned (.tuple #[]) ∧
      ∃ bs, NS I w0 w' g ta tc ts B (Gr.expr ts n s).2 D gt k name num typ mod tgt [(Gr.expr ts n s).1] bs [] [] [] := by
  have HIH := Lib.hid hih
  have HN0 : Hid (NS I w0 w.drew g ta tc ts B s D gt k name num typ mod tgt [] [] [] [] []) := Lib.hid (h.below (bdr (bre w)))
  clear hih h
  go_enter Tryz.func70, Tryz.ntmps70
  go_upto_region 0 with fail
  refine region_anyZ (z := 4) (S := I) (by kernel_rfl) ?_
  refine anyZ_begin (fun hcl0 => ?_)
  refine anyZ_held (by exact HN0.out.holds) (fun hHeld => ?_)
  -- 0: Op.load 48 (Operand.tmp 1)
  refine' anyZ_take (i := 0) (v := _) rfl (by rfl) (by kernel_rfl) (by kernel_rfl) (by kernel_rfl) hcl0 8 (by kernel_rfl) (by kernel_rfl) (fun _ _ _ h => h) (Or.inl ⟨by rfl, fun w hSw => ?hz1⟩) hHeld (fun hcl1 => ?rz1)
  case hz1 => (simp only [List.getElem_toArray, List.getElem_cons_zero]; have hcw := hI _ hSw; obtain ⟨hS1, hS2⟩ := hcw; first | (go_simp; with_reducible rfl) | (go_simp; done) | rfl)
  simp only [List.getElem_toArray, List.getElem_cons_zero, Act.put, List.setIfInBounds_toArray, List.set_cons_zero, List.set_cons_succ]
  -- 1: Op.load 45 (Operand.tmp 0)
  refine' anyZ_take (i := 1) (v := _) rfl (by rfl) (by kernel_rfl) (by kernel_rfl) (by kernel_rfl) hcl1 8 (by kernel_rfl) (by kernel_rfl) (fun _ _ _ h => h) (Or.inl ⟨by rfl, fun w hSw => ?hz2⟩) hHeld (fun hcl2 => ?rz2)
  case hz2 => (simp only [List.getElem_toArray, List.getElem_cons_succ, List.getElem_cons_zero]; have hcw := hI _ hSw; obtain ⟨hS1, hS2⟩ := hcw; first | (go_simp; with_reducible rfl) | (go_simp; done) | rfl)
  simp only [List.getElem_toArray, List.getElem_cons_succ, List.getElem_cons_zero, Act.put, List.setIfInBounds_toArray, List.set_cons_zero, List.set_cons_succ]
  -- 2: Op.call { callee := Callee.value (Operand.func 49), args := 
  refine anyZ_one (i := 2) hcl2 (by kernel_rfl) (by simp only [List.getElem?_toArray, List.getElem?_cons_succ, List.getElem?_cons_zero]; rfl) (by rfl) (fun hcl3 K hK => ?_)
  go_simp
  refine (HIH.out s _ hmu hok.wide HN0.out.asks).mono ?_
  rintro e w2 ⟨v, b2, rfl, hd2, hp2, ho2⟩
  obtain ⟨gv, rfl⟩ := hd2.ptr
  have HN2 := Lib.hid (HN0.out.got hp2 ho2 hd2)
  clear hd2 hp2 ho2
  refine hK _ _ (fun _ => ?_) ?_
  · exact HN2.out.holds
  clear hK K hHeld
  try simp only [Act.put, List.setIfInBounds_toArray, List.set_cons_zero, List.set_cons_succ]
  -- 3: Op.buildSlice 54 1 #[(0, Operand.tmp 4)]
  refine anyZ_one (i := 3) hcl3 (by kernel_rfl) (by simp only [List.getElem?_toArray, List.getElem?_cons_succ, List.getElem?_cons_zero]; rfl) (by rfl) (fun hcl4 K hK => ?_)
  go_simp
  refine hK _ _ (fun _ => ?_) ?_
  · exact (HN2.out.below (bal (bre w2) _)).holds
  clear hK K
  try simp only [Act.put, List.setIfInBounds_toArray, List.set_cons_zero, List.set_cons_succ]
  refine anyZ_chain_at (by kernel_rfl) ?_
  simp only [List.drop_succ_cons, List.drop_zero]
  have hn3 : NS I w0 ((w2.alloc (.cells #[.pointer (some ⟨gv, 0, none⟩)] 47)).setCell ⟨gt, 8, none⟩ (.slice (some ⟨w2.heap.size, 0, none⟩) 1 1)) g ta tc ts B (Gr.expr ts n s).2 D gt k name num typ mod tgt [(Gr.expr ts n s).1] (w2.heap.size :: ([] ++ b2)) [] [] [] := HN2.out.rowed 1 rfl (by decide)
  obtain ⟨kv3, ps3, hrow3, -, -⟩ := (HN2.out.below (bal (bre w2) (.cells #[.pointer (some ⟨gv, 0, none⟩)] 47))).box
  have hfz := fun i => frozen_of_row _ gt i _ _ hrow3
  have c8 := cell_of_row _ gt 8 _ _ _ hrow3
  have HN3 := Lib.hid hn3
  clear hn3 hrow3
  go_wp2_with fail
  refine bodyPost_end (results_none rfl _ _ _) rfl ?_
  exact ⟨rfl, _, HN3.out⟩

set_option linter.unusedSimpArgs false in
set_option maxRecDepth 20000 in
set_option maxHeartbeats 3200000 in
theorem expr3_tok (I : World → Prop) (w0 : World) (g bp bt gt D : Nat) (ta : Option Addr) (tc : Nat) (ts : List Tok) (B n : Nat) (s : PS) (k typ : Nat) (name mod tgt : List UInt8) (num : Int) (w : World) (hih : ExprIH g ta tc ts B n) (hmu : muOf ts s ≤ n) (hI : ∀ w, I w → Caps w bt bp gt g) (h : NS I w0 w g ta tc ts B s D gt k name num typ mod tgt [] [] [] [] []) (hok : Gr.Ok ts s) (hnb : s.bad = false) :
    Calls Tryz.prog 71 #[.pointer (some ⟨bp, 0, none⟩), .pointer (some ⟨bt, 0, none⟩)] w fun e w' => e = .returned (.tuple #[]) ∧
      ∃ bs, NS I w0 w' g ta tc ts B (Gr.binOf ts (Gr.expr ts n) s).2 D gt k name ((Gr.binOf ts (Gr.expr ts n) s).1.1 : Nat) typ mod tgt (Gr.binOf ts (Gr.expr ts n) s).1.2 bs [] [] [] := by
  obtain ⟨R, hR⟩ : ∃ R, R = Gr.binOf ts (Gr.expr ts n) s := ⟨_, rfl⟩
  rw [← hR]
  have HR := Lib.hid hR
  have HKP := Lib.hid (Gr.expr_keeps (ts := ts) n)
  have HIH := Lib.hid hih
  have HN0 := Lib.hid h
  have HOK := Lib.hid hok
  have HNB := Lib.hid hnb
  have HMU := Lib.hid hmu
  have hcap := hI _ h.holds
  have c1 := hcap.1
  have c2 := hcap.2
  clear hih h hcap hR hnb hok hmu
  go_enter Tryz.func71, Tryz.ntmps71
  go_wp2_with fail
  refine (HIH.out s w HMU.out HOK.out.wide HN0.out.asks).mono ?_
  rintro e w1 ⟨v1, b1, rfl, hd1, hp1, ho1⟩
  obtain ⟨ga, rfl⟩ := hd1.ptr
  have hn1 := (HN0.out.got hp1 ho1 hd1).below (bdr (bre w1))
  obtain ⟨A, hA⟩ : ∃ A, A = Gr.expr ts n s := ⟨_, rfl⟩
  rw [← hA] at hn1
  have HA := Lib.hid hA
  have hokA : Gr.Ok ts A.2 := by rw [hA]; exact HKP.out.ok s HOK.out
  have hfwd : s.pos ≤ A.2.pos := by rw [hA]; exact HKP.out.fwd s
  have hpos : A.2.pos ≤ 1000000000 := by have := hokA.pos; have := HN0.out.pat.few; omega
  have HOKA := Lib.hid hokA
  have HFWD := Lib.hid hfwd
  have HN1 := Lib.hid hn1
  obtain ⟨t, ht⟩ : ∃ t, t = Gr.now ts A.2 := ⟨_, rfl⟩
  have HT := Lib.hid ht
  clear hd1 hp1 ho1 hA hokA hfwd hn1 ht c1 c2 HN0
  go_upto_region 1 with fail
  refine region_anyZ (z := 5) (S := I) (by kernel_rfl) ?_
  refine anyZ_begin (fun hcl0 => ?_)
  refine anyZ_held (by exact HN1.out.holds) (fun hHeld => ?_)
  -- 0: Op.load 48 (Operand.tmp 1)
  refine' anyZ_take (i := 0) (v := _) rfl (by rfl) (by kernel_rfl) (by kernel_rfl) (by kernel_rfl) hcl0 8 (by kernel_rfl) (by kernel_rfl) (fun _ _ _ h => h) (Or.inl ⟨by rfl, fun w hSw => ?hz1⟩) hHeld (fun hcl1 => ?rz1)
  case hz1 => (simp only [List.getElem_toArray, List.getElem_cons_zero]; have hcw := hI _ hSw; obtain ⟨hS1, hS2⟩ := hcw; first | (go_simp; with_reducible rfl) | (go_simp; done) | rfl)
  simp only [List.getElem_toArray, List.getElem_cons_zero, Act.put, List.setIfInBounds_toArray, List.set_cons_zero, List.set_cons_succ]
  -- 1: Op.load 45 (Operand.tmp 0)
  refine' anyZ_take (i := 1) (v := _) rfl (by rfl) (by kernel_rfl) (by kernel_rfl) (by kernel_rfl) hcl1 8 (by kernel_rfl) (by kernel_rfl) (fun _ _ _ h => h) (Or.inl ⟨by rfl, fun w hSw => ?hz2⟩) hHeld (fun hcl2 => ?rz2)
  case hz2 => (simp only [List.getElem_toArray, List.getElem_cons_succ, List.getElem_cons_zero]; have hcw := hI _ hSw; obtain ⟨hS1, hS2⟩ := hcw; first | (go_simp; with_reducible rfl) | (go_simp; done) | rfl)
  simp only [List.getElem_toArray, List.getElem_cons_succ, List.getElem_cons_zero, Act.put, List.setIfInBounds_toArray, List.set_cons_zero, List.set_cons_succ]
  -- 2: Op.call { callee := Callee.value (Operand.func 43), args := 
  refine anyZ_one (i := 2) hcl2 (by kernel_rfl) (by simp only [List.getElem?_toArray, List.getElem?_cons_succ, List.getElem?_cons_zero]; rfl) (by rfl) (fun hcl3 K hK => ?_)
  go_simp
  refine (now_any g ta tc ts A.2 _ HN1.out.pat hpos).mono ?_
  rintro e wn ⟨rfl, hbn⟩
  rw [← HT.out]
  unfold TokV
  have HN2 := Lib.hid (HN1.out.below hbn)
  clear hbn
  refine hK _ _ (fun _ => ?_) ?_
  · exact HN2.out.holds
  clear hK K hHeld
  have hHeld := HN2.out.holds
  try simp only [Act.put, List.setIfInBounds_toArray, List.set_cons_zero, List.set_cons_succ]
  -- 3: Op.field 70 (Operand.tmp 7) 1
  refine' anyZ_pure (i := 3) (v := _) rfl (by rfl) (by kernel_rfl) (by kernel_rfl) (by kernel_rfl) hcl3 (fun _ _ _ h => h) (Or.inl ⟨by rfl, fun w _ => ?hz4⟩) (fun _ => hHeld) (fun hcl4 => ?rz4)
  case hz4 => (simp only [List.getElem_toArray, List.getElem_cons_succ, List.getElem_cons_zero]; first | (go_simp; with_reducible rfl) | (go_simp; done) | rfl)
  simp only [List.getElem_toArray, List.getElem_cons_succ, List.getElem_cons_zero, Act.put, List.setIfInBounds_toArray, List.set_cons_zero, List.set_cons_succ]
  -- 4: Op.call { callee := Callee.value (Operand.func 9), args := #
  refine anyZ_one (i := 4) hcl4 (by kernel_rfl) (by simp only [List.getElem?_toArray, List.getElem?_cons_succ, List.getElem?_cons_zero]; rfl) (by rfl) (fun hcl5 K hK => ?_)
  go_simp
  refine (opnum_any t.text _ HN2.out.tb.here.1).mono ?_
  rintro e wo ⟨rfl, hbo⟩
  have HN3 := Lib.hid (HN2.out.below hbo)
  clear hbo HN2
  refine hK _ _ (fun _ => ?_) ?_
  · exact HN3.out.holds
  clear hK K hHeld
  try simp only [Act.put, List.setIfInBounds_toArray, List.set_cons_zero, List.set_cons_succ]
  refine anyZ_chain_at (by kernel_rfl) ?_
  simp only [List.drop_succ_cons, List.drop_zero]
  obtain ⟨o, ho⟩ : ∃ o, o = Gr.opNum t.text := ⟨_, rfl⟩
  rw [← ho]
  have HO := Lib.hid ho
  clear ho
  obtain ⟨kv0, ps0, hrow0, -, -⟩ := HN3.out.box
  have hfz := fun i => frozen_of_row _ gt i _ _ hrow0
  have g2 := cell_of_row _ gt 2 _ _ _ hrow0
  have hn4 := HN3.out.numb (o : Nat)
  clear hrow0 HN3 HN1
  go_upto_region 2 with fail
  generalize wo.setCell ⟨gt, 2, none⟩ (.int .i64 (o : Nat)) = W2 at *
  have HN4 := Lib.hid hn4
  clear hfz g2 hn4
  have c2 := (hI _ HN4.out.holds).2
  have g1 := cell_of_row W2 g 1 _ _ _ HN4.out.pat.row
  replace g1 : W2.cell? ⟨g, 1, none⟩ = some (.int .i64 (A.2.pos : Nat)) := g1
  have gf := fun i => frozen_of_row W2 g i _ _ HN4.out.pat.row
  have hw1 : wrap64 ((A.2.pos : Int) + 1) = ((A.2.pos + 1 : Nat) : Int) := by unfold wrap64; omega
  have hw2 : IntKind.i64.wrap ((A.2.pos : Int) + 1) = ((A.2.pos + 1 : Nat) : Int) := by rw [IntKind.wrap_i64]; omega
  have hn5 : NS I w0 (W2.setCell ⟨g, 1, none⟩ (.int .i64 ((A.2.pos + 1 : Nat) : Int))) g ta tc ts B (Gr.PS.adv A.2) D gt k name (o : Nat) typ mod tgt [] [] [.pointer (some ⟨ga, 0, none⟩)] [A.1] ([] ++ b1) := HN4.out.call HN4.out.pat.adv (Only.setCell W2 ⟨g, 1, none⟩ _)
  go_upto_region 3 with fail
  try rw [show ((A.2.pos : Int) + 1) = ((A.2.pos + 1 : Nat) : Int) from rfl]
  generalize W2.setCell ⟨g, 1, none⟩ (.int .i64 ((A.2.pos + 1 : Nat) : Int)) = W3 at *
  have HN5 := Lib.hid hn5
  clear hn5 HN4 c2 g1 gf hw1 hw2
  obtain ⟨S2, hS2⟩ : ∃ S2 : PS, S2 = ⟨A.2.pos + 1, A.2.deep, A.2.bad || decide (o = 0)⟩ := ⟨_, rfl⟩
  have HSS := Lib.hid hS2
  clear hS2
  go_cut [] from 20 to 35 (fun w' => Hid (NS I w0 w' g ta tc ts B S2 D gt k name (o : Nat) typ mod tgt [] [] [.pointer (some ⟨ga, 0, none⟩)] [A.1] ([] ++ b1)))
  case first =>
    obtain ⟨kv3, ps3, hrow3, -, -⟩ := HN5.out.box
    have g2 := cell_of_row W3 gt 2 _ _ _ hrow3
    replace g2 : W3.cell? ⟨gt, 2, none⟩ = some (.int .i64 (o : Nat)) := g2
    have g3 := cell_of_row W3 g 3 _ _ _ HN5.out.pat.row
    replace g3 : W3.cell? ⟨g, 3, none⟩ = some (.bool A.2.bad) := g3
    have gf := fun i => frozen_of_row W3.drew g i _ _ HN5.out.pat.row
    obtain ⟨bd, hbd⟩ : ∃ b, b = A.2.bad := ⟨_, rfl⟩
    rw [← hbd] at g3
    have HBD := Lib.hid hbd
    have HFIN : Hid (∀ b, b = S2.bad → NS I w0 (W3.drew.setCell ⟨g, 3, none⟩ (.bool b)) g ta tc ts B S2 D gt k name (o : Nat) typ mod tgt [] [] [.pointer (some ⟨ga, 0, none⟩)] [A.1] ([] ++ b1)) := Lib.hid (fun b hb => by
      have h1 := HN5.out.below (bdr (bre W3))
      have h3 := h1.pat.bad b
      have h2 : (⟨(Gr.PS.adv A.2).pos, (Gr.PS.adv A.2).deep, b⟩ : PS) = S2 := by rw [hb, HSS.out]; rfl
      rw [h2] at h3
      exact h1.call h3 (Only.setCell W3.drew ⟨g, 3, none⟩ (.bool b)))
    have hhold := (HN5.out.below (bdr (bre W3))).holds
    clear hrow3 hbd
    cases bd with
    | true =>
      have HB2 : Hid (true = S2.bad) := Lib.hid (by rw [HSS.out]; show true = (A.2.bad || _); rw [← HBD.out]; rfl)
      have HS3 : I W3.drew ∧ W3.drew.cell? ⟨g, 3, none⟩ = some (.bool true) ∧ W3.drew.cell? ⟨gt, 2, none⟩ = some (.int .i64 (o : Nat)) := ⟨hhold, g3, g2⟩
      clear g2 g3 hhold
      refine region_anyZ (z := 13) (S := fun w' => I w' ∧ w'.cell? ⟨g, 3, none⟩ = some (.bool true) ∧ w'.cell? ⟨gt, 2, none⟩ = some (.int .i64 (o : Nat))) (by kernel_rfl) ?_
      refine anyZ_begin (fun hcl0 => ?_)
      refine anyZ_held (by exact HS3) (fun hHeld => ?_)
      -- 0: Op.load 45 (Operand.tmp 0)
      refine' anyZ_take (i := 0) (v := _) rfl (by rfl) (by kernel_rfl) (by kernel_rfl) (by kernel_rfl) hcl0 13 (by kernel_rfl) (by kernel_rfl) (fun _ _ _ h => h) (Or.inl ⟨by rfl, fun w hSw => ?hb1⟩) hHeld (fun hcl1 => ?rb1)
      case hb1 => (simp only [List.getElem_toArray, List.getElem_cons_zero]; obtain ⟨hSi, hS3, hS4⟩ := hSw; obtain ⟨hS1, hS2⟩ := hI _ hSi; first | (go_simp; with_reducible rfl) | (go_simp; done) | rfl)
      simp only [List.getElem_toArray, List.getElem_cons_zero, Act.put, List.setIfInBounds_toArray, List.set_cons_zero, List.set_cons_succ]
      -- 1: Op.load 45 (Operand.tmp 0)
      refine' anyZ_take (i := 1) (v := _) rfl (by rfl) (by kernel_rfl) (by kernel_rfl) (by kernel_rfl) hcl1 13 (by kernel_rfl) (by kernel_rfl) (fun _ _ _ h => h) (Or.inl ⟨by rfl, fun w hSw => ?hb2⟩) hHeld (fun hcl2 => ?rb2)
      case hb2 => (simp only [List.getElem_toArray, List.getElem_cons_succ, List.getElem_cons_zero]; obtain ⟨hSi, hS3, hS4⟩ := hSw; obtain ⟨hS1, hS2⟩ := hI _ hSi; first | (go_simp; with_reducible rfl) | (go_simp; done) | rfl)
      simp only [List.getElem_toArray, List.getElem_cons_succ, List.getElem_cons_zero, Act.put, List.setIfInBounds_toArray, List.set_cons_zero, List.set_cons_succ]
      -- 2: Op.nilCheck (Operand.tmp 21)
      refine' anyZ_pure (i := 2) (v := _) rfl (by rfl) (by kernel_rfl) (by kernel_rfl) (by kernel_rfl) hcl2 (fun _ _ _ h => h) (Or.inl ⟨by rfl, fun w _ => ?hb3⟩) (fun _ => hHeld) (fun hcl3 => ?rb3)
      case hb3 => (simp only [List.getElem_toArray, List.getElem_cons_succ, List.getElem_cons_zero]; first | (go_simp; with_reducible rfl) | (go_simp; done) | rfl)
      simp only [List.getElem_toArray, List.getElem_cons_succ, List.getElem_cons_zero, Act.put, List.setIfInBounds_toArray, List.set_cons_zero, List.set_cons_succ]
      -- 3: Op.fieldAddr 47 (Operand.tmp 22) 3
      refine' anyZ_pure (i := 3) (v := _) rfl (by rfl) (by kernel_rfl) (by kernel_rfl) (by kernel_rfl) hcl3 (fun _ _ _ h => h) (Or.inl ⟨by rfl, fun w _ => ?hb4⟩) (fun _ => hHeld) (fun hcl4 => ?rb4)
      case hb4 => (simp only [List.getElem_toArray, List.getElem_cons_succ, List.getElem_cons_zero]; first | (go_simp; with_reducible rfl) | (go_simp; done) | rfl)
      simp only [List.getElem_toArray, List.getElem_cons_succ, List.getElem_cons_zero, Act.put, List.setIfInBounds_toArray, List.set_cons_zero, List.set_cons_succ]
      -- 4: Op.load 4 (Operand.tmp 23)
      refine' anyZ_take (i := 4) (v := _) rfl (by rfl) (by kernel_rfl) (by kernel_rfl) (by kernel_rfl) hcl4 13 (by kernel_rfl) (by kernel_rfl) (fun _ _ _ h => h) (Or.inl ⟨by rfl, fun w hSw => ?hb5⟩) hHeld (fun hcl5 => ?rb5)
      case hb5 => (simp only [List.getElem_toArray, List.getElem_cons_succ, List.getElem_cons_zero]; obtain ⟨hSi, hS3, hS4⟩ := hSw; obtain ⟨hS1, hS2⟩ := hI _ hSi; first | (go_simp; with_reducible rfl) | (go_simp; done) | rfl)
      simp only [List.getElem_toArray, List.getElem_cons_succ, List.getElem_cons_zero, Act.put, List.setIfInBounds_toArray, List.set_cons_zero, List.set_cons_succ]
      -- 5: Op.move (Operand.tmp 24)
      refine' anyZ_pure (i := 5) (v := _) rfl (by rfl) (by kernel_rfl) (by kernel_rfl) (by kernel_rfl) hcl5 (fun _ _ _ h => h) (Or.inl ⟨by rfl, fun w _ => ?hb6⟩) (fun _ => hHeld) (fun hcl6 => ?rb6)
      case hb6 => (simp only [List.getElem_toArray, List.getElem_cons_succ, List.getElem_cons_zero]; first | (go_simp; with_reducible rfl) | (go_simp; done) | rfl)
      simp only [List.getElem_toArray, List.getElem_cons_succ, List.getElem_cons_zero, Act.put, List.setIfInBounds_toArray, List.set_cons_zero, List.set_cons_succ]
      -- 6 (not wanted): Op.load 48 (Operand.tmp 1)
      refine anyZ_oneSkip (i := 6) hcl6 (by kernel_rfl) (by simp only [List.getElem?_toArray, List.getElem?_cons_succ, List.getElem?_cons_zero]; rfl) (by kernel_rfl) (fun _ => hHeld) (fun hcl7 => ?_)
      simp only [Act.put, List.setIfInBounds_toArray, List.set_cons_zero, List.set_cons_succ]
      -- 7 (not wanted): Op.nilCheck (Operand.tmp 26)
      refine anyZ_oneSkip (i := 7) hcl7 (by kernel_rfl) (by simp only [List.getElem?_toArray, List.getElem?_cons_succ, List.getElem?_cons_zero]; rfl) (by kernel_rfl) (fun _ => hHeld) (fun hcl8 => ?_)
      simp only [Act.put, List.setIfInBounds_toArray, List.set_cons_zero, List.set_cons_succ]
      -- 8 (not wanted): Op.fieldAddr 74 (Operand.tmp 27) 0
      refine anyZ_oneSkip (i := 8) hcl8 (by kernel_rfl) (by simp only [List.getElem?_toArray, List.getElem?_cons_succ, List.getElem?_cons_zero]; rfl) (by kernel_rfl) (fun _ => hHeld) (fun hcl9 => ?_)
      simp only [Act.put, List.setIfInBounds_toArray, List.set_cons_zero, List.set_cons_succ]
      -- 9 (not wanted): Op.fieldAddr 38 (Operand.tmp 28) 2
      refine anyZ_oneSkip (i := 9) hcl9 (by kernel_rfl) (by simp only [List.getElem?_toArray, List.getElem?_cons_succ, List.getElem?_cons_zero]; rfl) (by kernel_rfl) (fun _ => hHeld) (fun hcl10 => ?_)
      simp only [Act.put, List.setIfInBounds_toArray, List.set_cons_zero, List.set_cons_succ]
      -- 10 (not wanted): Op.load 2 (Operand.tmp 29)
      refine anyZ_oneSkip (i := 10) hcl10 (by kernel_rfl) (by simp only [List.getElem?_toArray, List.getElem?_cons_succ, List.getElem?_cons_zero]; rfl) (by kernel_rfl) (fun _ => hHeld) (fun hcl11 => ?_)
      simp only [Act.put, List.setIfInBounds_toArray, List.set_cons_zero, List.set_cons_succ]
      -- 11 (not wanted): Op.binOp BinOp.eql 2 (Operand.tmp 30) (Operand.const (Value.
      refine anyZ_oneSkip (i := 11) hcl11 (by kernel_rfl) (by simp only [List.getElem?_toArray, List.getElem?_cons_succ, List.getElem?_cons_zero]; rfl) (by kernel_rfl) (fun _ => hHeld) (fun hcl12 => ?_)
      simp only [Act.put, List.setIfInBounds_toArray, List.set_cons_zero, List.set_cons_succ]
      -- 12: Op.pick (Operand.tmp 25) (Operand.const (Value.bool true)) (
      refine' anyZ_pure (i := 12) (v := _) rfl (by rfl) (by kernel_rfl) (by kernel_rfl) (by kernel_rfl) hcl12 (fun _ _ _ h => h) (Or.inl ⟨by rfl, fun w _ => ?hb13⟩) (fun _ => hHeld) (fun hcl13 => ?rb13)
      case hb13 => (simp only [List.getElem_toArray, List.getElem_cons_succ, List.getElem_cons_zero]; first | (go_simp; with_reducible rfl) | (go_simp; done) | rfl)
      simp only [List.getElem_toArray, List.getElem_cons_succ, List.getElem_cons_zero, Act.put, List.setIfInBounds_toArray, List.set_cons_zero, List.set_cons_succ]
      clear hHeld
      refine anyZ_chain_at (by kernel_rfl) ?_
      simp only [List.drop_succ_cons, List.drop_zero]
      have g3d := HS3.2.1
      clear HS3
      go_wp2_with fail
      go_meet
      exact Lib.hid (HFIN.out _ HB2.out)
    | false =>
      have HB2 : Hid (decide (o = 0) = S2.bad) := Lib.hid (by rw [HSS.out]; show _ = (A.2.bad || _); rw [← HBD.out]; rfl)
      have HS3 : I W3.drew ∧ W3.drew.cell? ⟨g, 3, none⟩ = some (.bool false) ∧ W3.drew.cell? ⟨gt, 2, none⟩ = some (.int .i64 (o : Nat)) := ⟨hhold, g3, g2⟩
      clear g2 g3 hhold
      refine region_anyZ (z := 13) (S := fun w' => I w' ∧ w'.cell? ⟨g, 3, none⟩ = some (.bool false) ∧ w'.cell? ⟨gt, 2, none⟩ = some (.int .i64 (o : Nat))) (by kernel_rfl) ?_
      refine anyZ_begin (fun hcl0 => ?_)
      refine anyZ_held (by exact HS3) (fun hHeld => ?_)
      -- 0: Op.load 45 (Operand.tmp 0)
      refine' anyZ_take (i := 0) (v := _) rfl (by rfl) (by kernel_rfl) (by kernel_rfl) (by kernel_rfl) hcl0 13 (by kernel_rfl) (by kernel_rfl) (fun _ _ _ h => h) (Or.inl ⟨by rfl, fun w hSw => ?hc1⟩) hHeld (fun hcl1 => ?rc1)
      case hc1 => (simp only [List.getElem_toArray, List.getElem_cons_zero]; obtain ⟨hSi, hS3, hS4⟩ := hSw; obtain ⟨hS1, hS2⟩ := hI _ hSi; first | (go_simp; with_reducible rfl) | (go_simp; done) | rfl)
      simp only [List.getElem_toArray, List.getElem_cons_zero, Act.put, List.setIfInBounds_toArray, List.set_cons_zero, List.set_cons_succ]
      -- 1: Op.load 45 (Operand.tmp 0)
      refine' anyZ_take (i := 1) (v := _) rfl (by rfl) (by kernel_rfl) (by kernel_rfl) (by kernel_rfl) hcl1 13 (by kernel_rfl) (by kernel_rfl) (fun _ _ _ h => h) (Or.inl ⟨by rfl, fun w hSw => ?hc2⟩) hHeld (fun hcl2 => ?rc2)
      case hc2 => (simp only [List.getElem_toArray, List.getElem_cons_succ, List.getElem_cons_zero]; obtain ⟨hSi, hS3, hS4⟩ := hSw; obtain ⟨hS1, hS2⟩ := hI _ hSi; first | (go_simp; with_reducible rfl) | (go_simp; done) | rfl)
      simp only [List.getElem_toArray, List.getElem_cons_succ, List.getElem_cons_zero, Act.put, List.setIfInBounds_toArray, List.set_cons_zero, List.set_cons_succ]
      -- 2: Op.nilCheck (Operand.tmp 21)
      refine' anyZ_pure (i := 2) (v := _) rfl (by rfl) (by kernel_rfl) (by kernel_rfl) (by kernel_rfl) hcl2 (fun _ _ _ h => h) (Or.inl ⟨by rfl, fun w _ => ?hc3⟩) (fun _ => hHeld) (fun hcl3 => ?rc3)
      case hc3 => (simp only [List.getElem_toArray, List.getElem_cons_succ, List.getElem_cons_zero]; first | (go_simp; with_reducible rfl) | (go_simp; done) | rfl)
      simp only [List.getElem_toArray, List.getElem_cons_succ, List.getElem_cons_zero, Act.put, List.setIfInBounds_toArray, List.set_cons_zero, List.set_cons_succ]
      -- 3: Op.fieldAddr 47 (Operand.tmp 22) 3
      refine' anyZ_pure (i := 3) (v := _) rfl (by rfl) (by kernel_rfl) (by kernel_rfl) (by kernel_rfl) hcl3 (fun _ _ _ h => h) (Or.inl ⟨by rfl, fun w _ => ?hc4⟩) (fun _ => hHeld) (fun hcl4 => ?rc4)
      case hc4 => (simp only [List.getElem_toArray, List.getElem_cons_succ, List.getElem_cons_zero]; first | (go_simp; with_reducible rfl) | (go_simp; done) | rfl)
      simp only [List.getElem_toArray, List.getElem_cons_succ, List.getElem_cons_zero, Act.put, List.setIfInBounds_toArray, List.set_cons_zero, List.set_cons_succ]
      -- 4: Op.load 4 (Operand.tmp 23)
      refine' anyZ_take (i := 4) (v := _) rfl (by rfl) (by kernel_rfl) (by kernel_rfl) (by kernel_rfl) hcl4 13 (by kernel_rfl) (by kernel_rfl) (fun _ _ _ h => h) (Or.inl ⟨by rfl, fun w hSw => ?hc5⟩) hHeld (fun hcl5 => ?rc5)
      case hc5 => (simp only [List.getElem_toArray, List.getElem_cons_succ, List.getElem_cons_zero]; obtain ⟨hSi, hS3, hS4⟩ := hSw; obtain ⟨hS1, hS2⟩ := hI _ hSi; first | (go_simp; with_reducible rfl) | (go_simp; done) | rfl)
      simp only [List.getElem_toArray, List.getElem_cons_succ, List.getElem_cons_zero, Act.put, List.setIfInBounds_toArray, List.set_cons_zero, List.set_cons_succ]
      -- 5: Op.move (Operand.tmp 24)
      refine' anyZ_pure (i := 5) (v := _) rfl (by rfl) (by kernel_rfl) (by kernel_rfl) (by kernel_rfl) hcl5 (fun _ _ _ h => h) (Or.inl ⟨by rfl, fun w _ => ?hc6⟩) (fun _ => hHeld) (fun hcl6 => ?rc6)
      case hc6 => (simp only [List.getElem_toArray, List.getElem_cons_succ, List.getElem_cons_zero]; first | (go_simp; with_reducible rfl) | (go_simp; done) | rfl)
      simp only [List.getElem_toArray, List.getElem_cons_succ, List.getElem_cons_zero, Act.put, List.setIfInBounds_toArray, List.set_cons_zero, List.set_cons_succ]
      -- 6: Op.load 48 (Operand.tmp 1)
      refine' anyZ_take (i := 6) (v := _) rfl (by rfl) (by kernel_rfl) (by kernel_rfl) (by kernel_rfl) hcl6 13 (by kernel_rfl) (by kernel_rfl) (fun _ _ _ h => h) (Or.inl ⟨by rfl, fun w hSw => ?hc7⟩) hHeld (fun hcl7 => ?rc7)
      case hc7 => (simp only [List.getElem_toArray, List.getElem_cons_succ, List.getElem_cons_zero]; obtain ⟨hSi, hS3, hS4⟩ := hSw; obtain ⟨hS1, hS2⟩ := hI _ hSi; first | (go_simp; with_reducible rfl) | (go_simp; done) | rfl)
      simp only [List.getElem_toArray, List.getElem_cons_succ, List.getElem_cons_zero, Act.put, List.setIfInBounds_toArray, List.set_cons_zero, List.set_cons_succ]
      -- 7: Op.nilCheck (Operand.tmp 26)
      refine' anyZ_pure (i := 7) (v := _) rfl (by rfl) (by kernel_rfl) (by kernel_rfl) (by kernel_rfl) hcl7 (fun _ _ _ h => h) (Or.inl ⟨by rfl, fun w _ => ?hc8⟩) (fun _ => hHeld) (fun hcl8 => ?rc8)
      case hc8 => (simp only [List.getElem_toArray, List.getElem_cons_succ, List.getElem_cons_zero]; first | (go_simp; with_reducible rfl) | (go_simp; done) | rfl)
      simp only [List.getElem_toArray, List.getElem_cons_succ, List.getElem_cons_zero, Act.put, List.setIfInBounds_toArray, List.set_cons_zero, List.set_cons_succ]
      -- 8: Op.fieldAddr 74 (Operand.tmp 27) 0
      refine' anyZ_pure (i := 8) (v := _) rfl (by rfl) (by kernel_rfl) (by kernel_rfl) (by kernel_rfl) hcl8 (fun _ _ _ h => h) (Or.inl ⟨by rfl, fun w _ => ?hc9⟩) (fun _ => hHeld) (fun hcl9 => ?rc9)
      case hc9 => (simp only [List.getElem_toArray, List.getElem_cons_succ, List.getElem_cons_zero]; first | (go_simp; with_reducible rfl) | (go_simp; done) | rfl)
      simp only [List.getElem_toArray, List.getElem_cons_succ, List.getElem_cons_zero, Act.put, List.setIfInBounds_toArray, List.set_cons_zero, List.set_cons_succ]
      -- 9: Op.fieldAddr 38 (Operand.tmp 28) 2
      refine' anyZ_pure (i := 9) (v := _) rfl (by rfl) (by kernel_rfl) (by kernel_rfl) (by kernel_rfl) hcl9 (fun _ _ _ h => h) (Or.inl ⟨by rfl, fun w _ => ?hc10⟩) (fun _ => hHeld) (fun hcl10 => ?rc10)
      case hc10 => (simp only [List.getElem_toArray, List.getElem_cons_succ, List.getElem_cons_zero]; first | (go_simp; with_reducible rfl) | (go_simp; done) | rfl)
      simp only [List.getElem_toArray, List.getElem_cons_succ, List.getElem_cons_zero, Act.put, List.setIfInBounds_toArray, List.set_cons_zero, List.set_cons_succ]
      -- 10: Op.load 2 (Operand.tmp 29)
      refine' anyZ_take (i := 10) (v := _) rfl (by rfl) (by kernel_rfl) (by kernel_rfl) (by kernel_rfl) hcl10 13 (by kernel_rfl) (by kernel_rfl) (fun _ _ _ h => h) (Or.inl ⟨by rfl, fun w hSw => ?hc11⟩) hHeld (fun hcl11 => ?rc11)
      case hc11 => (simp only [List.getElem_toArray, List.getElem_cons_succ, List.getElem_cons_zero]; obtain ⟨hSi, hS3, hS4⟩ := hSw; obtain ⟨hS1, hS2⟩ := hI _ hSi; first | (go_simp; with_reducible rfl) | (go_simp; done) | rfl)
      simp only [List.getElem_toArray, List.getElem_cons_succ, List.getElem_cons_zero, Act.put, List.setIfInBounds_toArray, List.set_cons_zero, List.set_cons_succ]
      -- 11: Op.binOp BinOp.eql 2 (Operand.tmp 30) (Operand.const (Value.
      refine' anyZ_pure (i := 11) (v := _) rfl (by rfl) (by kernel_rfl) (by kernel_rfl) (by kernel_rfl) hcl11 (fun _ _ _ h => h) (Or.inl ⟨by rfl, fun w _ => ?hc12⟩) (fun _ => hHeld) (fun hcl12 => ?rc12)
      case hc12 => (simp only [List.getElem_toArray, List.getElem_cons_succ, List.getElem_cons_zero]; first | (go_simp; with_reducible rfl) | (go_simp; done) | rfl)
      simp only [List.getElem_toArray, List.getElem_cons_succ, List.getElem_cons_zero, Act.put, List.setIfInBounds_toArray, List.set_cons_zero, List.set_cons_succ]
      -- 12: Op.pick (Operand.tmp 25) (Operand.const (Value.bool true)) (
      refine' anyZ_pure (i := 12) (v := _) rfl (by rfl) (by kernel_rfl) (by kernel_rfl) (by kernel_rfl) hcl12 (fun _ _ _ h => h) (Or.inl ⟨by rfl, fun w _ => ?hc13⟩) (fun _ => hHeld) (fun hcl13 => ?rc13)
      case hc13 => (simp only [List.getElem_toArray, List.getElem_cons_succ, List.getElem_cons_zero]; first | (go_simp; with_reducible rfl) | (go_simp; done) | rfl)
      simp only [List.getElem_toArray, List.getElem_cons_succ, List.getElem_cons_zero, Act.put, List.setIfInBounds_toArray, List.set_cons_zero, List.set_cons_succ]
      clear hHeld
      refine anyZ_chain_at (by kernel_rfl) ?_
      simp only [List.drop_succ_cons, List.drop_zero]
      have g3d := HS3.2.1
      clear HS3
      go_wp2_with fail
      go_meet
      refine Lib.hid (HFIN.out _ ?_)
      rw [← HB2.out, Bool.eq_iff_iff]
      simp
  case rest =>
    have HN6 := Lib.hid (hcut.out.below (bdr (bre wc)))
    have HMU2 : Hid (muOf ts S2 ≤ n) := Lib.hid (by
      have h1 := HMU.out
      have h2 := HFWD.out
      rw [HSS.out]
      unfold muOf at h1 ⊢
      rw [HNB.out] at h1
      simp only [Bool.false_eq_true, if_false] at h1
      split <;> (try dsimp only) <;> omega)
    have HOK2 : Hid (Gr.Okw ts S2) := Lib.hid (by
      have h1 := HOKA.out
      rw [HSS.out]
      refine ⟨h1.deep, by have := h1.pos; have := h1.deep; show A.2.pos + 1 ≤ _ + (92 - A.2.deep); omega, fun hb => ?_⟩
      replace hb : (A.2.bad || decide (o = 0)) = false := hb
      simp only [Bool.or_eq_false_iff, decide_eq_false_iff_not] at hb
      show A.2.pos + 1 ≤ ts.length
      by_cases hp : A.2.pos < ts.length
      · omega
      · exfalso
        apply hb.2
        have h2 : Gr.now ts A.2 = ⟨0, [], 0⟩ := by unfold Gr.now; rw [hb.1, List.getElem?_eq_none (by omega)]; rfl
        rw [HO.out, HT.out, h2]
        exact Gr.ops_nil)
    clear hcut HN5 HMU
    go_upto_region 4 with fail
    refine region_anyZ (z := 5) (S := I) (by kernel_rfl) ?_
    refine anyZ_begin (fun hcl0 => ?_)
    refine anyZ_held (by exact HN6.out.holds) (fun hHeld => ?_)
    -- 0: Op.load 48 (Operand.tmp 1)
    refine' anyZ_take (i := 0) (v := _) rfl (by rfl) (by kernel_rfl) (by kernel_rfl) (by kernel_rfl) hcl0 8 (by kernel_rfl) (by kernel_rfl) (fun _ _ _ h => h) (Or.inl ⟨by rfl, fun w hSw => ?hy1⟩) hHeld (fun hcl1 => ?ry1)
    case hy1 => (simp only [List.getElem_toArray, List.getElem_cons_zero]; have hcw := hI _ hSw; obtain ⟨hS1, hS2⟩ := hcw; first | (go_simp; with_reducible rfl) | (go_simp; done) | rfl)
    simp only [List.getElem_toArray, List.getElem_cons_zero, Act.put, List.setIfInBounds_toArray, List.set_cons_zero, List.set_cons_succ]
    -- 1: Op.move (Operand.tmp 2)
    refine' anyZ_pure (i := 1) (v := _) rfl (by rfl) (by kernel_rfl) (by kernel_rfl) (by kernel_rfl) hcl1 (fun _ _ _ h => h) (Or.inl ⟨by rfl, fun w _ => ?hy2⟩) (fun _ => hHeld) (fun hcl2 => ?ry2)
    case hy2 => (simp only [List.getElem_toArray, List.getElem_cons_succ, List.getElem_cons_zero]; first | (go_simp; with_reducible rfl) | (go_simp; done) | rfl)
    simp only [List.getElem_toArray, List.getElem_cons_succ, List.getElem_cons_zero, Act.put, List.setIfInBounds_toArray, List.set_cons_zero, List.set_cons_succ]
    -- 2: Op.load 45 (Operand.tmp 0)
    refine' anyZ_take (i := 2) (v := _) rfl (by rfl) (by kernel_rfl) (by kernel_rfl) (by kernel_rfl) hcl2 8 (by kernel_rfl) (by kernel_rfl) (fun _ _ _ h => h) (Or.inl ⟨by rfl, fun w hSw => ?hy3⟩) hHeld (fun hcl3 => ?ry3)
    case hy3 => (simp only [List.getElem_toArray, List.getElem_cons_succ, List.getElem_cons_zero]; have hcw := hI _ hSw; obtain ⟨hS1, hS2⟩ := hcw; first | (go_simp; with_reducible rfl) | (go_simp; done) | rfl)
    simp only [List.getElem_toArray, List.getElem_cons_succ, List.getElem_cons_zero, Act.put, List.setIfInBounds_toArray, List.set_cons_zero, List.set_cons_succ]
    -- 3: Op.call { callee := Callee.value (Operand.func 49), args := 
    refine anyZ_one (i := 3) hcl3 (by kernel_rfl) (by simp only [List.getElem?_toArray, List.getElem?_cons_succ, List.getElem?_cons_zero]; rfl) (by rfl) (fun hcl4 K hK => ?_)
    go_simp
    refine (HIH.out S2 _ HMU2.out HOK2.out HN6.out.asks).mono ?_
    rintro e w6 ⟨v6, b6, rfl, hd6, hp6, ho6⟩
    obtain ⟨gb, rfl⟩ := hd6.ptr
    have HN7 := Lib.hid (HN6.out.got hp6 ho6 hd6)
    clear hd6 hp6 ho6
    refine hK _ _ (fun _ => ?_) ?_
    · exact HN7.out.holds
    clear hK K hHeld
    try simp only [Act.put, List.setIfInBounds_toArray, List.set_cons_zero, List.set_cons_succ]
    -- 4: Op.buildSlice 54 2 #[(0, Operand.tmp 36), (1, Operand.tmp 38
    refine anyZ_one (i := 4) hcl4 (by kernel_rfl) (by simp only [List.getElem?_toArray, List.getElem?_cons_succ, List.getElem?_cons_zero]; rfl) (by rfl) (fun hcl5 K hK => ?_)
    go_simp
    refine hK _ _ (fun _ => ?_) ?_
    · exact (HN7.out.below (bal (bre w6) _)).holds
    clear hK K
    try simp only [Act.put, List.setIfInBounds_toArray, List.set_cons_zero, List.set_cons_succ]
    refine anyZ_chain_at (by kernel_rfl) ?_
    simp only [List.drop_succ_cons, List.drop_zero]
    obtain ⟨Bt, hBt⟩ : ∃ Bt, Bt = Gr.expr ts n S2 := ⟨_, rfl⟩
    rw [← hBt] at HN7
    have HRES : Hid (R = ((o, [A.1, Bt.1]), Gr.want1 ts Bt.2 [41])) := Lib.hid (by
      have h1 : R = (((Gr.opNum (Gr.now ts (Gr.expr ts n s).2).text), [(Gr.expr ts n s).1, (Gr.expr ts n ⟨(Gr.expr ts n s).2.pos + 1, (Gr.expr ts n s).2.deep, (Gr.expr ts n s).2.bad || decide (Gr.opNum (Gr.now ts (Gr.expr ts n s).2).text = 0)⟩).1]), Gr.want1 ts (Gr.expr ts n ⟨(Gr.expr ts n s).2.pos + 1, (Gr.expr ts n s).2.deep, (Gr.expr ts n s).2.bad || decide (Gr.opNum (Gr.now ts (Gr.expr ts n s).2).text = 0)⟩).2 [41]) := HR.out
      rw [← HA.out, ← HT.out, ← HO.out, ← HSS.out, ← hBt] at h1
      exact h1)
    have hposB : Bt.2.pos + 1 ≤ 1000000000 := by
      rw [hBt]
      have hfew := HN6.out.pat.few
      cases hbd : S2.bad with
      | true =>
        rw [Gr.expr_bad hbd]
        have := HOK2.out.pos
        show S2.pos + 1 ≤ _
        omega
      | false =>
        have := ((Gr.expr_keeps (ts := ts) n).ok _ (HOK2.out.ok hbd)).pos
        omega
    have hn8 : NS I w0 ((w6.alloc (.cells #[.pointer (some ⟨ga, 0, none⟩), .pointer (some ⟨gb, 0, none⟩)] 47)).setCell ⟨gt, 8, none⟩ (.slice (some ⟨w6.heap.size, 0, none⟩) 2 2)) g ta tc ts B Bt.2 D gt k name (o : Nat) typ mod tgt [A.1, Bt.1] (w6.heap.size :: (([] ++ b1) ++ b6)) [] [] [] := HN7.out.rowed 2 rfl (by decide)
    obtain ⟨kv7, ps7, hrow7, -, -⟩ := (HN7.out.below (bal (bre w6) (.cells #[.pointer (some ⟨ga, 0, none⟩), .pointer (some ⟨gb, 0, none⟩)] 47))).box
    have hfz := fun i => frozen_of_row _ gt i _ _ hrow7
    have k8 := cell_of_row _ gt 8 _ _ _ hrow7
    clear hrow7 HN7 HN6 hBt
    go_upto_region 5 with fail
    generalize (w6.alloc (.cells #[.pointer (some ⟨ga, 0, none⟩), .pointer (some ⟨gb, 0, none⟩)] 47)).setCell ⟨gt, 8, none⟩ (.slice (some ⟨w6.heap.size, 0, none⟩) 2 2) = W8 at *
    have HN8 := Lib.hid hn8
    have c2 := (hI _ HN8.out.holds).2
    clear hfz k8 hn8
    go_wp2_with fail
    have hb5 := bal (bre W8) (.cells #[.string (mk8 [41])] 9)
    have hr5 := heap_alloc_new W8 (.cells #[.string (mk8 [41])] 9)
    have hng : W8.heap.size ≠ g := fun e => by have := (Array.getElem?_eq_some_iff.1 HN8.out.pat.row).1; omega
    have hn9 := HN8.out.below hb5
    refine (want_tok g ta tc ts Bt.2 [[41]] W8.heap.size 1 1 _ hn9.pat rfl (by omega) (fun j x hx => ?_) hng).mono ?_
    · match j, hx with
      | 0, hx => cases hx; exact cell_of_row _ _ 0 _ _ _ hr5
    rintro e w9 ⟨rfl, h9, ho9⟩
    have HN9 := Lib.hid (hn9.call h9 ho9)
    clear hb5 hr5 hng h9 ho9 HN8 c2 hn9
    go_wp2_with fail
    refine bodyPost_end (results_none rfl _ _ _) rfl ?_
    exact ⟨rfl, _, by rw [HRES.out]; exact HN9.out⟩
end Go.Proofs.YtljdphpbalioaaaGreatDoor
