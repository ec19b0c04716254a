/- Walk: another disk, the same. -/
import Derived.Test.YtkonjjanoifinaaDkCrash
namespace Go.Proofs.Ytkonjjanoifinaa
open Go.RowKit

def Dk.copied (d : Dk) : Dk := ⟨d.safe, d.wait, 0, false, 0⟩

set_option maxRecDepth 10000 in
set_option maxHeartbeats 1600000 in
theorem copy_ok (g : Nat) (d : Dk) (F : Nat → Prop) (w : World) (h : DiskAt w g d F) (hw : d.wait.length ≤ 1000000) :
    Calls Try.prog 16 #[.pointer (some ⟨g, 0, none⟩)] w fun e w' => ∃ gn F', e = .returned (.pointer (some ⟨gn, 0, none⟩)) ∧ DiskAt w' gn d.copied F' ∧ (∀ k, F' k → w.heap.size ≤ k) ∧ Below w.heap.size w w' := by
  have hgl := h.lt g h.g
  obtain ⟨h30, vs, vw, h31, h32, h33, h34⟩ := h
  obtain ⟨c0, c1, _, _, _, fr⟩ := row5 h31
  have hfew := h30.few
  have H30 := Lib.hid h30
  have H32 := Lib.hid h32
  have H33 := Lib.hid h33
  clear h31 h32 h33 h34 h30
  go_enter Try.func16, Try.ntmps16
  go_wp2
  refine region_anyZ (z := 9) (S := fun w' => w'.cell? ⟨g, 0, none⟩ = some vs ∧ w'.cell? ⟨g, 1, none⟩ = some vw) (by kernel_rfl) ?_
  refine anyZ_begin (fun hcl0 => ?_)
  refine anyZ_held (by exact ⟨c0, c1⟩) (fun hHeld => ?_)
  -- 0: Op.move (Operand.tmp 0)
  refine' anyZ_pure (i := 0) (v := _) rfl (by rfl) (by kernel_rfl) (by kernel_rfl) (by kernel_rfl) hcl0 (fun _ _ _ h => h) (Or.inl ⟨by rfl, fun w _ => ?h1⟩) (fun _ => hHeld) (fun hcl1 => ?r1)
  case h1 => (simp only [List.getElem_toArray, List.getElem_cons_zero]; first | (go_simp; with_reducible rfl) | (go_simp; done) | rfl)
  simp only [List.getElem_toArray, List.getElem_cons_zero, Act.put, List.setIfInBounds_toArray, List.set_cons_zero, List.set_cons_succ]
  -- 1: Op.nilCheck (Operand.tmp 5)
  refine' anyZ_pure (i := 1) (v := _) rfl (by rfl) (by kernel_rfl) (by kernel_rfl) (by kernel_rfl) hcl1 (fun _ _ _ h => h) (Or.inl ⟨by rfl, fun w _ => ?h2⟩) (fun _ => hHeld) (fun hcl2 => ?r2)
  case h2 => (simp only [List.getElem_toArray, List.getElem_cons_succ, List.getElem_cons_zero]; first | (go_simp; with_reducible rfl) | (go_simp; done) | rfl)
  simp only [List.getElem_toArray, List.getElem_cons_succ, List.getElem_cons_zero, Act.put, List.setIfInBounds_toArray, List.set_cons_zero, List.set_cons_succ]
  -- 2: Op.fieldAddr 63 (Operand.tmp 6) 0
  refine' anyZ_pure (i := 2) (v := _) rfl (by rfl) (by kernel_rfl) (by kernel_rfl) (by kernel_rfl) hcl2 (fun _ _ _ h => h) (Or.inl ⟨by rfl, fun w _ => ?h3⟩) (fun _ => hHeld) (fun hcl3 => ?r3)
  case h3 => (simp only [List.getElem_toArray, List.getElem_cons_succ, List.getElem_cons_zero]; first | (go_simp; with_reducible rfl) | (go_simp; done) | rfl)
  simp only [List.getElem_toArray, List.getElem_cons_succ, List.getElem_cons_zero, Act.put, List.setIfInBounds_toArray, List.set_cons_zero, List.set_cons_succ]
  -- 3: Op.load 60 (Operand.tmp 7)
  refine' anyZ_take (i := 3) (v := _) rfl (by rfl) (by kernel_rfl) (by kernel_rfl) (by kernel_rfl) hcl3 2 (by kernel_rfl) (by kernel_rfl) (fun _ _ _ h => h) (Or.inl ⟨by rfl, fun w hSw => ?h4⟩) hHeld (fun hcl4 => ?r4)
  case h4 => (simp only [List.getElem_toArray, List.getElem_cons_succ, List.getElem_cons_zero]; obtain ⟨hS1, hS2⟩ := hSw; first | (go_simp; with_reducible rfl) | (go_simp; done) | rfl)
  simp only [List.getElem_toArray, List.getElem_cons_succ, List.getElem_cons_zero, Act.put, List.setIfInBounds_toArray, List.set_cons_zero, List.set_cons_succ]
  -- 5: Op.move (Operand.tmp 0)
  refine' anyZ_pure (i := 5) (v := _) rfl (by rfl) (by kernel_rfl) (by kernel_rfl) (by kernel_rfl) hcl4 (fun _ _ _ h => h) (Or.inl ⟨by rfl, fun w _ => ?h5⟩) (fun _ => hHeld) (fun hcl5 => ?r5)
  case h5 => (simp only [List.getElem_toArray, List.getElem_cons_succ, List.getElem_cons_zero]; first | (go_simp; with_reducible rfl) | (go_simp; done) | rfl)
  simp only [List.getElem_toArray, List.getElem_cons_succ, List.getElem_cons_zero, Act.put, List.setIfInBounds_toArray, List.set_cons_zero, List.set_cons_succ]
  -- 6: Op.nilCheck (Operand.tmp 10)
  refine' anyZ_pure (i := 6) (v := _) rfl (by rfl) (by kernel_rfl) (by kernel_rfl) (by kernel_rfl) hcl5 (fun _ _ _ h => h) (Or.inl ⟨by rfl, fun w _ => ?h6⟩) (fun _ => hHeld) (fun hcl6 => ?r6)
  case h6 => (simp only [List.getElem_toArray, List.getElem_cons_succ, List.getElem_cons_zero]; first | (go_simp; with_reducible rfl) | (go_simp; done) | rfl)
  simp only [List.getElem_toArray, List.getElem_cons_succ, List.getElem_cons_zero, Act.put, List.setIfInBounds_toArray, List.set_cons_zero, List.set_cons_succ]
  -- 7: Op.fieldAddr 63 (Operand.tmp 11) 1
  refine' anyZ_pure (i := 7) (v := _) rfl (by rfl) (by kernel_rfl) (by kernel_rfl) (by kernel_rfl) hcl6 (fun _ _ _ h => h) (Or.inl ⟨by rfl, fun w _ => ?h7⟩) (fun _ => hHeld) (fun hcl7 => ?r7)
  case h7 => (simp only [List.getElem_toArray, List.getElem_cons_succ, List.getElem_cons_zero]; first | (go_simp; with_reducible rfl) | (go_simp; done) | rfl)
  simp only [List.getElem_toArray, List.getElem_cons_succ, List.getElem_cons_zero, Act.put, List.setIfInBounds_toArray, List.set_cons_zero, List.set_cons_succ]
  -- 8: Op.load 61 (Operand.tmp 12)
  refine' anyZ_take (i := 8) (v := _) rfl (by rfl) (by kernel_rfl) (by kernel_rfl) (by kernel_rfl) hcl7 2 (by kernel_rfl) (by kernel_rfl) (fun _ _ _ h => h) (Or.inl ⟨by rfl, fun w hSw => ?h8⟩) hHeld (fun hcl8 => ?r8)
  case h8 => (simp only [List.getElem_toArray, List.getElem_cons_succ, List.getElem_cons_zero]; obtain ⟨hS1, hS2⟩ := hSw; first | (go_simp; with_reducible rfl) | (go_simp; done) | rfl)
  simp only [List.getElem_toArray, List.getElem_cons_succ, List.getElem_cons_zero, Act.put, List.setIfInBounds_toArray, List.set_cons_zero, List.set_cons_succ]
  -- 4: Op.call { callee := Callee.value (Operand.func 32), args := 
  refine anyZ_one (i := 4) hcl8 (by kernel_rfl) (by simp only [List.getElem?_toArray, List.getElem?_cons_succ, List.getElem?_cons_zero]; rfl) (by rfl) (fun hcl9 K hK => ?_)
  go_simp
  refine (cloneS_any vs d.safe.length _ w.drew H32.out (by omega) (sec_all _)).mono ?_
  rintro e w1 ⟨v1, rfl, ho1, hb1⟩
  refine hK _ _ (fun _ => ?_) ?_
  · exact ⟨(hb1.cell (p := ⟨g, 0, none⟩) hgl).trans c0, (hb1.cell (p := ⟨g, 1, none⟩) hgl).trans c1⟩
  clear hK K hHeld
  try simp only [Act.put, List.setIfInBounds_toArray, List.set_cons_zero, List.set_cons_succ]
  refine anyZ_chain_at (by kernel_rfl) ?_
  simp only [List.drop_succ_cons, List.drop_zero]
  have ho33 := own_only H33.out (Only.of_below (show Below w.heap.size w w1 from ⟨hb1.os, hb1.tape, hb1.output, hb1.size, hb1.block⟩) (fun _ => False)) (fun _ _ => id)
  go_wp2_with fail
  refine (cloneW_any vw d.wait.length _ w1 ho33 (by omega) (wr_all _)).mono ?_
  rintro e w2 ⟨v2, rfl, ho2, hb2⟩
  obtain ⟨a1, c1', rfl, _⟩ := ownsRow_lies ho1
  obtain ⟨a2, c2', rfl, _⟩ := ownsRow_lies ho2
  have ho12 := own_only ho1 (Only.of_below hb2 (fun _ => False)) (fun _ _ => id)
  go_wp2
  go_ret
  have hb12 : Below w.heap.size w w2 := btr (btr (bdr (bre w)) hb1) hb2
  have hb3 := bal (bre w2) (.cells #[.slice a1 d.safe.length c1', .slice a2 d.wait.length c2', .int .i64 0, .bool false, .int .i64 0] 63)
  refine ⟨w2.heap.size, fun k => k = w2.heap.size ∨ (Value.slice a1 d.safe.length c1').ownBlock = some k ∨ (Value.slice a2 d.wait.length c2').ownBlock = some k, rfl,
    ⟨⟨H30.out.safe, H30.out.wait, H30.out.few⟩, _, _, heap_alloc_new w2 _, ownsRow_base (World.ownsRow.alloc ho12 _) (Nat.zero_le _), ownsRow_base (World.ownsRow.alloc ho2 _) (Nat.zero_le _), fun k => Iff.rfl⟩, ?_, btr hb12 hb3⟩
  rintro k (rfl | h | h)
  · exact hb12.size
  · exact (World.ownsRow.lt ho1 k h).1
  · exact Nat.le_trans (btr (bdr (bre w)) hb1).size (World.ownsRow.lt ho2 k h).1

set_option maxRecDepth 10000 in
theorem copy_nil (w : World) :
    Calls Try.prog 16 #[.pointer none] w fun e w' => e = .returned (.pointer none) ∧ w' = w := by
  go_enter Try.func16, Try.ntmps16
  go_wp2
  go_ret
  exact ⟨rfl, rfl⟩
end Go.Proofs.Ytkonjjanoifinaa
