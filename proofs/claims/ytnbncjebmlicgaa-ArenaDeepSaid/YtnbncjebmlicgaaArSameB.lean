/- Walk: Same of two arenas; the law's awake. -/
import Derived.Test.YtnbncjebmlicgaaArSame
namespace Go.Proofs.Ytnbncjebmlicgaa
open Go.RowKit

set_option maxRecDepth 10000 in
set_option maxHeartbeats 800000 in
theorem arsame_any (g b g2 b2 : Nat) (l m : List (Nat × Nd)) (w : World) (h : ArAt w g b l) (h2 : ArAt w g2 b2 m) :
    Calls Try.prog 28 #[.pointer (some ⟨g, 0, none⟩), .pointer (some ⟨g2, 0, none⟩)] w fun e w' => e = .returned (.bool (eqA l m)) ∧ Below w.heap.size w w' := by
  obtain ⟨R, hR⟩ : ∃ R, R = eqA l m := ⟨_, rfl⟩
  rw [← hR]
  have HR := Lib.hid hR
  have H := Lib.hid h
  have H2 := Lib.hid h2
  clear hR h h2
  go_enter Try.func28, Try.ntmps28
  go_upto_region 3 with fail
  refine region_anyZ (z := 9) (S := fun w' => (w'.cell? ⟨g, 0, none⟩ = some (.map (some b)) ∧ w'.cell? ⟨g2, 0, none⟩ = some (.map (some b2)))) (by kernel_rfl) ?_
  refine anyZ_begin (fun hcl0 => ?_)
  refine anyZ_held (by exact ⟨H.out.c0, H2.out.c0⟩) (fun hHeld => ?_)
  -- 0: Op.move (Operand.tmp 0)
  refine' anyZ_pure (i := 0) (v := _) rfl (by rfl) (by kernel_rfl) (by kernel_rfl) (by kernel_rfl) hcl0 (fun _ _ _ h => h) (Or.inl ⟨by rfl, fun w _ => ?hy1⟩) (fun _ => hHeld) (fun hcl1 => ?ry1)
  case hy1 => (simp only [List.getElem_toArray, List.getElem_cons_zero]; first | (go_simp; with_reducible rfl) | (go_simp; done) | rfl)
  simp only [List.getElem_toArray, List.getElem_cons_zero, Act.put, List.setIfInBounds_toArray, List.set_cons_zero, List.set_cons_succ]
  -- 1: Op.nilCheck (Operand.tmp 17)
  refine' anyZ_pure (i := 1) (v := _) rfl (by rfl) (by kernel_rfl) (by kernel_rfl) (by kernel_rfl) hcl1 (fun _ _ _ h => h) (Or.inl ⟨by rfl, fun w _ => ?hy2⟩) (fun _ => hHeld) (fun hcl2 => ?ry2)
  case hy2 => (simp only [List.getElem_toArray, List.getElem_cons_succ, List.getElem_cons_zero]; first | (go_simp; with_reducible rfl) | (go_simp; done) | rfl)
  simp only [List.getElem_toArray, List.getElem_cons_succ, List.getElem_cons_zero, Act.put, List.setIfInBounds_toArray, List.set_cons_zero, List.set_cons_succ]
  -- 2: Op.fieldAddr 70 (Operand.tmp 18) 0
  refine' anyZ_pure (i := 2) (v := _) rfl (by rfl) (by kernel_rfl) (by kernel_rfl) (by kernel_rfl) hcl2 (fun _ _ _ h => h) (Or.inl ⟨by rfl, fun w _ => ?hy3⟩) (fun _ => hHeld) (fun hcl3 => ?ry3)
  case hy3 => (simp only [List.getElem_toArray, List.getElem_cons_succ, List.getElem_cons_zero]; first | (go_simp; with_reducible rfl) | (go_simp; done) | rfl)
  simp only [List.getElem_toArray, List.getElem_cons_succ, List.getElem_cons_zero, Act.put, List.setIfInBounds_toArray, List.set_cons_zero, List.set_cons_succ]
  -- 3: Op.load 68 (Operand.tmp 19)
  refine' anyZ_take (i := 3) (v := _) rfl (by rfl) (by kernel_rfl) (by kernel_rfl) (by kernel_rfl) hcl3 6 (by kernel_rfl) (by kernel_rfl) (fun _ _ _ h => h) (Or.inl ⟨by rfl, fun w hSw => ?hy4⟩) hHeld (fun hcl4 => ?ry4)
  case hy4 => (simp only [List.getElem_toArray, List.getElem_cons_succ, List.getElem_cons_zero]; obtain ⟨hS1, hS2⟩ := hSw; first | (go_simp; with_reducible rfl) | (go_simp; done) | rfl)
  simp only [List.getElem_toArray, List.getElem_cons_succ, List.getElem_cons_zero, Act.put, List.setIfInBounds_toArray, List.set_cons_zero, List.set_cons_succ]
  -- 4: Op.move (Operand.tmp 1)
  refine' anyZ_pure (i := 4) (v := _) rfl (by rfl) (by kernel_rfl) (by kernel_rfl) (by kernel_rfl) hcl4 (fun _ _ _ h => h) (Or.inl ⟨by rfl, fun w _ => ?hy5⟩) (fun _ => hHeld) (fun hcl5 => ?ry5)
  case hy5 => (simp only [List.getElem_toArray, List.getElem_cons_succ, List.getElem_cons_zero]; first | (go_simp; with_reducible rfl) | (go_simp; done) | rfl)
  simp only [List.getElem_toArray, List.getElem_cons_succ, List.getElem_cons_zero, Act.put, List.setIfInBounds_toArray, List.set_cons_zero, List.set_cons_succ]
  -- 5: Op.nilCheck (Operand.tmp 21)
  refine' anyZ_pure (i := 5) (v := _) rfl (by rfl) (by kernel_rfl) (by kernel_rfl) (by kernel_rfl) hcl5 (fun _ _ _ h => h) (Or.inl ⟨by rfl, fun w _ => ?hy6⟩) (fun _ => hHeld) (fun hcl6 => ?ry6)
  case hy6 => (simp only [List.getElem_toArray, List.getElem_cons_succ, List.getElem_cons_zero]; first | (go_simp; with_reducible rfl) | (go_simp; done) | rfl)
  simp only [List.getElem_toArray, List.getElem_cons_succ, List.getElem_cons_zero, Act.put, List.setIfInBounds_toArray, List.set_cons_zero, List.set_cons_succ]
  -- 6: Op.fieldAddr 70 (Operand.tmp 22) 0
  refine' anyZ_pure (i := 6) (v := _) rfl (by rfl) (by kernel_rfl) (by kernel_rfl) (by kernel_rfl) hcl6 (fun _ _ _ h => h) (Or.inl ⟨by rfl, fun w _ => ?hy7⟩) (fun _ => hHeld) (fun hcl7 => ?ry7)
  case hy7 => (simp only [List.getElem_toArray, List.getElem_cons_succ, List.getElem_cons_zero]; first | (go_simp; with_reducible rfl) | (go_simp; done) | rfl)
  simp only [List.getElem_toArray, List.getElem_cons_succ, List.getElem_cons_zero, Act.put, List.setIfInBounds_toArray, List.set_cons_zero, List.set_cons_succ]
  -- 7: Op.load 68 (Operand.tmp 23)
  refine' anyZ_take (i := 7) (v := _) rfl (by rfl) (by kernel_rfl) (by kernel_rfl) (by kernel_rfl) hcl7 6 (by kernel_rfl) (by kernel_rfl) (fun _ _ _ h => h) (Or.inl ⟨by rfl, fun w hSw => ?hy8⟩) hHeld (fun hcl8 => ?ry8)
  case hy8 => (simp only [List.getElem_toArray, List.getElem_cons_succ, List.getElem_cons_zero]; obtain ⟨hS1, hS2⟩ := hSw; first | (go_simp; with_reducible rfl) | (go_simp; done) | rfl)
  simp only [List.getElem_toArray, List.getElem_cons_succ, List.getElem_cons_zero, Act.put, List.setIfInBounds_toArray, List.set_cons_zero, List.set_cons_succ]
  -- 8: Op.call { callee := Callee.value (Operand.func 46), args := 
  refine anyZ_one (i := 8) hcl8 (by kernel_rfl) (by simp only [List.getElem?_toArray, List.getElem?_cons_succ, List.getElem?_cons_zero]; rfl) (by rfl) (fun hcl9 K hK => ?_)
  go_simp
  refine (areqf_any g b g2 b2 l m _ (H.out.below (bdr (bre w))) (H2.out.below (bdr (bre w)))).mono ?_
  rintro e w5 ⟨rfl, hb5⟩
  rw [← HR.out]
  have HB5 := Lib.hid (btr (bdr (bre w)) hb5)
  clear hb5
  refine hK _ _ (fun _ => ?_) ?_
  · exact ⟨(H.out.below HB5.out).c0, (H2.out.below HB5.out).c0⟩
  clear hK K hHeld
  try simp only [Act.put, List.setIfInBounds_toArray, List.set_cons_zero, List.set_cons_succ]
  refine anyZ_chain_at (by kernel_rfl) ?_
  simp only [List.drop_succ_cons, List.drop_zero]
  go_wp2_with fail
  go_ret
  exact ⟨rfl, HB5.out⟩

def ndMod : Nd := ⟨2, ⟨#[]⟩, 0, 0, 0, []⟩
theorem ndMod_ok : ndMod.Ok := ⟨by decide, by decide, by decide, by decide, Nat.zero_le _, Nat.zero_le _, fun x hx => by cases hx⟩

set_option maxRecDepth 10000 in
set_option maxHeartbeats 1600000 in
theorem awake_any (w : World) : Calls Try.prog 8 #[] w fun e w' => e = .returned (.bool true) ∧ Below w.heap.size w w' := by
  go_enter Try.func8, Try.ntmps8
  go_wp2_with fail
  refine (arnew_any w).mono ?_
  rintro e w1 ⟨g, b, rfl, h1, hg1, hb1', hb1⟩
  have H1 := Lib.hid h1
  have HG := Lib.hid (And.intro hg1 hb1')
  have HB1 := Lib.hid hb1
  clear h1 hg1 hb1' hb1
  go_wp2_with fail
  refine (arroot_any g w1).mono ?_
  rintro e w0 ⟨rfl, hw⟩
  have hw' := hw.symm
  subst hw'
  clear hw
  go_wp2_with fail
  refine (artree_any g b _ w1 H1.out).mono ?_
  rintro e w2 ⟨rfl, hb2⟩
  rw [show treeOf [(1, Nd.prog)] = true from by decide]
  have H2 := Lib.hid (H1.out.below hb2)
  have HB2 := Lib.hid (btr HB1.out hb2)
  clear hb2 H1 HB1
  go_wp2_with fail
  refine (arput_ok g b _ 2 _ ndMod w2 H2.out ⟨.slice none 0 0, rfl, (OwnIds.nil w2 0).ids, ndMod_ok⟩ (by decide) (by decide) (.inr (by decide))).mono ?_
  rintro e w3 ⟨rfl, h3, ho3⟩
  have HB3 : Hid (Below w.heap.size w w3) := Lib.hid (HB2.out.trans (ho3.below w.heap.size HB2.out.size fun i hi e => by have := HG.out.2; omega))
  have H3 := Lib.hid h3
  clear h3 ho3 H2 HB2
  go_wp2_with fail
  refine (artree_any g b _ w3 H3.out).mono ?_
  rintro e w4 ⟨rfl, hb4⟩
  rw [show treeOf (putA [(1, Nd.prog)] 2 ndMod) = false from by decide]
  have H4 := Lib.hid (H3.out.below hb4)
  have HB4 := Lib.hid (btr HB3.out hb4)
  clear hb4 H3 HB3
  go_wp2_with fail
  refine (arlen_any g b _ w4 H4.out).mono ?_
  rintro e w5 ⟨rfl, hw⟩
  have hw' := hw.symm
  subst hw'
  clear hw
  rw [show (putA [(1, Nd.prog)] 2 ndMod).length = 2 from by decide]
  go_wp2_with fail
  go_ret
  exact ⟨rfl, HB4.out⟩
end Go.Proofs.Ytnbncjebmlicgaa
