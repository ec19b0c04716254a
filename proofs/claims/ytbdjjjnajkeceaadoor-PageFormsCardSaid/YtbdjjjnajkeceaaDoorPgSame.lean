/- PageSame, the walk. -/
import Derived.Test.YtbdjjjnajkeceaaDoorAwake3
namespace Go.Proofs.YtbdjjjnajkeceaaDoor
open Go.RowKit

/-- five cells of a page -/
def Row5 (w : World) (n : Nat) (p : Pg) (v : Value) : Prop := w.heap[n]? = some (.cells #[.int .u32 p.gen, .int .u32 p.serial, .int .u32 p.number, .int .u8 p.kind, v] 25 (0, 0))
theorem Row5.below {w w' : World} {n : Nat} {p : Pg} {v : Value} (h : Row5 w n p v) (hb : Below w.heap.size w w') : Row5 w' n p v := (hb.block n (Array.getElem?_eq_some_iff.1 h).1).trans h
theorem Row5.lt {w : World} {n : Nat} {p : Pg} {v : Value} (h : Row5 w n p v) : n < w.heap.size := (Array.getElem?_eq_some_iff.1 h).1
theorem Row5.only {w w' : World} {n : Nat} {p : Pg} {v : Value} {S : Nat → Prop} (h : Row5 w n p v) (ho : Only w w' S) (hn : ¬ S n) : Row5 w' n p v := (ho.block n h.lt hn).trans h
theorem Row5.c0 {w : World} {n : Nat} {p : Pg} {v : Value} (h : Row5 w n p v) : w.cell? ⟨n, 0, none⟩ = some (.int .u32 p.gen) := cell_of_row w n 0 _ _ _ h
theorem Row5.c1 {w : World} {n : Nat} {p : Pg} {v : Value} (h : Row5 w n p v) : w.cell? ⟨n, 1, none⟩ = some (.int .u32 p.serial) := cell_of_row w n 1 _ _ _ h
theorem Row5.c2 {w : World} {n : Nat} {p : Pg} {v : Value} (h : Row5 w n p v) : w.cell? ⟨n, 2, none⟩ = some (.int .u32 p.number) := cell_of_row w n 2 _ _ _ h
theorem Row5.c3 {w : World} {n : Nat} {p : Pg} {v : Value} (h : Row5 w n p v) : w.cell? ⟨n, 3, none⟩ = some (.int .u8 p.kind) := cell_of_row w n 3 _ _ _ h
theorem Row5.c4 {w : World} {n : Nat} {p : Pg} {v : Value} (h : Row5 w n p v) : w.cell? ⟨n, 4, none⟩ = some v := cell_of_row w n 4 _ _ _ h
theorem Row5.fz {w : World} {n : Nat} {p : Pg} {v : Value} (h : Row5 w n p v) (i : Nat) : w.frozen? ⟨n, i, none⟩ = false := frozen_of_row w n i _ _ h

theorem pgSame_self (a : Pg) : pgSame a a = true := by simp [pgSame]

set_option maxRecDepth 10000 in
set_option maxHeartbeats 3200000 in
theorem pageSame_calls (va vb : Value) (a b : Pg) (w : World) (ha : Bytes w va a.data) (hb : Bytes w vb b.data) :
    Calls Tryd.prog 5 #[PgVal a va, PgVal b vb] w fun e w' => e = .returned (.bool true) ∧ Below w.heap.size w w' := by
  have HA := Lib.hid ha
  have HB := Lib.hid hb
  unfold PgVal
  obtain ⟨aa, ca, rfl, -, -, -, -⟩ := id ha
  obtain ⟨ab, cb, rfl, -, -, -, -⟩ := id hb
  clear ha hb
  obtain ⟨la, hla⟩ : ∃ l, l = a.data.length := ⟨_, rfl⟩
  obtain ⟨lb, hlb⟩ : ∃ l, l = b.data.length := ⟨_, rfl⟩
  rw [← hla] at HA ⊢
  rw [← hlb] at HB ⊢
  clear hla hlb
  go_enter Tryd.func5, Tryd.ntmps5
  go_wp2_with fail
  obtain ⟨hr1, hr2⟩ := box_two w (.cells #[.int .u32 a.gen, .int .u32 a.serial, .int .u32 a.number, .int .u8 a.kind, .slice aa la ca] 25) (.cells #[.int .u32 b.gen, .int .u32 b.serial, .int .u32 b.number, .int .u8 b.kind, .slice ab lb cb] 25)
  have hb0 := bal (bal (bre w) (.cells #[.int .u32 a.gen, .int .u32 a.serial, .int .u32 a.number, .int .u8 a.kind, .slice aa la ca] 25)) (.cells #[.int .u32 b.gen, .int .u32 b.serial, .int .u32 b.number, .int .u8 b.kind, .slice ab lb cb] 25)
  generalize (w.alloc (.cells #[.int .u32 a.gen, .int .u32 a.serial, .int .u32 a.number, .int .u8 a.kind, .slice aa la ca] 25)).alloc (.cells #[.int .u32 b.gen, .int .u32 b.serial, .int .u32 b.number, .int .u8 b.kind, .slice ab lb cb] 25) = W at *
  obtain ⟨n2, hn2⟩ : ∃ n, n = w.heap.size := ⟨_, rfl⟩
  rw [← hn2] at hr1 hr2 ⊢
  obtain ⟨n3, hn3⟩ : ∃ n, n = n2 + 1 := ⟨_, rfl⟩
  rw [← hn3] at hr2
  try rw [← hn3]
  have HN2 := Lib.hid hn2
  have HN3 := Lib.hid hn3
  have HR1 : Hid (Row5 W n2 a (.slice aa la ca)) := Lib.hid hr1
  have HR2 : Hid (Row5 W n3 b (.slice ab lb cb)) := Lib.hid hr2
  have HA0 := Lib.hid (HA.out.below hb0)
  have HB0 := Lib.hid (HB.out.below hb0)
  have HBW := Lib.hid hb0
  clear hn2 hn3 hr1 hr2 hb0 HA HB
  refine (awake_any W).mono ?_
  rintro e w1 ⟨rfl, hb1⟩
  have HR3 := Lib.hid (HR1.out.below hb1)
  have HR4 := Lib.hid (HR2.out.below hb1)
  have HA1 := Lib.hid (HA0.out.below hb1)
  have HB1 := Lib.hid (HB0.out.below hb1)
  have HBW1 := Lib.hid (HBW.out.trans (hb1.mono HBW.out.size))
  clear hb1 HR1 HR2 HA0 HB0 HBW
  obtain ⟨A, hA⟩ : ∃ A, A = a.cut 520 := ⟨_, rfl⟩
  obtain ⟨B, hB⟩ : ∃ B, B = b.cut 520 := ⟨_, rfl⟩
  have HAA := Lib.hid hA
  have HBB := Lib.hid hB
  clear hA hB
  go_upto_region 3 with fail
  refine region_anyZ (z := 4) (S := fun w' => Row5 w' n2 a (.slice aa la ca) ∧ Row5 w' n3 b (.slice ab lb cb)) (by kernel_rfl) ?_
  refine anyZ_begin (fun hcl0 => ?_)
  refine anyZ_held (by exact ⟨HR3.out.below (bdr (bre w1)), HR4.out.below (bdr (bre w1))⟩) (fun hHeld => ?_)
  -- 0: Op.load 25 (Operand.tmp 2)
  refine' anyZ_take (i := 0) (v := _) rfl (by rfl) (by kernel_rfl) (by kernel_rfl) (by kernel_rfl) hcl0 5 (by kernel_rfl) (by kernel_rfl) (fun _ _ _ h => h) (Or.inl ⟨by rfl, fun w hSw => ?h1⟩) hHeld (fun hcl1 => ?r1)
  case h1 => (simp only [List.getElem_toArray, List.getElem_cons_zero]; obtain ⟨hS1, hS2⟩ := hSw; have e0 := hS1.c0; have e1 := hS1.c1; have e2 := hS1.c2; have e3 := hS1.c3; have e4 := hS1.c4; have i0 := hS2.c0; have i1 := hS2.c1; have i2 := hS2.c2; have i3 := hS2.c3; have i4 := hS2.c4; first | (go_simp; with_reducible rfl) | (go_simp; done) | rfl)
  simp only [List.getElem_toArray, List.getElem_cons_zero, Act.put, List.setIfInBounds_toArray, List.set_cons_zero, List.set_cons_succ]
  -- 2: Op.load 25 (Operand.tmp 3)
  refine' anyZ_take (i := 2) (v := _) rfl (by rfl) (by kernel_rfl) (by kernel_rfl) (by kernel_rfl) hcl1 5 (by kernel_rfl) (by kernel_rfl) (fun _ _ _ h => h) (Or.inl ⟨by rfl, fun w hSw => ?h2⟩) hHeld (fun hcl2 => ?r2)
  case h2 => (simp only [List.getElem_toArray, List.getElem_cons_succ, List.getElem_cons_zero]; obtain ⟨hS1, hS2⟩ := hSw; have e0 := hS1.c0; have e1 := hS1.c1; have e2 := hS1.c2; have e3 := hS1.c3; have e4 := hS1.c4; have i0 := hS2.c0; have i1 := hS2.c1; have i2 := hS2.c2; have i3 := hS2.c3; have i4 := hS2.c4; first | (go_simp; with_reducible rfl) | (go_simp; done) | rfl)
  simp only [List.getElem_toArray, List.getElem_cons_succ, List.getElem_cons_zero, Act.put, List.setIfInBounds_toArray, List.set_cons_zero, List.set_cons_succ]
  -- 1: Op.call { callee := Callee.value (Operand.func 9), args := #
  refine anyZ_one (i := 1) hcl2 (by kernel_rfl) (by simp only [List.getElem?_toArray, List.getElem?_cons_succ, List.getElem?_cons_zero]; rfl) (by rfl) (fun hcl3 K hK => ?_)
  go_simp
  refine (few_any (.slice aa la ca) a _ (HA1.out.below (bdr (bre w1)))).mono ?_
  rintro e w2 ⟨v2, rfl, ho2, hb2⟩
  have hb12 := btr (bdr (bre w1)) hb2
  rw [← HAA.out] at ho2 ⊢
  unfold PgVal
  obtain ⟨a2, m2, c2, rfl⟩ := ho2.isSlice
  have HB12 := Lib.hid hb12
  have HO2 := Lib.hid ho2
  clear ho2 hb12
  refine hK _ _ (fun _ => ?_) ?_
  · exact ⟨HR3.out.below HB12.out, HR4.out.below HB12.out⟩
  clear hK K hHeld
  have hHeld := (show Row5 w2 n2 a (.slice aa la ca) ∧ Row5 w2 n3 b (.slice ab lb cb) from ⟨HR3.out.below HB12.out, HR4.out.below HB12.out⟩)
  try simp only [Act.put, List.setIfInBounds_toArray, List.set_cons_zero, List.set_cons_succ]
  -- 3: Op.call { callee := Callee.value (Operand.func 9), args := #
  refine anyZ_one (i := 3) hcl3 (by kernel_rfl) (by simp only [List.getElem?_toArray, List.getElem?_cons_succ, List.getElem?_cons_zero]; rfl) (by rfl) (fun hcl4 K hK => ?_)
  go_simp
  refine (few_any (.slice ab lb cb) b _ (HB1.out.below HB12.out)).mono ?_
  rintro e w3 ⟨v3, rfl, ho3, hb3⟩
  have hb13 := HB12.out.trans (hb3.mono HB12.out.size)
  rw [← HBB.out] at ho3 ⊢
  unfold PgVal
  obtain ⟨a3, m3, c3, rfl⟩ := ho3.isSlice
  have ho2 := Own8.kept HO2.out (Nat.le_refl _) hb3
  have HB13 := Lib.hid hb13
  have HO3 := Lib.hid ho3
  have HO23 := Lib.hid ho2
  have HB3 := Lib.hid hb3
  clear ho3 hb13 ho2 HO2
  refine hK _ _ (fun _ => ?_) ?_
  · exact ⟨HR3.out.below HB13.out, HR4.out.below HB13.out⟩
  clear hK K hHeld
  try simp only [Act.put, List.setIfInBounds_toArray, List.set_cons_zero, List.set_cons_succ]
  refine anyZ_chain_at (by kernel_rfl) ?_
  simp only [List.drop_succ_cons, List.drop_zero]
  have hr1 := HR3.out.below HB13.out
  have hr2 := HR4.out.below HB13.out
  have z0 := hr1.c0
  have z1 := hr1.c1
  have z2 := hr1.c2
  have z3 := hr1.c3
  have z4 := hr1.c4
  have zf := hr1.fz
  have y0 := hr2.c0
  have y1 := hr2.c1
  have y2 := hr2.c2
  have y3 := hr2.c3
  have y4 := hr2.c4
  have yf := hr2.fz
  obtain ⟨q1, q2, q3⟩ := page_put A (.slice a2 m2 c2) hr1
  have hne : ¬ n3 = n2 := by have := HN3.out; omega
  have hr2' : Row5 _ n3 b (.slice ab lb cb) := hr2.only q2 hne
  obtain ⟨q4, q5, q6⟩ := page_put B (.slice a3 m3 c3) hr2'
  have hbw := q6 w.heap.size w (by have := HN3.out; have := HN2.out; omega) (q3 w.heap.size w (by have := HN2.out; omega) (HBW1.out.trans (HB13.out.mono HBW1.out.size)))
  have hl1 := HR3.out.lt
  have hl2 := HR4.out.lt
  have ho := (q2.mono (fun q _ h => (Or.inl h : q = n2 ∨ q = n3))).trans q5 (fun _ _ h => Or.inr h)
  have hoA := own_only HO23.out ho (fun k hk e => by
    have h1 := (World.ownsRow.lt HO23.out k hk).1
    have h2 : w1.heap.size ≤ k := h1
    rcases e with e | e <;> omega)
  have hoB := own_only HO3.out ho (fun k hk e => by
    have h1 := (World.ownsRow.lt HO3.out k hk).1
    have h2 := HB12.out.size
    rcases e with e | e <;> omega)
  have q1' : Row5 _ n2 A (.slice a2 m2 c2) := (show Row5 _ n2 A (.slice a2 m2 c2) from q1).only q5 (fun h => hne h.symm)
  have HQ1 := Lib.hid q1'
  have HQ4 : Hid (Row5 _ n3 B (.slice a3 m3 c3)) := Lib.hid q4
  have HBE := Lib.hid hbw
  have HYA := Lib.hid (Own8.bytes hoA)
  have HYB := Lib.hid (Own8.bytes hoB)
  clear hr1 hr2 hr2' q1 q1' q2 q3 q4 q5 q6 ho hoA hoB hbw hl1 hl2 HR3 HR4 HA1 HB1 HBW1 HB12 HB13 HO3 HO23 HB3 hb2 hb3 hcl0 hcl1 hcl2 hcl3 hcl4
  go_upto_region 4 with fail
  have hq1 := HQ1.out
  have hq4 := HQ4.out
  have hya := HYA.out
  have hyb := HYB.out
  have hbe := HBE.out
  clear HQ1 HQ4 HYA HYB HBE
  generalize ((((((((((w3.setCell ⟨n2, 0, none⟩ (.int .u32 A.gen)).setCell ⟨n2, 1, none⟩ (.int .u32 A.serial)).setCell ⟨n2, 2, none⟩ (.int .u32 A.number)).setCell ⟨n2, 3, none⟩ (.int .u8 A.kind)).setCell ⟨n2, 4, none⟩ (.slice a2 m2 c2)).setCell ⟨n3, 0, none⟩ (.int .u32 B.gen)).setCell ⟨n3, 1, none⟩ (.int .u32 B.serial)).setCell ⟨n3, 2, none⟩ (.int .u32 B.number)).setCell ⟨n3, 3, none⟩ (.int .u8 B.kind)).setCell ⟨n3, 4, none⟩ (.slice a3 m3 c3)) = W4 at *
  clear z0 z1 z2 z3 z4 zf y0 y1 y2 y3 y4 yf
  have HBE := Lib.hid hbe
  have HSB : Hid (∀ w', Below W4.heap.size W4 w' → (w'.cell? ⟨n2, 0, none⟩ = some (.int .u32 A.gen) ∧ w'.cell? ⟨n2, 1, none⟩ = some (.int .u32 A.serial) ∧ w'.cell? ⟨n2, 2, none⟩ = some (.int .u32 A.number) ∧ w'.cell? ⟨n2, 3, none⟩ = some (.int .u8 A.kind) ∧ w'.cell? ⟨n2, 4, none⟩ = some (.slice a2 m2 c2) ∧ w'.cell? ⟨n3, 0, none⟩ = some (.int .u32 B.gen) ∧ w'.cell? ⟨n3, 1, none⟩ = some (.int .u32 B.serial) ∧ w'.cell? ⟨n3, 2, none⟩ = some (.int .u32 B.number) ∧ w'.cell? ⟨n3, 3, none⟩ = some (.int .u8 B.kind) ∧ w'.cell? ⟨n3, 4, none⟩ = some (.slice a3 m3 c3))) := Lib.hid (fun w' hb => ⟨(hq1.below hb).c0, (hq1.below hb).c1, (hq1.below hb).c2, (hq1.below hb).c3, (hq1.below hb).c4, (hq4.below hb).c0, (hq4.below hb).c1, (hq4.below hb).c2, (hq4.below hb).c3, (hq4.below hb).c4⟩)
  have HSM : Hid (∀ w', Below W4.heap.size W4 w' → Calls Tryd.prog 23 #[.agg #[.int .u32 A.gen, .int .u32 A.serial, .int .u32 A.number, .int .u8 A.kind, .slice a2 m2 c2], .agg #[.int .u32 B.gen, .int .u32 B.serial, .int .u32 B.number, .int .u8 B.kind, .slice a3 m3 c3]] w' fun e w'' => e = .returned (.bool (pgSame A B)) ∧ Below w'.heap.size w' w'') := Lib.hid (fun w' hb => psame_any _ _ A B w' (PgAt.mk' (hya.below hb)) (PgAt.mk' (hyb.below hb)))
  have HSL : Hid (∀ w', Below W4.heap.size W4 w' → Calls Tryd.prog 23 #[.agg #[.int .u32 A.gen, .int .u32 A.serial, .int .u32 A.number, .int .u8 A.kind, .slice a2 m2 c2], .agg #[.int .u32 A.gen, .int .u32 A.serial, .int .u32 A.number, .int .u8 A.kind, .slice a2 m2 c2]] w' fun e w'' => e = .returned (.bool true) ∧ Below w'.heap.size w' w'') := Lib.hid (fun w' hb => (psame_any _ _ A A w' (PgAt.mk' (hya.below hb)) (PgAt.mk' (hya.below hb))).mono (fun e w2 h => ⟨by rw [h.1, pgSame_self], h.2⟩))
  have HLK : Hid (∀ w', Below W4.heap.size W4 w' → Calls Tryd.prog 20 #[.agg #[.int .u32 A.gen, .int .u32 A.serial, .int .u32 A.number, .int .u8 A.kind, .slice a2 m2 c2], .agg #[.int .u32 B.gen, .int .u32 B.serial, .int .u32 B.number, .int .u8 B.kind, .slice a3 m3 c3]] w' fun e w'' => e = .returned (.bool (pgSame A B)) ∧ Below w'.heap.size w' w'') := Lib.hid (fun w' hb => like_any _ _ A B w' (PgAt.mk' (hya.below hb)) (PgAt.mk' (hyb.below hb)))
  have HOW : Hid (∀ w', Below W4.heap.size W4 w' → Calls Tryd.prog 13 #[.agg #[.int .u32 B.gen, .int .u32 B.serial, .int .u32 B.number, .int .u8 B.kind, .slice a3 m3 c3]] w' fun e w'' => e = .returned (.agg #[.int .u32 B.gen, .int .u32 B.serial, .int .u32 B.number, .int .u8 B.kind, .slice a3 m3 c3]) ∧ Below w'.heap.size w' w'') := Lib.hid (fun w' hb => own_any _ B w' (hyb.below hb))
  obtain ⟨sab, hsab⟩ : ∃ s, s = pgSame A B := ⟨_, rfl⟩
  rw [← hsab] at HSM HLK
  clear hq1 hq4 hya hyb hbe hsab
  have hs0 := HSB.out W4 (bre W4)
  go_region_held3 (fun w' => (w'.cell? ⟨n2, 0, none⟩ = some (.int .u32 A.gen) ∧ w'.cell? ⟨n2, 1, none⟩ = some (.int .u32 A.serial) ∧ w'.cell? ⟨n2, 2, none⟩ = some (.int .u32 A.number) ∧ w'.cell? ⟨n2, 3, none⟩ = some (.int .u8 A.kind) ∧ w'.cell? ⟨n2, 4, none⟩ = some (.slice a2 m2 c2) ∧ w'.cell? ⟨n3, 0, none⟩ = some (.int .u32 B.gen) ∧ w'.cell? ⟨n3, 1, none⟩ = some (.int .u32 B.serial) ∧ w'.cell? ⟨n3, 2, none⟩ = some (.int .u32 B.number) ∧ w'.cell? ⟨n3, 3, none⟩ = some (.int .u8 B.kind) ∧ w'.cell? ⟨n3, 4, none⟩ = some (.slice a3 m3 c3))) (first | exact hs0 | (with_reducible exact HSB.out _ hbb4) | (with_reducible exact HSB.out _ hbb3) | (with_reducible exact HSB.out _ hbb2) | (with_reducible exact HSB.out _ hbb1) | exact HSB.out _ (bdr (bre W4))) (first | (go_at_call 13; refine (HOW.out _ hbb1).mono ?_; rintro e w6 ⟨rfl, hb6⟩; have hbb2 := btr hbb1 hb6) | (go_at_call 20; refine (HLK.out _ hbb2).mono ?_; rintro e w7 ⟨rfl, hb7⟩; have hbb3 := btr hbb2 hb7) | (go_at_call 23; refine (HSL.out _ hbb3).mono ?_; rintro e w8 ⟨rfl, hb8⟩; have hbb4 := btr hbb3 hb8) | (go_at_call 23; refine (HSM.out _ (bdr (bre W4))).mono ?_; rintro e w5 ⟨rfl, hb5⟩; have hbb1 := btr (bdr (bre W4)) hb5))
  clear hs0 HSM HLK HOW HSL HSB
  go_wp2_with fail
  go_ret
  exact ⟨rfl, HBE.out.trans (hbb4.mono HBE.out.size)⟩
end Go.Proofs.YtbdjjjnajkeceaaDoor
