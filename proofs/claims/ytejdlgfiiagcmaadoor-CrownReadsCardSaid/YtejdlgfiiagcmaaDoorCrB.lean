/- Crowns: what stands in a slot. -/
import Derived.Test.YtejdlgfiiagcmaaDoorCrA
import Derived.Test.YtejdlgfiiagcmaaDoorDkSync
import Derived.Test.YtejdlgfiiagcmaaDoorPreA
namespace Go.Proofs.YtejdlgfiiagcmaaDoor
open Go.RowKit

theorem anyZ_oneSkip {P : Program} {ops : Array Oper} {Q : Exit → Act → World → Prop} {md : Region.Mode} {S : World → Prop} {i z : Nat} {oi : Oper} {fuel : Nat} {listed : Array Bool} {a : Act} {w : World} (hcl : Closed md ops listed) (hr : Region.ready md ops listed = [i]) (hi : ops[i]? = some oi) (hg : Region.wanted oi (yielded ops a.tmps) = false)
    (hS : (listed.setIfInBounds i true).getD z true = false → S w) (h : Closed md ops (listed.setIfInBounds i true) → AnyZ P md ops Q S z fuel (listed.setIfInBounds i true) (a.put oi.dst undef) w) :
    AnyZ P md ops Q S z (fuel + 1) listed a w := by
  refine ⟨fun h0 => (by rw [hr] at h0; cases h0), fun j hj => ?_⟩
  rw [hr] at hj
  have hji : j = i := by simpa using hj
  subst hji
  unfold wpOp
  simp only [hi]
  rw [if_neg (by rw [hg]; decide)]
  exact ⟨hS, h (hcl.set (by rw [hr]; simp))⟩

/-- the crown that a page may be -/
def Pg.crown (p : Pg) : Cr := ⟨p.gen, (p.data.getD 0 0).toNat, p.serial⟩
/-- what stands in a slot -/
def atOf (b : List UInt8) (i : Nat) : Cr × Bool × Int :=
  if (parseOf b).1 = 3 then (.zero, false, 0)
  else if (parseOf b).1 ≠ 0 ∨ (parseOf b).2.data.length ≠ 1 ∨ 2 ≤ (parseOf b).2.crown.half then (.zero, false, 7)
  else if pgSame (parseOf b).2.crown.page (parseOf b).2 = false ∨ (parseOf b).2.crown.gen % 2 ≠ i then (.zero, false, 7)
  else ((parseOf b).2.crown, true, 0)

theorem cr_zero {x : World} {n : Nat} {c : Cr} (hc : Row3 x n c) :
    Row3 (((x.setCell ⟨n, 0, none⟩ (.int .u32 0)).setCell ⟨n, 1, none⟩ (.int .u8 0)).setCell ⟨n, 2, none⟩ (.int .u32 0)) n Cr.zero ∧
    ∀ B w, B ≤ n → Below B w x → Below B w (((x.setCell ⟨n, 0, none⟩ (.int .u32 0)).setCell ⟨n, 1, none⟩ (.int .u8 0)).setCell ⟨n, 2, none⟩ (.int .u32 0)) :=
  have h := cr_put Cr.zero hc
  ⟨h.1, h.2.2⟩

theorem cr_same (p : Pg) (h : p.data.length = 1) : p.crown.page = ⟨p.gen, p.serial, 0, 9, p.data⟩ := by
  obtain ⟨g, s, n, k, d⟩ := p
  match d, h with
  | [x], _ => simp [Pg.crown, Cr.page]

theorem parseOf_ok2 (q : List UInt8) (h : (parseOf q).1 = 0) : (parseOf q).2.Ok := by
  by_cases hl : q.length = 512
  · by_cases hz : noughts q
    · rw [parseOf_none q hl hz] at h; exact absurd h (by decide)
    · by_cases hs : q = seal8 (q.take 508)
      · by_cases hg : q.getD 14 0 = 0 ∨ 491 < lenOf q ∨ ¬ (q.take 2 = mark ∧ noughts ((q.take 508).drop (17 + lenOf q)))
        · rw [parseOf_form q hl hz hs hg] at h; exact absurd h (by decide)
        · rw [parseOf_ok q hl hz hs hg]
          have h4 : ∀ l : List UInt8, val (l.take 4) < 4294967296 := fun l => by
            match l.take 4, (show (l.take 4).length ≤ 4 by rw [List.length_take]; omega) with
            | [], _ => decide
            | [a], _ => have := a.toNat_lt; show 256 * 0 + a.toNat < _; omega
            | [a, b], _ => have := a.toNat_lt; have := b.toNat_lt; rw [val2]; omega
            | [a, b, c], _ => have := a.toNat_lt; have := b.toNat_lt; have := c.toNat_lt; show 256 * (256 * (256 * 0 + a.toNat) + b.toNat) + c.toNat < _; omega
            | [a, b, c, d], _ => have := a.toNat_lt; have := b.toNat_lt; have := c.toNat_lt; have := d.toNat_lt; rw [val4]; omega
            | a :: b :: c :: d :: e :: l, h => simp at h
          exact ⟨h4 _, h4 _, h4 _, ((q.take 508).getD 14 0).toNat_lt⟩
      · rw [parseOf_corrupt q hl hz hs] at h; exact absurd h (by decide)
  · rw [parseOf_arg q hl] at h; exact absurd h (by decide)

set_option linter.unusedSimpArgs false in
set_option maxRecDepth 10000 in
set_option maxHeartbeats 3200000 in
theorem at_ok (g : Nat) (d : Dk) (F : Nat → Prop) (i : Nat) (w : World) (h : DiskAt w g d F) (hi : i < d.safe.length) (hw : d.wait.length ≤ 1000000) :
    Calls Tryd.prog 36 #[.pointer (some ⟨g, 0, none⟩), .int .i64 i] w fun e w' => e = .returned (.tuple #[CrVal (atOf (d.now i) i).1, .bool (atOf (d.now i) i).2.1, .int .i64 (atOf (d.now i) i).2.2]) ∧ Below w.heap.size w w' := by
  obtain ⟨b, hb⟩ : ∃ b, b = d.now i := ⟨_, rfl⟩
  rw [← hb]
  obtain ⟨x, hx⟩ : ∃ x, x = atOf b i := ⟨_, rfl⟩
  rw [← hx]
  have HX := Lib.hid hx
  have HBN := Lib.hid hb
  have HD := Lib.hid h
  have HI := Lib.hid hi
  have HW := Lib.hid hw
  clear hb hx h hi hw
  go_enter Tryd.func36, Tryd.ntmps36
  go_wp2_with fail
  have hb1 := bal (bre w) (.cells #[.int .u32 0, .int .u8 0, .int .u32 0] 24)
  have hr1 := heap_alloc_new w (.cells #[.int .u32 0, .int .u8 0, .int .u32 0] 24)
  generalize w.alloc (.cells #[.int .u32 0, .int .u8 0, .int .u32 0] 24) = W at *
  obtain ⟨n4, hn4⟩ : ∃ n, n = w.heap.size := ⟨_, rfl⟩
  rw [← hn4] at hr1 ⊢
  have HN4 : Hid (w.heap.size ≤ n4) := Lib.hid (Nat.le_of_eq hn4.symm)
  have HB1 := Lib.hid hb1
  have HR1 : Hid (Row3 W n4 Cr.zero) := Lib.hid hr1
  have HD1 := Lib.hid (HD.out.below hb1)
  clear hb1 hr1 hn4 HD
  refine (dread_ok g d F i W HD1.out HI.out HW.out).mono ?_
  rintro e w2 ⟨v2, rfl, ho2, hb2⟩
  rw [← HBN.out] at ho2
  obtain ⟨a2, m2, c2, rfl⟩ := ho2.isSlice
  have HO2 := Lib.hid ho2
  have HB2 := Lib.hid (HB1.out.trans (hb2.mono HB1.out.size))
  have HR2 := Lib.hid (HR1.out.below hb2)
  clear ho2 hb2 HB1 HR1 HD1
  go_wp2_with fail
  refine (parse_any _ b w2 HO2.out.bytes).mono ?_
  rintro e w3 ⟨vd, rfl, hod, hb3⟩
  unfold PgVal
  have hcr : (parseOf b).1 = 0 → (parseOf b).2.Ok := parseOf_ok2 b
  obtain ⟨p, hp⟩ : ∃ p, p = (parseOf b).2 := ⟨_, rfl⟩
  obtain ⟨fe, hfe⟩ : ∃ fe, fe = (parseOf b).1 := ⟨_, rfl⟩
  rw [← hp] at hod hcr
  rw [← hfe] at hcr
  rw [← hp, ← hfe]
  obtain ⟨ad, cd, rfl, -, -, -, -⟩ := id hod.bytes
  obtain ⟨ld, hld⟩ : ∃ l, l = p.data.length := ⟨_, rfl⟩
  rw [← hld]
  have hyd : Bytes w3 (.slice ad ld cd) p.data := by rw [hld]; exact hod.bytes
  have HB3 := Lib.hid (HB2.out.trans (hb3.mono HB2.out.size))
  have HR3 := Lib.hid (HR2.out.below hb3)
  have HYD := Lib.hid hyd
  have HP := Lib.hid hp
  have HFE := Lib.hid hfe
  have HLD := Lib.hid hld
  have HCR := Lib.hid hcr
  clear hod hb3 hyd hp hfe hld hcr HO2 HB2 HR2
  go_upto_region 5 with fail
  have hb4 := bal (bre w3) (.cells #[.int .u32 p.gen, .int .u32 p.serial, .int .u32 p.number, .int .u8 p.kind, .slice ad ld cd] 84)
  have hr4 : Row5 _ w3.heap.size p (.slice ad ld cd) := heap_alloc_new w3 (.cells #[.int .u32 p.gen, .int .u32 p.serial, .int .u32 p.number, .int .u8 p.kind, .slice ad ld cd] 84)
  generalize w3.alloc (.cells #[.int .u32 p.gen, .int .u32 p.serial, .int .u32 p.number, .int .u8 p.kind, .slice ad ld cd] 84) = w4 at *
  obtain ⟨n9, hn9⟩ : ∃ n, n = w3.heap.size := ⟨_, rfl⟩
  rw [← hn9] at hr4 ⊢
  have HB4 := Lib.hid (HB3.out.trans (hb4.mono HB3.out.size))
  have HR4 := Lib.hid (HR3.out.below hb4)
  have HY4 := Lib.hid (HYD.out.below hb4)
  have HQ4 := Lib.hid hr4
  clear hb4 hr4 hn9 HB3 HR3 HYD
  by_cases h3 : fe = 3
  · subst h3
    have hat : atOf b i = (Cr.zero, false, 0) := by unfold atOf; rw [if_pos HFE.out.symm]
    have HAT := Lib.hid hat
    clear hat
    have z0 := HR4.out.c0
    have z1 := HR4.out.c1
    have z2 := HR4.out.c2
    have zf := HR4.out.fz
    go_wp2_with fail
    obtain ⟨hz1, hz3⟩ := cr_zero HR4.out
    have hz2 := hz3 _ w HN4.out HB4.out
    generalize (((w4.setCell ⟨n4, 0, none⟩ (.int .u32 0)).setCell ⟨n4, 1, none⟩ (.int .u8 0)).setCell ⟨n4, 2, none⟩ (.int .u32 0)) = W9z at *
    have g0 : W9z.cell? ⟨n4, 0, none⟩ = some (.int .u32 0) := hz1.c0
    have g1 : W9z.cell? ⟨n4, 1, none⟩ = some (.int .u8 0) := hz1.c1
    have g2 : W9z.cell? ⟨n4, 2, none⟩ = some (.int .u32 0) := hz1.c2
    refine bodyPost_ret (v := .tuple #[.agg #[.int .u32 0, .int .u8 0, .int .u32 0], .bool false, .int .i64 0]) (by simp [results, Tryd.results36, go_sem, g0, g1, g2]) rfl ?_
    rw [HX.out, HAT.out]
    exact ⟨rfl, hz2⟩
  have hk3 : (fe == 3) = false := beq_false_of_ne h3
  have hk4 : decide (fe = 3) = false := decide_eq_false h3
  have H3 := Lib.hid h3
  clear h3
  by_cases h0 : fe = 0
  rotate_left
  · have hk5 : (fe == 0) = false := beq_false_of_ne h0
    have hk6 : decide (fe = 0) = false := decide_eq_false h0
    have hat : atOf b i = (Cr.zero, false, 7) := by
      unfold atOf
      rw [← HFE.out, if_neg H3.out, if_pos (Or.inl h0)]
    have HAT := Lib.hid hat
    have hk7 : (fe != 0) = true := by simp [h0]
    have c4 := HQ4.out.c4
    clear hat
    have z0 := HR4.out.c0
    have z1 := HR4.out.c1
    have z2 := HR4.out.c2
    have zf := HR4.out.fz
    go_wp2_with fail
    obtain ⟨hz1, hz3⟩ := cr_zero HR4.out
    have hz2 := hz3 _ w HN4.out HB4.out
    generalize (((w4.setCell ⟨n4, 0, none⟩ (.int .u32 0)).setCell ⟨n4, 1, none⟩ (.int .u8 0)).setCell ⟨n4, 2, none⟩ (.int .u32 0)) = W9z at *
    have g0 : W9z.cell? ⟨n4, 0, none⟩ = some (.int .u32 0) := hz1.c0
    have g1 : W9z.cell? ⟨n4, 1, none⟩ = some (.int .u8 0) := hz1.c1
    have g2 : W9z.cell? ⟨n4, 2, none⟩ = some (.int .u32 0) := hz1.c2
    refine bodyPost_ret (v := .tuple #[.agg #[.int .u32 0, .int .u8 0, .int .u32 0], .bool false, .int .i64 7]) (by simp [results, Tryd.results36, go_sem, g0, g1, g2]) rfl ?_
    rw [HX.out, HAT.out]
    exact ⟨rfl, hz2⟩
  subst h0
  have okp := HCR.out rfl
  have c4 := HQ4.out.c4
  by_cases hl1 : ld = 1
  rotate_left
  · have hk5 : ((ld : Int) == 1) = false := beq_false_of_ne (by omega)
    have hk6 : decide ((ld : Int) = 1) = false := decide_eq_false (by omega)
    have hat : atOf b i = (Cr.zero, false, 7) := by
      unfold atOf
      rw [← HFE.out, if_neg (by decide), if_pos (Or.inr (Or.inl (by rw [← HP.out, ← HLD.out]; exact hl1)))]
    have HAT := Lib.hid hat
    have hk7 : ((ld : Int) != 1) = true := by simp; omega
    clear hat
    have z0 := HR4.out.c0
    have z1 := HR4.out.c1
    have z2 := HR4.out.c2
    have zf := HR4.out.fz
    go_wp2_with fail
    obtain ⟨hz1, hz3⟩ := cr_zero HR4.out
    have hz2 := hz3 _ w HN4.out HB4.out
    generalize (((w4.setCell ⟨n4, 0, none⟩ (.int .u32 0)).setCell ⟨n4, 1, none⟩ (.int .u8 0)).setCell ⟨n4, 2, none⟩ (.int .u32 0)) = W9z at *
    have g0 : W9z.cell? ⟨n4, 0, none⟩ = some (.int .u32 0) := hz1.c0
    have g1 : W9z.cell? ⟨n4, 1, none⟩ = some (.int .u8 0) := hz1.c1
    have g2 : W9z.cell? ⟨n4, 2, none⟩ = some (.int .u32 0) := hz1.c2
    refine bodyPost_ret (v := .tuple #[.agg #[.int .u32 0, .int .u8 0, .int .u32 0], .bool false, .int .i64 7]) (by simp [results, Tryd.results36, go_sem, g0, g1, g2]) rfl ?_
    rw [HX.out, HAT.out]
    exact ⟨rfl, hz2⟩
  subst hl1
  obtain ⟨gq, oq, ee, x0⟩ := HY4.out.byteAt 0 (by rw [← HLD.out]; decide)
  cases ee
  obtain ⟨hh, hhe⟩ : ∃ x, x = (p.data[0]'(by rw [← HLD.out]; decide)).toNat := ⟨_, rfl⟩
  rw [← hhe] at x0
  simp only [Nat.add_zero] at x0
  have hpc : p.crown = ⟨p.gen, hh, p.serial⟩ := by
    unfold Pg.crown
    rw [hhe, List.getD_eq_getElem?_getD, List.getElem?_eq_getElem (by rw [← HLD.out]; decide)]
    rfl
  have hh256 : hh < 256 := by rw [hhe]; exact (p.data[0]'(by rw [← HLD.out]; decide)).toNat_lt
  have HPC := Lib.hid hpc
  have OKP := Lib.hid okp
  clear hhe hpc okp
  by_cases h2 : 2 ≤ hh
  · have hk5 : decide ((2 : Int) ≤ hh) = true := decide_eq_true (by omega)
    have hat : atOf b i = (Cr.zero, false, 7) := by
      unfold atOf
      rw [← HFE.out, if_neg (by decide), if_pos (Or.inr (Or.inr (by rw [← HP.out, HPC.out]; exact h2)))]
    have HAT := Lib.hid hat
    clear hat h2
    have z0 := HR4.out.c0
    have z1 := HR4.out.c1
    have z2 := HR4.out.c2
    have zf := HR4.out.fz
    go_wp2_with fail
    obtain ⟨hz1, hz3⟩ := cr_zero HR4.out
    have hz2 := hz3 _ w HN4.out HB4.out
    generalize (((w4.setCell ⟨n4, 0, none⟩ (.int .u32 0)).setCell ⟨n4, 1, none⟩ (.int .u8 0)).setCell ⟨n4, 2, none⟩ (.int .u32 0)) = W9z at *
    have g0 : W9z.cell? ⟨n4, 0, none⟩ = some (.int .u32 0) := hz1.c0
    have g1 : W9z.cell? ⟨n4, 1, none⟩ = some (.int .u8 0) := hz1.c1
    have g2 : W9z.cell? ⟨n4, 2, none⟩ = some (.int .u32 0) := hz1.c2
    refine bodyPost_ret (v := .tuple #[.agg #[.int .u32 0, .int .u8 0, .int .u32 0], .bool false, .int .i64 7]) (by simp [results, Tryd.results36, go_sem, g0, g1, g2]) rfl ?_
    rw [HX.out, HAT.out]
    exact ⟨rfl, hz2⟩
  have hk5 : decide ((2 : Int) ≤ hh) = false := decide_eq_false (by omega)
  have hbad1 : ¬ ((parseOf b).1 ≠ 0 ∨ (parseOf b).2.data.length ≠ 1 ∨ 2 ≤ (parseOf b).2.crown.half) := by
    rw [← HFE.out, ← HP.out, ← HLD.out, HPC.out]
    intro h
    rcases h with h | h | h
    · exact h rfl
    · exact h rfl
    · exact h2 h
  have HBAD1 := Lib.hid hbad1
  clear hbad1 h2
  go_upto_region 9 with fail
  have hSB : ∀ w', Below w4.heap.size w4 w' → (w'.cell? ⟨n9, 0, none⟩ = some (.int .u32 p.gen) ∧ w'.cell? ⟨n9, 1, none⟩ = some (.int .u32 p.serial) ∧ w'.cell? ⟨n9, 4, none⟩ = some (.slice (some ⟨gq, oq, none⟩) 1 cd) ∧ w'.cell? ⟨gq, oq, none⟩ = some (.int .u8 hh)) := fun w' hb => ⟨(HQ4.out.below hb).c0, (HQ4.out.below hb).c1, (HQ4.out.below hb).c4, (hb.cell (p := ⟨gq, oq, none⟩) (block_lt_of_cell x0)).trans x0⟩
  have HSB := Lib.hid hSB
  clear hSB x0 c4 hk3 hk4 hk5
  refine region_anyZ (z := 10) (S := fun w' => (w'.cell? ⟨n9, 0, none⟩ = some (.int .u32 p.gen) ∧ w'.cell? ⟨n9, 1, none⟩ = some (.int .u32 p.serial) ∧ w'.cell? ⟨n9, 4, none⟩ = some (.slice (some ⟨gq, oq, none⟩) 1 cd) ∧ w'.cell? ⟨gq, oq, none⟩ = some (.int .u8 hh))) (by kernel_rfl) ?_
  refine anyZ_begin (fun hcl0 => ?_)
  refine anyZ_held (by exact HSB.out _ (bdr (bre w4))) (fun hHeld => ?_)
  -- 0: Op.fieldAddr 84 (Operand.tmp 9) 0
  refine' anyZ_pure (i := 0) (v := _) rfl (by rfl) (by kernel_rfl) (by kernel_rfl) (by kernel_rfl) hcl0 (fun _ _ _ h => h) (Or.inl ⟨by rfl, fun w _ => ?hb1⟩) (fun _ => hHeld) (fun hcl1 => ?rb1)
  case hb1 => (simp only [List.getElem_toArray, List.getElem_cons_zero]; first | (go_simp; with_reducible rfl) | (go_simp; done) | rfl)
  simp only [List.getElem_toArray, List.getElem_cons_zero, Act.put, List.setIfInBounds_toArray, List.set_cons_zero, List.set_cons_succ]
  -- 1: Op.load 22 (Operand.tmp 46)
  refine' anyZ_take (i := 1) (v := _) rfl (by rfl) (by kernel_rfl) (by kernel_rfl) (by kernel_rfl) hcl1 6 (by kernel_rfl) (by kernel_rfl) (fun _ _ _ h => h) (Or.inl ⟨by rfl, fun w hSw => ?hb2⟩) hHeld (fun hcl2 => ?rb2)
  case hb2 => (simp only [List.getElem_toArray, List.getElem_cons_succ, List.getElem_cons_zero]; obtain ⟨hS1, hS2, hS3, hS4⟩ := hSw; first | (go_simp; with_reducible rfl) | (go_simp; done) | rfl)
  simp only [List.getElem_toArray, List.getElem_cons_succ, List.getElem_cons_zero, Act.put, List.setIfInBounds_toArray, List.set_cons_zero, List.set_cons_succ]
  -- 2: Op.fieldAddr 84 (Operand.tmp 9) 4
  refine' anyZ_pure (i := 2) (v := _) rfl (by rfl) (by kernel_rfl) (by kernel_rfl) (by kernel_rfl) hcl2 (fun _ _ _ h => h) (Or.inl ⟨by rfl, fun w _ => ?hb3⟩) (fun _ => hHeld) (fun hcl3 => ?rb3)
  case hb3 => (simp only [List.getElem_toArray, List.getElem_cons_succ, List.getElem_cons_zero]; first | (go_simp; with_reducible rfl) | (go_simp; done) | rfl)
  simp only [List.getElem_toArray, List.getElem_cons_succ, List.getElem_cons_zero, Act.put, List.setIfInBounds_toArray, List.set_cons_zero, List.set_cons_succ]
  -- 3: Op.load 25 (Operand.tmp 48)
  refine' anyZ_take (i := 3) (v := _) rfl (by rfl) (by kernel_rfl) (by kernel_rfl) (by kernel_rfl) hcl3 6 (by kernel_rfl) (by kernel_rfl) (fun _ _ _ h => h) (Or.inl ⟨by rfl, fun w hSw => ?hb4⟩) hHeld (fun hcl4 => ?rb4)
  case hb4 => (simp only [List.getElem_toArray, List.getElem_cons_succ, List.getElem_cons_zero]; obtain ⟨hS1, hS2, hS3, hS4⟩ := hSw; first | (go_simp; with_reducible rfl) | (go_simp; done) | rfl)
  simp only [List.getElem_toArray, List.getElem_cons_succ, List.getElem_cons_zero, Act.put, List.setIfInBounds_toArray, List.set_cons_zero, List.set_cons_succ]
  -- 4: Op.indexAddr 25 (Operand.tmp 49) (Operand.const (Value.int I
  refine' anyZ_pure (i := 4) (v := _) rfl (by rfl) (by kernel_rfl) (by kernel_rfl) (by kernel_rfl) hcl4 (fun _ _ _ h => h) (Or.inl ⟨by rfl, fun w _ => ?hb5⟩) (fun _ => hHeld) (fun hcl5 => ?rb5)
  case hb5 => (simp only [List.getElem_toArray, List.getElem_cons_succ, List.getElem_cons_zero]; first | (go_simp; with_reducible rfl) | (go_simp; done) | rfl)
  simp only [List.getElem_toArray, List.getElem_cons_succ, List.getElem_cons_zero, Act.put, List.setIfInBounds_toArray, List.set_cons_zero, List.set_cons_succ]
  -- 5: Op.load 5 (Operand.tmp 50)
  refine' anyZ_take (i := 5) (v := _) rfl (by rfl) (by kernel_rfl) (by kernel_rfl) (by kernel_rfl) hcl5 6 (by kernel_rfl) (by kernel_rfl) (fun _ _ _ h => h) (Or.inl ⟨by rfl, fun w hSw => ?hb6⟩) hHeld (fun hcl6 => ?rb6)
  case hb6 => (simp only [List.getElem_toArray, List.getElem_cons_succ, List.getElem_cons_zero]; obtain ⟨hS1, hS2, hS3, hS4⟩ := hSw; first | (go_simp; with_reducible rfl) | (go_simp; done) | rfl)
  simp only [List.getElem_toArray, List.getElem_cons_succ, List.getElem_cons_zero, Act.put, List.setIfInBounds_toArray, List.set_cons_zero, List.set_cons_succ]
  -- 6: Op.fieldAddr 84 (Operand.tmp 9) 1
  refine' anyZ_pure (i := 6) (v := _) rfl (by rfl) (by kernel_rfl) (by kernel_rfl) (by kernel_rfl) hcl6 (fun _ _ _ h => h) (Or.inl ⟨by rfl, fun w _ => ?hb7⟩) (fun _ => hHeld) (fun hcl7 => ?rb7)
  case hb7 => (simp only [List.getElem_toArray, List.getElem_cons_succ, List.getElem_cons_zero]; first | (go_simp; with_reducible rfl) | (go_simp; done) | rfl)
  simp only [List.getElem_toArray, List.getElem_cons_succ, List.getElem_cons_zero, Act.put, List.setIfInBounds_toArray, List.set_cons_zero, List.set_cons_succ]
  -- 7: Op.load 22 (Operand.tmp 52)
  refine' anyZ_take (i := 7) (v := _) rfl (by rfl) (by kernel_rfl) (by kernel_rfl) (by kernel_rfl) hcl7 6 (by kernel_rfl) (by kernel_rfl) (fun _ _ _ h => h) (Or.inl ⟨by rfl, fun w hSw => ?hb8⟩) hHeld (fun hcl8 => ?rb8)
  case hb8 => (simp only [List.getElem_toArray, List.getElem_cons_succ, List.getElem_cons_zero]; obtain ⟨hS1, hS2, hS3, hS4⟩ := hSw; first | (go_simp; with_reducible rfl) | (go_simp; done) | rfl)
  simp only [List.getElem_toArray, List.getElem_cons_succ, List.getElem_cons_zero, Act.put, List.setIfInBounds_toArray, List.set_cons_zero, List.set_cons_succ]
  -- 8: Op.build 24 #[(0, Operand.tmp 47), (1, Operand.tmp 51), (2, 
  refine' anyZ_pure (i := 8) (v := _) rfl (by rfl) (by kernel_rfl) (by kernel_rfl) (by kernel_rfl) hcl8 (fun _ _ _ h => h) (Or.inl ⟨by rfl, fun w _ => ?hb9⟩) (fun _ => hHeld) (fun hcl9 => ?rb9)
  case hb9 => (simp only [List.getElem_toArray, List.getElem_cons_succ, List.getElem_cons_zero]; first | (go_simp; with_reducible rfl) | (go_simp; done) | rfl)
  simp only [List.getElem_toArray, List.getElem_cons_succ, List.getElem_cons_zero, Act.put, List.setIfInBounds_toArray, List.set_cons_zero, List.set_cons_succ]
  -- 9: Op.alloc 24
  refine anyZ_one (i := 9) hcl9 (by kernel_rfl) (by simp only [List.getElem?_toArray, List.getElem?_cons_succ, List.getElem?_cons_zero]; rfl) (by rfl) (fun hcl10 K hK => ?_)
  go_simp
  refine hK _ _ (fun _ => ?_) ?_
  · exact HSB.out _ (bal (bdr (bre w4)) _)
  clear hK K hHeld
  try simp only [Act.put, List.setIfInBounds_toArray, List.set_cons_zero, List.set_cons_succ]
  refine anyZ_chain_at (by kernel_rfl) ?_
  simp only [List.drop_succ_cons, List.drop_zero]
  go_upto_region 10 with fail
  obtain ⟨c, hce⟩ : ∃ c : Cr, c = ⟨p.gen, hh, p.serial⟩ := ⟨_, rfl⟩
  have hc0 : p.gen = c.gen := by rw [hce]
  have hc1 : hh = c.half := by rw [hce]
  have hc2 : p.serial = c.serial := by rw [hce]
  have hcok : c.Ok := by rw [hce]; exact ⟨OKP.out.gen, hh256, OKP.out.serial⟩
  have hpc : p.crown = c := by rw [HPC.out, hce]
  have HCOK := Lib.hid hcok
  have HPC' := Lib.hid hpc
  have hb5 : Below w4.heap.size w4 ((w4.alloc (.cells #[.int .u32 p.gen, .int .u8 hh, .int .u32 p.serial] 24)).drew) := bdr (bal (bre w4) _)
  have hr5 : ((w4.alloc (.cells #[.int .u32 p.gen, .int .u8 hh, .int .u32 p.serial] 24)).drew).heap[w4.heap.size]? = some (.cells #[.int .u32 p.gen, .int .u8 hh, .int .u32 p.serial] 24 (0, 0)) := heap_alloc_new w4 _
  generalize (w4.alloc (.cells #[.int .u32 p.gen, .int .u8 hh, .int .u32 p.serial] 24)).drew = w5 at *
  obtain ⟨n10, hn10⟩ : ∃ n, n = w4.heap.size := ⟨_, rfl⟩
  rw [← hn10] at hr5 ⊢
  have hr5' : Row3 w5 n10 c := by unfold Row3; rw [← hc0, ← hc1, ← hc2]; exact hr5
  have hq5 := HQ4.out.below hb5
  have HB5 := Lib.hid (HB4.out.trans (hb5.mono HB4.out.size))
  have HR5 := Lib.hid (HR4.out.below hb5)
  have hy5 : PgAt w5 (.agg #[.int .u32 p.gen, .int .u32 p.serial, .int .u32 p.number, .int .u8 p.kind, .slice (some ⟨gq, oq, none⟩) 1 cd]) p := ⟨_, rfl, HY4.out.below hb5⟩
  have HSB : Hid (∀ w', Below w5.heap.size w5 w' → (w'.cell? ⟨n10, 0, none⟩ = some (.int .u32 p.gen) ∧ w'.cell? ⟨n10, 1, none⟩ = some (.int .u8 hh) ∧ w'.cell? ⟨n10, 2, none⟩ = some (.int .u32 p.serial) ∧ w'.cell? ⟨n9, 0, none⟩ = some (.int .u32 p.gen) ∧ w'.cell? ⟨n9, 1, none⟩ = some (.int .u32 p.serial) ∧ w'.cell? ⟨n9, 2, none⟩ = some (.int .u32 p.number) ∧ w'.cell? ⟨n9, 3, none⟩ = some (.int .u8 p.kind) ∧ w'.cell? ⟨n9, 4, none⟩ = some (.slice (some ⟨gq, oq, none⟩) 1 cd))) := Lib.hid (fun w' hb => ⟨by rw [hc0]; exact (hr5'.below hb).c0, by rw [hc1]; exact (hr5'.below hb).c1, by rw [hc2]; exact (hr5'.below hb).c2, (hq5.below hb).c0, (hq5.below hb).c1, (hq5.below hb).c2, (hq5.below hb).c3, (hq5.below hb).c4⟩)
  have HPAGE : Hid (∀ w', Below w5.heap.size w5 w' → Calls Tryd.prog 38 #[.agg #[.int .u32 p.gen, .int .u8 hh, .int .u32 p.serial]] w' fun e w'' => ∃ vd, e = .returned (PgVal c.page vd) ∧ Own8 5 w'.heap.size w'' vd c.page.data ∧ Below w'.heap.size w' w'') := Lib.hid (fun w' hb => by rw [hc0, hc1, hc2]; exact cpage_any c hcok w')
  obtain ⟨sm, hsm⟩ : ∃ s, s = pgSame c.page p := ⟨_, rfl⟩
  have HSAME : Hid (∀ w' vd, Below w5.heap.size w5 w' → Bytes w' vd c.page.data → Calls Tryd.prog 47 #[PgVal c.page vd, .agg #[.int .u32 p.gen, .int .u32 p.serial, .int .u32 p.number, .int .u8 p.kind, .slice (some ⟨gq, oq, none⟩) 1 cd]] w' fun e w'' => e = .returned (.bool sm) ∧ Below w'.heap.size w' w'') := Lib.hid (fun w' vd hb hy => (psame_any _ _ c.page p w' (PgAt.mk' hy) (hy5.below hb)).mono (fun e w2 h => ⟨by rw [h.1, hsm], h.2⟩))
  obtain ⟨m2', hm2⟩ : ∃ m, m = p.gen % 2 := ⟨_, rfl⟩
  have hmod : (p.gen : Int) % 2 = (m2' : Int) := by omega
  have hmod2 : IntKind.i64.wrap ((p.gen : Int).tmod 2) = (m2' : Int) := by
    rw [Int.tmod_eq_emod_of_nonneg (by omega), hmod, IntKind.wrap_i64]
    omega
  have hs0 := HSB.out w5 (bre w5)
  have HSM := Lib.hid hsm
  have HM2 := Lib.hid hm2
  have HC0 := Lib.hid hc0
  have HC1 := Lib.hid hc1
  have HC2 := Lib.hid hc2
  have HRC := Lib.hid hr5'
  clear hb5 hr5 hr5' hq5 hy5 hn10 hsm hm2 hc0 hc1 hc2 hce hcok hpc HB4 HR4 HY4 HQ4 HPC OKP HCR hh256
  have hb1 := HBAD1.out
  rw [← HFE.out] at hb1
  have HB1' := Lib.hid hb1
  clear hb1
  have hbad2 : sm = false ∨ m2' ≠ i → atOf b i = (Cr.zero, false, 7) := fun h => by
    unfold atOf
    rw [← HFE.out, if_neg (by decide), if_neg HB1'.out, if_pos (by rw [← HP.out, HPC'.out, ← HSM.out, ← HC0.out, ← HM2.out]; exact h)]
  have HBAD2 := Lib.hid hbad2
  clear hbad2
  cases sm with
  | false =>
    have hat := HBAD2.out (.inl rfl)
    have HAT := Lib.hid hat
    clear hat
    refine region_anyZ (z := 12) (S := fun w' => (w'.cell? ⟨n10, 0, none⟩ = some (.int .u32 p.gen) ∧ w'.cell? ⟨n10, 1, none⟩ = some (.int .u8 hh) ∧ w'.cell? ⟨n10, 2, none⟩ = some (.int .u32 p.serial) ∧ w'.cell? ⟨n9, 0, none⟩ = some (.int .u32 p.gen) ∧ w'.cell? ⟨n9, 1, none⟩ = some (.int .u32 p.serial) ∧ w'.cell? ⟨n9, 2, none⟩ = some (.int .u32 p.number) ∧ w'.cell? ⟨n9, 3, none⟩ = some (.int .u8 p.kind) ∧ w'.cell? ⟨n9, 4, none⟩ = some (.slice (some ⟨gq, oq, none⟩) 1 cd))) (by kernel_rfl) ?_
    refine anyZ_begin (fun hcl0 => ?_)
    refine anyZ_held (by exact HSB.out _ (bdr (bre w5))) (fun hHeld => ?_)
    -- 0: Op.load 24 (Operand.tmp 10)
    refine' anyZ_take (i := 0) (v := _) rfl (by rfl) (by kernel_rfl) (by kernel_rfl) (by kernel_rfl) hcl0 8 (by kernel_rfl) (by kernel_rfl) (fun _ _ _ h => h) (Or.inl ⟨by rfl, fun w hSw => ?hk1⟩) hHeld (fun hcl1 => ?rk1)
    case hk1 => (simp only [List.getElem_toArray, List.getElem_cons_zero]; obtain ⟨hS1, hS2, hS3, hS4, hS5, hS6, hS7, hS8⟩ := hSw; first | (go_simp; with_reducible rfl) | (go_simp; done) | rfl)
    simp only [List.getElem_toArray, List.getElem_cons_zero, Act.put, List.setIfInBounds_toArray, List.set_cons_zero, List.set_cons_succ]
    -- 2: Op.load 84 (Operand.tmp 9)
    refine' anyZ_take (i := 2) (v := _) rfl (by rfl) (by kernel_rfl) (by kernel_rfl) (by kernel_rfl) hcl1 8 (by kernel_rfl) (by kernel_rfl) (fun _ _ _ h => h) (Or.inl ⟨by rfl, fun w hSw => ?hk2⟩) hHeld (fun hcl2 => ?rk2)
    case hk2 => (simp only [List.getElem_toArray, List.getElem_cons_succ, List.getElem_cons_zero]; obtain ⟨hS1, hS2, hS3, hS4, hS5, hS6, hS7, hS8⟩ := hSw; first | (go_simp; with_reducible rfl) | (go_simp; done) | rfl)
    simp only [List.getElem_toArray, List.getElem_cons_succ, List.getElem_cons_zero, Act.put, List.setIfInBounds_toArray, List.set_cons_zero, List.set_cons_succ]
    -- 1: Op.call { callee := Callee.value (Operand.func 38), args := 
    refine anyZ_one (i := 1) hcl2 (by kernel_rfl) (by simp only [List.getElem?_toArray, List.getElem?_cons_succ, List.getElem?_cons_zero]; rfl) (by rfl) (fun hcl3 K hK => ?_)
    go_simp
    refine (HPAGE.out _ (bdr (bre w5))).mono ?_
    rintro e w6 ⟨vd, rfl, hod, hb6⟩
    have hbb1 := btr (bdr (bre w5)) hb6
    refine hK _ _ (fun _ => ?_) ?_
    · exact HSB.out _ hbb1
    clear hK K hHeld
    have hHeld := (HSB.out w6 hbb1)
    try simp only [Act.put, List.setIfInBounds_toArray, List.set_cons_zero, List.set_cons_succ]
    -- 3: Op.call { callee := Callee.value (Operand.func 47), args := 
    refine anyZ_one (i := 3) hcl3 (by kernel_rfl) (by simp only [List.getElem?_toArray, List.getElem?_cons_succ, List.getElem?_cons_zero]; rfl) (by rfl) (fun hcl4 K hK => ?_)
    go_simp
    refine (HSAME.out _ vd hbb1 hod.bytes).mono ?_
    rintro e w7 ⟨rfl, hb7⟩
    have hbb2 := btr hbb1 hb7
    refine hK _ _ (fun _ => ?_) ?_
    · exact HSB.out _ hbb2
    clear hK K hHeld
    have hHeld := (HSB.out w7 hbb2)
    try simp only [Act.put, List.setIfInBounds_toArray, List.set_cons_zero, List.set_cons_succ]
    -- 4: Op.unOp UnOp.not 4 (Operand.tmp 58)
    refine' anyZ_pure (i := 4) (v := _) rfl (by rfl) (by kernel_rfl) (by kernel_rfl) (by kernel_rfl) hcl4 (fun _ _ _ h => h) (Or.inl ⟨by rfl, fun w _ => ?hk5⟩) (fun _ => hHeld) (fun hcl5 => ?rk5)
    case hk5 => (simp only [List.getElem_toArray, List.getElem_cons_succ, List.getElem_cons_zero]; first | (go_simp; with_reducible rfl) | (go_simp; done) | rfl)
    simp only [List.getElem_toArray, List.getElem_cons_succ, List.getElem_cons_zero, Act.put, List.setIfInBounds_toArray, List.set_cons_zero, List.set_cons_succ]
    -- 5: Op.move (Operand.tmp 59)
    refine' anyZ_pure (i := 5) (v := _) rfl (by rfl) (by kernel_rfl) (by kernel_rfl) (by kernel_rfl) hcl5 (fun _ _ _ h => h) (Or.inl ⟨by rfl, fun w _ => ?hk6⟩) (fun _ => hHeld) (fun hcl6 => ?rk6)
    case hk6 => (simp only [List.getElem_toArray, List.getElem_cons_succ, List.getElem_cons_zero]; first | (go_simp; with_reducible rfl) | (go_simp; done) | rfl)
    simp only [List.getElem_toArray, List.getElem_cons_succ, List.getElem_cons_zero, Act.put, List.setIfInBounds_toArray, List.set_cons_zero, List.set_cons_succ]
    -- 6 (not wanted): Op.fieldAddr 24 (Operand.tmp 10) 0
    refine' anyZ_pure (i := 6) (v := undef) rfl (by rfl) (by kernel_rfl) (by kernel_rfl) (by kernel_rfl) hcl6 (fun _ _ _ h => h) (Or.inr ⟨by rfl, rfl⟩) (fun _ => hHeld) (fun hcl7 => ?rk7)
    simp only [Act.put, List.setIfInBounds_toArray, List.set_cons_zero, List.set_cons_succ]
    -- 7 (not wanted): Op.load 22 (Operand.tmp 61)
    refine' anyZ_pure (i := 7) (v := undef) rfl (by rfl) (by kernel_rfl) (by kernel_rfl) (by kernel_rfl) hcl7 (fun _ _ _ h => h) (Or.inr ⟨by rfl, rfl⟩) (fun _ => hHeld) (fun hcl8 => ?rk8)
    simp only [Act.put, List.setIfInBounds_toArray, List.set_cons_zero, List.set_cons_succ]
    -- 8 (not wanted): Op.binOp BinOp.rem 22 (Operand.tmp 62) (Operand.const (Value
    refine' anyZ_pure (i := 8) (v := undef) rfl (by rfl) (by kernel_rfl) (by kernel_rfl) (by kernel_rfl) hcl8 (fun _ _ _ h => h) (Or.inr ⟨by rfl, rfl⟩) (fun _ => hHeld) (fun hcl9 => ?rk9)
    simp only [Act.put, List.setIfInBounds_toArray, List.set_cons_zero, List.set_cons_succ]
    -- 9 (not wanted): Op.convert 22 3 (Operand.tmp 63)
    refine' anyZ_pure (i := 9) (v := undef) rfl (by rfl) (by kernel_rfl) (by kernel_rfl) (by kernel_rfl) hcl9 (fun _ _ _ h => h) (Or.inr ⟨by rfl, rfl⟩) (fun _ => hHeld) (fun hcl10 => ?rk10)
    simp only [Act.put, List.setIfInBounds_toArray, List.set_cons_zero, List.set_cons_succ]
    -- 10 (not wanted): Op.move (Operand.tmp 1)
    refine anyZ_oneSkip (i := 10) hcl10 (by kernel_rfl) (by simp only [List.getElem?_toArray, List.getElem?_cons_succ, List.getElem?_cons_zero]; rfl) (by rfl) (fun _ => hHeld) (fun hcl11 => ?_)
    simp only [Act.put, List.setIfInBounds_toArray, List.set_cons_zero, List.set_cons_succ]
    -- 11 (not wanted): Op.binOp BinOp.neq 3 (Operand.tmp 64) (Operand.tmp 65) 3
    refine anyZ_oneSkip (i := 11) hcl11 (by kernel_rfl) (by simp only [List.getElem?_toArray, List.getElem?_cons_succ, List.getElem?_cons_zero]; rfl) (by rfl) (fun _ => hHeld) (fun hcl12 => ?_)
    simp only [Act.put, List.setIfInBounds_toArray, List.set_cons_zero, List.set_cons_succ]
    clear hHeld
    refine anyZ_chain_at (by kernel_rfl) ?_
    simp only [List.drop_succ_cons, List.drop_zero]
    have HB7 := Lib.hid (HB5.out.trans (hbb2.mono HB5.out.size))
    have HR7 := Lib.hid (HR5.out.below hbb2)
    clear hs0 HSB HPAGE HSAME hbb2 hbb1 hb6 hb7 hod HB5 HR5 HRC
    have z0 := HR7.out.c0
    have z1 := HR7.out.c1
    have z2 := HR7.out.c2
    have zf := HR7.out.fz
    go_wp2_with fail
    obtain ⟨hz1, hz3⟩ := cr_zero HR7.out
    have hz2 := hz3 _ w HN4.out HB7.out
    generalize (((w7.setCell ⟨n4, 0, none⟩ (.int .u32 0)).setCell ⟨n4, 1, none⟩ (.int .u8 0)).setCell ⟨n4, 2, none⟩ (.int .u32 0)) = W9z at *
    have g0 : W9z.cell? ⟨n4, 0, none⟩ = some (.int .u32 0) := hz1.c0
    have g1 : W9z.cell? ⟨n4, 1, none⟩ = some (.int .u8 0) := hz1.c1
    have g2 : W9z.cell? ⟨n4, 2, none⟩ = some (.int .u32 0) := hz1.c2
    refine bodyPost_ret (v := .tuple #[.agg #[.int .u32 0, .int .u8 0, .int .u32 0], .bool false, .int .i64 7]) (by simp [results, Tryd.results36, go_sem, g0, g1, g2]) rfl ?_
    rw [HX.out, HAT.out]
    exact ⟨rfl, hz2⟩
  | true =>
    by_cases hmi : m2' = i
    rotate_left
    · have hat := HBAD2.out (.inr hmi)
      have HAT := Lib.hid hat
      have hk8 : ((m2' : Int) == (i : Int)) = false := beq_false_of_ne (by omega)
      have hk9 : decide ((m2' : Int) = (i : Int)) = false := decide_eq_false (by omega)
      have hk10 : ((m2' : Int) != (i : Int)) = true := by simp; omega
      clear hat
      go_region_held3 (fun w' => (w'.cell? ⟨n10, 0, none⟩ = some (.int .u32 p.gen) ∧ w'.cell? ⟨n10, 1, none⟩ = some (.int .u8 hh) ∧ w'.cell? ⟨n10, 2, none⟩ = some (.int .u32 p.serial) ∧ w'.cell? ⟨n9, 0, none⟩ = some (.int .u32 p.gen) ∧ w'.cell? ⟨n9, 1, none⟩ = some (.int .u32 p.serial) ∧ w'.cell? ⟨n9, 2, none⟩ = some (.int .u32 p.number) ∧ w'.cell? ⟨n9, 3, none⟩ = some (.int .u8 p.kind) ∧ w'.cell? ⟨n9, 4, none⟩ = some (.slice (some ⟨gq, oq, none⟩) 1 cd))) (first | exact hs0 | (with_reducible exact HSB.out _ hbb2) | (with_reducible exact HSB.out _ hbb1) | exact HSB.out _ (bdr (bre w5))) (first | (go_at_call 38; refine (HPAGE.out _ (bdr (bre w5))).mono ?_; rintro e w6 ⟨vd, rfl, hod, hb6⟩; have hbb1 := btr (bdr (bre w5)) hb6) | (go_at_call 47; refine (HSAME.out _ vd hbb1 hod.bytes).mono ?_; rintro e w7 ⟨rfl, hb7⟩; have hbb2 := btr hbb1 hb7))
      have HB7 := Lib.hid (HB5.out.trans (hbb2.mono HB5.out.size))
      have HR7 := Lib.hid (HR5.out.below hbb2)
      have HRC7 := Lib.hid (HRC.out.below hbb2)
      clear hs0 HSB HPAGE HSAME hbb2 hbb1 hb6 hb7 hod HB5 HR5 HRC
      have z0 := HR7.out.c0
      have z1 := HR7.out.c1
      have z2 := HR7.out.c2
      have zf := HR7.out.fz
      go_wp2_with fail
      obtain ⟨hz1, hz3⟩ := cr_zero HR7.out
      have hz2 := hz3 _ w HN4.out HB7.out
      generalize (((w7.setCell ⟨n4, 0, none⟩ (.int .u32 0)).setCell ⟨n4, 1, none⟩ (.int .u8 0)).setCell ⟨n4, 2, none⟩ (.int .u32 0)) = W9z at *
      have g0 : W9z.cell? ⟨n4, 0, none⟩ = some (.int .u32 0) := hz1.c0
      have g1 : W9z.cell? ⟨n4, 1, none⟩ = some (.int .u8 0) := hz1.c1
      have g2 : W9z.cell? ⟨n4, 2, none⟩ = some (.int .u32 0) := hz1.c2
      refine bodyPost_ret (v := .tuple #[.agg #[.int .u32 0, .int .u8 0, .int .u32 0], .bool false, .int .i64 7]) (by simp [results, Tryd.results36, go_sem, g0, g1, g2]) rfl ?_
      rw [HX.out, HAT.out]
      exact ⟨rfl, hz2⟩
    subst hmi
    have hat : atOf b m2' = (c, true, 0) := by
      unfold atOf
      rw [← HFE.out, if_neg (by decide), if_neg HB1'.out, if_neg (by
        rw [← HP.out, HPC'.out, ← HSM.out, ← HC0.out, ← HM2.out]
        rintro (h | h)
        · cases h
        · exact h rfl)]
      rw [← HP.out, HPC'.out]
    have HAT := Lib.hid hat
    clear hat HBAD2
    go_region_held3 (fun w' => (w'.cell? ⟨n10, 0, none⟩ = some (.int .u32 p.gen) ∧ w'.cell? ⟨n10, 1, none⟩ = some (.int .u8 hh) ∧ w'.cell? ⟨n10, 2, none⟩ = some (.int .u32 p.serial) ∧ w'.cell? ⟨n9, 0, none⟩ = some (.int .u32 p.gen) ∧ w'.cell? ⟨n9, 1, none⟩ = some (.int .u32 p.serial) ∧ w'.cell? ⟨n9, 2, none⟩ = some (.int .u32 p.number) ∧ w'.cell? ⟨n9, 3, none⟩ = some (.int .u8 p.kind) ∧ w'.cell? ⟨n9, 4, none⟩ = some (.slice (some ⟨gq, oq, none⟩) 1 cd))) (first | exact hs0 | (with_reducible exact HSB.out _ hbb2) | (with_reducible exact HSB.out _ hbb1) | exact HSB.out _ (bdr (bre w5))) (first | (go_at_call 38; refine (HPAGE.out _ (bdr (bre w5))).mono ?_; rintro e w6 ⟨vd, rfl, hod, hb6⟩; have hbb1 := btr (bdr (bre w5)) hb6) | (go_at_call 47; refine (HSAME.out _ vd hbb1 hod.bytes).mono ?_; rintro e w7 ⟨rfl, hb7⟩; have hbb2 := btr hbb1 hb7))
    have HB7 := Lib.hid (HB5.out.trans (hbb2.mono HB5.out.size))
    have HR7 := Lib.hid (HR5.out.below hbb2)
    have HRC7 := Lib.hid (HRC.out.below hbb2)
    clear hs0 HSB HPAGE HSAME hbb2 hbb1 hb6 hb7 hod HB5 HR5 HRC
    have a0 : w7.cell? ⟨n10, 0, none⟩ = some (.int .u32 p.gen) := by rw [HC0.out]; exact HRC7.out.c0
    have a1 : w7.cell? ⟨n10, 1, none⟩ = some (.int .u8 hh) := by rw [HC1.out]; exact HRC7.out.c1
    have a2' : w7.cell? ⟨n10, 2, none⟩ = some (.int .u32 p.serial) := by rw [HC2.out]; exact HRC7.out.c2
    have z0 := HR7.out.c0
    have z1 := HR7.out.c1
    have z2 := HR7.out.c2
    have zf := HR7.out.fz
    obtain ⟨q1, q2, q3⟩ := cr_put c HR7.out
    have hb9 := q3 _ w HN4.out HB7.out
    rw [← HC0.out, ← HC1.out, ← HC2.out] at q1 hb9
    have HQ1 := Lib.hid q1
    have HB9 := Lib.hid hb9
    clear q1 q2 q3 hb9
    go_wp2_with fail
    have q1 := HQ1.out
    have hb9 := HB9.out
    generalize (((w7.setCell ⟨n4, 0, none⟩ (.int .u32 p.gen)).setCell ⟨n4, 1, none⟩ (.int .u8 hh)).setCell ⟨n4, 2, none⟩ (.int .u32 p.serial)) = W9 at *
    have g0 := q1.c0
    have g1 := q1.c1
    have g2 := q1.c2
    refine bodyPost_ret (v := .tuple #[.agg #[.int .u32 c.gen, .int .u8 c.half, .int .u32 c.serial], .bool true, .int .i64 0]) (by simp [results, Tryd.results36, go_sem, g0, g1, g2]) rfl ?_
    rw [HX.out, HAT.out]
    exact ⟨rfl, hb9⟩
end Go.Proofs.YtejdlgfiiagcmaaDoor
