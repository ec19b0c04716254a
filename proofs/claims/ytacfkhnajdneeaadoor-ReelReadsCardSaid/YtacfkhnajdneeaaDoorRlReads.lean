/- Walk of the law: ReelReads. -/
import Derived.Test.YtacfkhnajdneeaaDoorRlReadsP
namespace Go.Proofs.YtacfkhnajdneeaaDoor
open Go.RowKit

set_option maxRecDepth 20000 in
set_option maxHeartbeats 3200000 in
theorem reads_calls (vp : Value) (ps : List Pg) (c0 : Cr) (ok0 : c0.Ok) (vh : Value) (how : List UInt8) (vr : Value) (raw : List UInt8) (w : World) (hv : PgList w vp ps) (hh : Bytes w vh how) (hr : Bytes w vr raw) :
    Calls Tryd.prog 8 #[vp, CrVal c0, vh, vr] w fun e w' => e = .returned (.bool true) ∧ Below w.heap.size w w' := by
  obtain ⟨a, cp, rfl, hm, hc, -, hrow⟩ := id hv
  obtain ⟨ah, ch, rfl, hmh, hch, -, hrowh⟩ := id hh
  obtain ⟨ar, cr, rfl, hmr, hcr, -, -⟩ := id hr
  have HR := Lib.hid hrow
  have HRW := Lib.hid hr
  have HRH := Lib.hid hrowh
  obtain ⟨L, hL⟩ : ∃ L, L = ps.length := ⟨_, rfl⟩
  rw [← hL] at hm hc ⊢
  have HL := Lib.hid hL
  obtain ⟨LH, hLH⟩ : ∃ L, L = how.length := ⟨_, rfl⟩
  rw [← hLH] at hmh hch ⊢
  have HLH := Lib.hid hLH
  obtain ⟨LR, hLR⟩ : ∃ L, L = raw.length := ⟨_, rfl⟩
  rw [← hLR] at HRW ⊢
  obtain ⟨h2, hh2⟩ : ∃ x, x = c0.half % 2 := ⟨_, rfl⟩
  have e1 : (c0.half : Int) % 2 = (h2 : Int) := by omega
  obtain ⟨c, hcd⟩ : ∃ c : Cr, c = ⟨c0.gen, h2, c0.serial⟩ := ⟨_, rfl⟩
  have ok : c.Ok := by
    rw [hcd]
    exact ⟨ok0.gen, by show h2 < 256; omega, ok0.serial⟩
  have hch2 : c.half ≤ 1 := by rw [hcd]; show h2 ≤ 1; omega
  have HC := Lib.hid (And.intro ok hch2)
  have HCD := Lib.hid hcd
  have HMH := Lib.hid (And.intro hmh hch)
  unfold maxLen at hm
  unfold CrVal
  obtain ⟨n3, hn3⟩ : ∃ n, n = w.heap.size := ⟨_, rfl⟩
  clear hv hh hr hrow hrowh hL hLH hLR hh2 hcd ok hch2 hmh hch hmr hcr
  go_enter Tryd.func8, Tryd.ntmps8
  go_upto_region 1 with fail
  have hb0 := bal (bre w) (.cells #[.int .u32 c0.gen, .int .u8 c0.half, .int .u32 c0.serial] 36)
  have hr0 := heap_alloc_new w (.cells #[.int .u32 c0.gen, .int .u8 c0.half, .int .u32 c0.serial] 36)
  generalize w.alloc (.cells #[.int .u32 c0.gen, .int .u8 c0.half, .int .u32 c0.serial] 36) = W at *
  rw [← hn3] at hr0 ⊢
  have hrow0 : Row3 W n3 c0 := hr0
  have HROW := Lib.hid hrow0
  have HB0 := Lib.hid hb0
  have HN3 : Hid (w.heap.size ≤ n3) := Lib.hid (by omega)
  clear hb0 hr0 hrow0 hn3
  go_wp2_with fail
  refine (awake_any W).mono ?_
  rintro e w1 ⟨rfl, hb1⟩
  have HROW1 := Lib.hid (HROW.out.below hb1)
  have HB1 := Lib.hid (btr HB0.out hb1)
  have x1 := HROW1.out.c1
  have fz := HROW1.out.fz
  clear hb1 HROW HB0
  go_upto_region 4 with fail
  have hrow2 : Row3 (w1.setCell ⟨n3, 1, none⟩ (.int .u8 h2)) n3 c := by
    rw [HCD.out]
    exact heap_setCell_same w1 n3 1 _ _ (.int .u8 h2) HROW1.out
  have hb2 : Below w.heap.size w (w1.setCell ⟨n3, 1, none⟩ (.int .u8 h2)) := HB1.out.setCell HN3.out _
  generalize w1.setCell ⟨n3, 1, none⟩ (.int .u8 h2) = w2 at *
  have HROW2 := Lib.hid hrow2
  have HB2 := Lib.hid hb2
  clear hrow2 hb2 x1 fz e1 HROW1 HB1 HCD
  go_upto_region 5 with (with_reducible refine wpList_min rfl _ _ _ rfl _ _ _ rfl rfl ?_; intro r hr; obtain ⟨n, rfl, hn8⟩ := min_eight hr; have HN8 := Lib.hid hn8; clear hn8 hr)
  obtain ⟨N, hN⟩ : ∃ N, N = 2 + 2 * (n + 1) := ⟨_, rfl⟩
  obtain ⟨N1, hN1⟩ : ∃ N, N = n + 1 := ⟨_, rfl⟩
  obtain ⟨N2, hN2⟩ : ∃ N, N = 2 * N1 := ⟨_, rfl⟩
  have f1 : (n : Int) + 1 = (N1 : Int) := by omega
  have f2 : (2 : Int) * (N1 : Int) = (N2 : Int) := by omega
  have f3 : (2 : Int) + (N2 : Int) = (N : Int) := by omega
  have f4 : n ≤ 8 := HN8.out.1
  have f6 : N1 ≤ 9 := by omega
  have f7 : N2 ≤ 18 := by omega
  have f8 : N ≤ 20 := by omega
  have HNN : Hid (N = 2 * n + 4) := Lib.hid (by omega)
  have f5 : 4 ≤ N := by omega
  clear hN hN1 hN2
  go_wp2_with fail
  refine (new_any N w2 (by omega) (by omega)).mono ?_
  rintro e w3 ⟨gd, F, rfl, hd3, hf3, hb3⟩
  have hlN : (Dk.new N).safe.length = N := by show (List.replicate N (List.replicate 512 (0 : UInt8))).length = N; exact List.length_replicate
  have hst3 : RdSt w w3 gd n3 N 0 c (Dk.new N) F := ⟨hd3, fun q hq => Nat.le_trans HB2.out.size (hf3 q hq), btr HB2.out hb3, HROW2.out.below hb3, fun hf => by have := hf3 _ hf; have := HROW2.out.lt; omega, hlN, ⟨rfl, rfl⟩, ⟨Nat.zero_le _, Nat.zero_le _⟩⟩
  have HST3 := Lib.hid hst3
  have hcf : c.from N = ((c.from N).1, n + 1) := by
    have := HNN.out
    unfold Cr.from
    split
    · omega
    · exact Prod.ext rfl (by show (N - 2) / 2 = n + 1; omega)
  obtain ⟨fr, hfr⟩ : ∃ x, x = (c.from N).1 := ⟨_, rfl⟩
  rw [← hfr] at hcf
  have hfit : fr + (n + 1) ≤ N := by
    have h1 := cr_from_le c N
    rw [hcf] at h1
    exact h1
  have HCF := Lib.hid (And.intro hcf hfit)
  have HFA : Hid (∀ w1, Calls Tryd.prog 34 #[CrVal c, .int .i64 N] w1 fun e w' => e = .returned (.tuple #[.int .i64 fr, .int .i64 N1]) ∧ Below w1.heap.size w1 w') := Lib.hid fun w1 => by
    have h := from_any c N (by omega) HC.out.1.half w1
    rw [hcf] at h
    have e9 : n + 1 = N1 := by omega
    rw [← e9]
    exact h
  unfold CrVal at HFA
  have HN20 := Lib.hid (And.intro f4 f8)
  clear hd3 hf3 hb3 hlN hst3 hfr hcf hfit HROW2 HB2 f1 f2 f3 f6 f7
  go_upto_region 6 with fail
  refine region_anyZ (z := 7) (S := fun w' => (w'.cell? ⟨n3, 0, none⟩ = some (.int .u32 c.gen) ∧ w'.cell? ⟨n3, 1, none⟩ = some (.int .u8 c.half) ∧ w'.cell? ⟨n3, 2, none⟩ = some (.int .u32 c.serial))) (by kernel_rfl) ?_
  refine anyZ_begin (fun hcl0 => ?_)
  refine anyZ_held (by exact ⟨(HST3.out.below (bdr (bre w3))).cr.c0, (HST3.out.below (bdr (bre w3))).cr.c1, (HST3.out.below (bdr (bre w3))).cr.c2⟩) (fun hHeld => ?_)
  -- 0: Op.load 36 (Operand.tmp 5)
  refine' anyZ_take (i := 0) (v := _) rfl (by rfl) (by kernel_rfl) (by kernel_rfl) (by kernel_rfl) hcl0 8 (by kernel_rfl) (by kernel_rfl) (fun _ _ _ h => h) (Or.inl ⟨by rfl, fun w hSw => ?hy1⟩) hHeld (fun hcl1 => ?ry1)
  case hy1 => (simp only [List.getElem_toArray, List.getElem_cons_zero]; obtain ⟨hS1, hS2, hS3⟩ := hSw; first | (go_simp; with_reducible rfl) | (go_simp; done) | rfl)
  simp only [List.getElem_toArray, List.getElem_cons_zero, Act.put, List.setIfInBounds_toArray, List.set_cons_zero, List.set_cons_succ]
  -- 1: Op.move (Operand.tmp 10)
  refine' anyZ_pure (i := 1) (v := _) rfl (by rfl) (by kernel_rfl) (by kernel_rfl) (by kernel_rfl) hcl1 (fun _ _ _ h => h) (Or.inl ⟨by rfl, fun w _ => ?hy2⟩) (fun _ => hHeld) (fun hcl2 => ?ry2)
  case hy2 => (simp only [List.getElem_toArray, List.getElem_cons_succ, List.getElem_cons_zero]; first | (go_simp; with_reducible rfl) | (go_simp; done) | rfl)
  simp only [List.getElem_toArray, List.getElem_cons_succ, List.getElem_cons_zero, Act.put, List.setIfInBounds_toArray, List.set_cons_zero, List.set_cons_succ]
  -- 2: Op.call { callee := Callee.value (Operand.func 35), args := 
  refine anyZ_one (i := 2) hcl2 (by kernel_rfl) (by simp only [List.getElem?_toArray, List.getElem?_cons_succ, List.getElem?_cons_zero]; rfl) (by rfl) (fun hcl3 K hK => ?_)
  go_simp
  refine (sectors_any gd (Dk.new N) F _ (HST3.out.below (bdr (bre w3))).dk).mono ?_
  rintro e w2 ⟨rfl, hw⟩
  have hw' := hw.symm
  subst hw'
  clear hw
  rw [HST3.out.len]
  refine hK _ _ (fun _ => ?_) ?_
  · exact ⟨(HST3.out.below (bdr (bre w3))).cr.c0, (HST3.out.below (bdr (bre w3))).cr.c1, (HST3.out.below (bdr (bre w3))).cr.c2⟩
  clear hK K hHeld
  have hHeld := (⟨(HST3.out.below (bdr (bre w3))).cr.c0, (HST3.out.below (bdr (bre w3))).cr.c1, (HST3.out.below (bdr (bre w3))).cr.c2⟩ : _ ∧ _ ∧ _)
  try simp only [Act.put, List.setIfInBounds_toArray, List.set_cons_zero, List.set_cons_succ]
  -- 3: Op.call { callee := Callee.value (Operand.func 34), args := 
  refine anyZ_one (i := 3) hcl3 (by kernel_rfl) (by simp only [List.getElem?_toArray, List.getElem?_cons_succ, List.getElem?_cons_zero]; rfl) (by rfl) (fun hcl4 K hK => ?_)
  go_simp
  refine (HFA.out _).mono ?_
  rintro e w5 ⟨rfl, hb5⟩
  have HST5 := Lib.hid ((HST3.out.below (bdr (bre w3))).below hb5)
  clear hb5
  refine hK _ _ (fun _ => ?_) ?_
  · exact ⟨HST5.out.cr.c0, HST5.out.cr.c1, HST5.out.cr.c2⟩
  clear hK K hHeld
  have hHeld := (⟨HST5.out.cr.c0, HST5.out.cr.c1, HST5.out.cr.c2⟩ : _ ∧ _ ∧ _)
  try simp only [Act.put, List.setIfInBounds_toArray, List.set_cons_zero, List.set_cons_succ]
  -- 4: Op.move (Operand.tmp 44)
  refine' anyZ_pure (i := 4) (v := _) rfl (by rfl) (by kernel_rfl) (by kernel_rfl) (by kernel_rfl) hcl4 (fun _ _ _ h => h) (Or.inl ⟨by rfl, fun w _ => ?hy5⟩) (fun _ => hHeld) (fun hcl5 => ?ry5)
  case hy5 => (simp only [List.getElem_toArray, List.getElem_cons_succ, List.getElem_cons_zero]; first | (go_simp; with_reducible rfl) | (go_simp; done) | rfl)
  simp only [List.getElem_toArray, List.getElem_cons_succ, List.getElem_cons_zero, Act.put, List.setIfInBounds_toArray, List.set_cons_zero, List.set_cons_succ]
  -- 5: Op.extract (Operand.tmp 40) 0
  refine' anyZ_pure (i := 5) (v := _) rfl (by rfl) (by kernel_rfl) (by kernel_rfl) (by kernel_rfl) hcl5 (fun _ _ _ h => h) (Or.inl ⟨by rfl, fun w _ => ?hy6⟩) (fun _ => hHeld) (fun hcl6 => ?ry6)
  case hy6 => (simp only [List.getElem_toArray, List.getElem_cons_succ, List.getElem_cons_zero]; first | (go_simp; with_reducible rfl) | (go_simp; done) | rfl)
  simp only [List.getElem_toArray, List.getElem_cons_succ, List.getElem_cons_zero, Act.put, List.setIfInBounds_toArray, List.set_cons_zero, List.set_cons_succ]
  -- 6: Op.extract (Operand.tmp 40) 1
  refine' anyZ_pure (i := 6) (v := _) rfl (by rfl) (by kernel_rfl) (by kernel_rfl) (by kernel_rfl) hcl6 (fun _ _ _ h => h) (Or.inl ⟨by rfl, fun w _ => ?hy7⟩) (fun _ => hHeld) (fun hcl7 => ?ry7)
  case hy7 => (simp only [List.getElem_toArray, List.getElem_cons_succ, List.getElem_cons_zero]; first | (go_simp; with_reducible rfl) | (go_simp; done) | rfl)
  simp only [List.getElem_toArray, List.getElem_cons_succ, List.getElem_cons_zero, Act.put, List.setIfInBounds_toArray, List.set_cons_zero, List.set_cons_succ]
  clear hHeld
  refine anyZ_chain_at (by kernel_rfl) ?_
  simp only [List.drop_succ_cons, List.drop_zero]
  clear HST3 HFA
  go_wp2_with fail
  go_loopw [14, 15, 16, 17, 48] (fun _ _ _ _ i wr => ∃ (k : Nat) (d : Dk) (F : Nat → Prop), k ≤ n ∧ i = .int .i64 k ∧ Hid (RdSt w wr gd n3 N k c d F)) (fun _ _ _ _ i _ => n - (intOf i).toNat)
  case atStart => exact ⟨0, Dk.new N, F, by omega, rfl, HST5⟩
  case round =>
    clear HST5
    obtain ⟨k, d, F, hkn, rfl, hst⟩ := hrel
    by_cases hlt : k < n
    · have d1 : decide ((k : Int) < (n : Int)) = true := decide_eq_true (by omega)
      have d1n : decide (k < n) = true := decide_eq_true hlt
      have hkl : k < ps.length := by rw [← HL.out]; have := HN8.out; omega
      have hkL : k < L := by have := HN8.out; omega
      rcases HR.out with h0 | ⟨gb, ob, rfl, hcell⟩
      · rw [h0] at hkl; simp at hkl
      obtain ⟨us, hul, hur, vd, hus, hvd, hpo⟩ := hcell k _ (List.getElem?_eq_getElem hkl)
      generalize ps[k] = p at *
      subst hus
      have hbl := hst.out.bel
      have u0 := hur 0 _ rfl
      have u1 := hur 1 _ rfl
      have u2 := hur 2 _ rfl
      have u3 := hur 3 _ rfl
      have u4 := hur 4 _ rfl
      have hgb : gb < w.heap.size := block_lt_of_cell u0
      have v0 := (hbl.cell (p := ⟨gb, ob + k * 5 + 0, none⟩) hgb).trans u0
      have v1 := (hbl.cell (p := ⟨gb, ob + k * 5 + 1, none⟩) hgb).trans u1
      have v2 := (hbl.cell (p := ⟨gb, ob + k * 5 + 2, none⟩) hgb).trans u2
      have v3 := (hbl.cell (p := ⟨gb, ob + k * 5 + 3, none⟩) hgb).trans u3
      have v4 := (hbl.cell (p := ⟨gb, ob + k * 5 + 4, none⟩) hgb).trans u4
      rw [Nat.add_zero] at v0
      have HVD := Lib.hid (hvd.below hbl)
      have HPO := Lib.hid hpo
      obtain ⟨ad, md, cd, rfl⟩ : ∃ a m c, vd = .slice a m c := by obtain ⟨a, c, e, -⟩ := hvd; exact ⟨a, _, c, e⟩
      clear hcell hul hur u0 u1 u2 u3 u4 hvd hpo hbl hgb hkl
      go_upto_region 11 with fail
      have hbq := bal (bre wr) (.cells #[.int .u32 p.gen, .int .u32 p.serial, .int .u32 p.number, .int .u8 p.kind, .slice ad md cd] 66)
      have hrq := heap_alloc_new wr (.cells #[.int .u32 p.gen, .int .u32 p.serial, .int .u32 p.number, .int .u8 p.kind, .slice ad md cd] 66)
      generalize wr.alloc (.cells #[.int .u32 p.gen, .int .u32 p.serial, .int .u32 p.number, .int .u8 p.kind, .slice ad md cd] 66) = wq at *
      obtain ⟨n15, hn15⟩ : ∃ n, n = wr.heap.size := ⟨_, rfl⟩
      rw [← hn15] at hrq ⊢
      have hbox : BoxP wq n15 p (.slice ad md cd) := hrq
      have HBX := Lib.hid hbox
      have HBQ := Lib.hid hbq
      have HDQ := Lib.hid (HVD.out.below hbq)
      have HSTQ := Lib.hid (hst.out.below hbq)
      have HN15 : Hid (wr.heap.size ≤ n15) := Lib.hid (by omega)
      obtain ⟨k1, hk1⟩ : ∃ x, x = max p.kind 1 := ⟨_, rfl⟩
      have m1 : max (p.kind : Int) 1 = (k1 : Int) := by omega
      have hk256 : k1 < 256 := by have := HPO.out.kind; omega
      have HK1 : Hid (k1 < 256) := Lib.hid hk256
      clear hbq hrq hn15 hbox HVD v0 v1 v2 v3 v4 hk1 hk256
      have HSB : Hid (∀ w', Below wq.heap.size wq w' → (w'.cell? ⟨n15, 3, none⟩ = some (.int .u8 p.kind) ∧ w'.cell? ⟨n15, 4, none⟩ = some (.slice ad md cd))) := Lib.hid (fun w' hb => ⟨(HBX.out.below hb).c3, (HBX.out.below hb).c4⟩)
      refine region_anyZ (z := 7) (S := fun w' => (w'.cell? ⟨n15, 3, none⟩ = some (.int .u8 p.kind) ∧ w'.cell? ⟨n15, 4, none⟩ = some (.slice ad md cd))) (by kernel_rfl) ?_
      refine anyZ_begin (fun hcl0 => ?_)
      refine anyZ_held (by exact HSB.out _ (bdr (bre wq))) (fun hHeld => ?_)
      -- 0: Op.fieldAddr 66 (Operand.tmp 15) 3
      refine' anyZ_pure (i := 0) (v := _) rfl (by rfl) (by kernel_rfl) (by kernel_rfl) (by kernel_rfl) hcl0 (fun _ _ _ h => h) (Or.inl ⟨by rfl, fun w _ => ?hx1⟩) (fun _ => hHeld) (fun hcl1 => ?rx1)
      case hx1 => (simp only [List.getElem_toArray, List.getElem_cons_zero]; first | (go_simp; with_reducible rfl) | (go_simp; done) | rfl)
      simp only [List.getElem_toArray, List.getElem_cons_zero, Act.put, List.setIfInBounds_toArray, List.set_cons_zero, List.set_cons_succ]
      -- 1: Op.load 5 (Operand.tmp 55)
      refine' anyZ_take (i := 1) (v := _) rfl (by rfl) (by kernel_rfl) (by kernel_rfl) (by kernel_rfl) hcl1 8 (by kernel_rfl) (by kernel_rfl) (fun _ _ _ h => h) (Or.inl ⟨by rfl, fun w hSw => ?hx2⟩) hHeld (fun hcl2 => ?rx2)
      case hx2 => (simp only [List.getElem_toArray, List.getElem_cons_succ, List.getElem_cons_zero]; obtain ⟨hS1, hS2⟩ := hSw; first | (go_simp; with_reducible rfl) | (go_simp; done) | rfl)
      simp only [List.getElem_toArray, List.getElem_cons_succ, List.getElem_cons_zero, Act.put, List.setIfInBounds_toArray, List.set_cons_zero, List.set_cons_succ]
      -- 2: Op.call { callee := Callee.builtin Builtin.max, args := #[Op
      refine' anyZ_pure (i := 2) (v := _) rfl (by rfl) (by kernel_rfl) (by kernel_rfl) (by kernel_rfl) hcl2 (fun _ _ _ h => h) (Or.inl ⟨by rfl, fun w _ => ?hx3⟩) (fun _ => hHeld) (fun hcl3 => ?rx3)
      case hx3 => (simp only [List.getElem_toArray, List.getElem_cons_succ, List.getElem_cons_zero]; first | (go_simp; with_reducible rfl) | (go_simp; done) | rfl)
      simp only [List.getElem_toArray, List.getElem_cons_succ, List.getElem_cons_zero, Act.put, List.setIfInBounds_toArray, List.set_cons_zero, List.set_cons_succ]
      -- 3: Op.fieldAddr 66 (Operand.tmp 15) 4
      refine' anyZ_pure (i := 3) (v := _) rfl (by rfl) (by kernel_rfl) (by kernel_rfl) (by kernel_rfl) hcl3 (fun _ _ _ h => h) (Or.inl ⟨by rfl, fun w _ => ?hx4⟩) (fun _ => hHeld) (fun hcl4 => ?rx4)
      case hx4 => (simp only [List.getElem_toArray, List.getElem_cons_succ, List.getElem_cons_zero]; first | (go_simp; with_reducible rfl) | (go_simp; done) | rfl)
      simp only [List.getElem_toArray, List.getElem_cons_succ, List.getElem_cons_zero, Act.put, List.setIfInBounds_toArray, List.set_cons_zero, List.set_cons_succ]
      -- 4: Op.load 23 (Operand.tmp 58)
      refine' anyZ_take (i := 4) (v := _) rfl (by rfl) (by kernel_rfl) (by kernel_rfl) (by kernel_rfl) hcl4 8 (by kernel_rfl) (by kernel_rfl) (fun _ _ _ h => h) (Or.inl ⟨by rfl, fun w hSw => ?hx5⟩) hHeld (fun hcl5 => ?rx5)
      case hx5 => (simp only [List.getElem_toArray, List.getElem_cons_succ, List.getElem_cons_zero]; obtain ⟨hS1, hS2⟩ := hSw; first | (go_simp; with_reducible rfl) | (go_simp; done) | rfl)
      simp only [List.getElem_toArray, List.getElem_cons_succ, List.getElem_cons_zero, Act.put, List.setIfInBounds_toArray, List.set_cons_zero, List.set_cons_succ]
      -- 6: Op.fieldAddr 66 (Operand.tmp 15) 3
      refine' anyZ_pure (i := 6) (v := _) rfl (by rfl) (by kernel_rfl) (by kernel_rfl) (by kernel_rfl) hcl5 (fun _ _ _ h => h) (Or.inl ⟨by rfl, fun w _ => ?hx6⟩) (fun _ => hHeld) (fun hcl6 => ?rx6)
      case hx6 => (simp only [List.getElem_toArray, List.getElem_cons_succ, List.getElem_cons_zero]; first | (go_simp; with_reducible rfl) | (go_simp; done) | rfl)
      simp only [List.getElem_toArray, List.getElem_cons_succ, List.getElem_cons_zero, Act.put, List.setIfInBounds_toArray, List.set_cons_zero, List.set_cons_succ]
      -- 5: Op.call { callee := Callee.value (Operand.func 11), args := 
      refine anyZ_one (i := 5) hcl6 (by kernel_rfl) (by simp only [List.getElem?_toArray, List.getElem?_cons_succ, List.getElem?_cons_zero]; rfl) (by rfl) (fun hcl7 K hK => ?_)
      go_simp
      refine (cut_any _ p.data 491 (by omega) (by omega) _ (HDQ.out.below (bdr (bre wq)))).mono ?_
      rintro e w5 ⟨v5, rfl, ho5, hb5⟩
      have HV5 := Lib.hid ho5
      have HB5 := Lib.hid (btr (bdr (bre wq)) hb5)
      clear ho5 hb5
      refine hK _ _ (fun _ => ?_) ?_
      · exact HSB.out _ HB5.out
      clear hK K hHeld
      try simp only [Act.put, List.setIfInBounds_toArray, List.set_cons_zero, List.set_cons_succ]
      refine anyZ_chain_at (by kernel_rfl) ?_
      simp only [List.drop_succ_cons, List.drop_zero]
      obtain ⟨a5, m5, c5, rfl⟩ := Own8.isSlice HV5.out
      have HBX5 := Lib.hid (HBX.out.below HB5.out)
      have HR5 : Hid (Rec8 0 w5 (.slice a5 m5 c5) (p.data.take 491)) := Lib.hid (Rec8.low (base' := 0) (Rec8.of_own HV5.out) (Nat.zero_le _))
      have HBB5 := Lib.hid (btr HBQ.out HB5.out)
      have y3 := HBX5.out.c3
      have y4 := HBX5.out.c4
      have yf := HBX5.out.fz
      clear HV5 HB5 HBX HBQ HDQ HSTQ HSB
      go_upto_region 12 with fail
      obtain ⟨p1, hp1⟩ : ∃ q : Pg, q = ⟨p.gen, p.serial, p.number, k1, p.data.take 491⟩ := ⟨_, rfl⟩
      have hbox6 := HBX5.out.put34 k1 (p.data.take 491) (.slice a5 m5 c5)
      rw [← hp1] at hbox6
      have hb6 : Below wr.heap.size wr ((w5.setCell ⟨n15, 3, none⟩ (.int .u8 k1)).setCell ⟨n15, 4, none⟩ (.slice a5 m5 c5)) := (HBB5.out.setCell HN15.out _).setCell HN15.out _
      have ho6 : Only w5 ((w5.setCell ⟨n15, 3, none⟩ (.int .u8 k1)).setCell ⟨n15, 4, none⟩ (.slice a5 m5 c5)) (fun q => q = n15) := (Only.setCell _ ⟨n15, 3, none⟩ _).trans (Only.setCell _ ⟨n15, 4, none⟩ _) fun _ _ h => h
      have hv6 := HR5.out.only ho6 (fun q hq cs fr e => by subst hq; rw [HBX5.out] at e; cases e)
      have hd1 : p1.data = p.data.take 491 := by rw [hp1]
      rw [← hd1] at hv6
      have hp1k : p1.Ok ∧ p1.data.length ≤ 491 := by
        rw [hp1]
        exact ⟨⟨HPO.out.gen, HPO.out.serial, HPO.out.number, HK1.out⟩, by show (p.data.take 491).length ≤ 491; rw [List.length_take]; omega⟩
      generalize (w5.setCell ⟨n15, 3, none⟩ (.int .u8 k1)).setCell ⟨n15, 4, none⟩ (.slice a5 m5 c5) = w6 at *
      have HBX6 := Lib.hid hbox6
      have HB6 := Lib.hid hb6
      have HV6 := Lib.hid hv6
      have HPK := Lib.hid hp1k
      clear hp1 hbox6 hb6 ho6 hv6 hd1 hp1k y3 y4 yf HBX5 HR5 HBB5 HPO HK1 m1
      go_upto_if 66 with fail
      go_cut [16] from 67 to 70 (fun hv w' => ∃ x : Nat, hv = .int .u8 x ∧ x < 256 ∧ w' = w6)
      case first =>
        by_cases hlh : k < LH
        · have d2 : decide ((k : Int) < (LH : Int)) = true := decide_eq_true (by omega)
          have d2n : decide (k < LH) = true := decide_eq_true hlh
          have hkh : k < how.length := by rw [← HLH.out]; exact hlh
          rcases HRH.out with h0 | ⟨gh, oh, rfl, hch⟩
          · rw [h0] at hkh; simp at hkh
          obtain ⟨ux, hux, huv⟩ := hch k _ (List.getElem?_eq_getElem hkh)
          generalize how[k] = hb at *
          have hlt8 := hb.toNat_lt
          have hmm := HMH.out.2
          subst huv
          unfold B8 at hux
          have u0 := ((btr hst.out.bel HB6.out).cell (p := ⟨gh, oh + k, none⟩) (block_lt_of_cell hux)).trans hux
          generalize hb.toNat = hx at *
          clear hch hux hkh
          go_wp2_with fail
          go_meet
          case rel => exact ⟨hx, rfl, by omega, rfl⟩
        · have d2 : decide ((k : Int) < (LH : Int)) = false := decide_eq_false (by omega)
          have d2n : decide (k < LH) = false := decide_eq_false hlh
          go_wp2_with fail
          go_meet
          case rel => exact ⟨0, rfl, by omega, rfl⟩
      case rest =>
      obtain ⟨x, rfl, hx256, hwc⟩ := hcut
      rename World => wc
      have hwc' := hwc.symm
      subst hwc'
      clear hwc
      obtain ⟨x8, hx8⟩ : ∃ q, q = x % 8 := ⟨_, rfl⟩
      have e8 : (x : Int) % 8 = (x8 : Int) := by omega
      have HX8 := Lib.hid hx8
      clear hx8
      go_upto_if 73 with fail
      go_cut [16, 72, 73] from 74 to 80 (fun hv _ _ w' => ∃ p2 : Pg, hv = .int .u8 x ∧ BoxP w' n15 p2 (.slice a5 m5 c5) ∧ p2.data = p1.data ∧ p2.Ok ∧ Below wr.heap.size wr w' ∧ Rec8 0 w' (.slice a5 m5 c5) p1.data)
      case first =>
        by_cases h5 : x8 < 5
        · have d3 : decide ((x8 : Int) < 5) = true := decide_eq_true (by omega)
          have d3n : decide (x8 < 5) = true := decide_eq_true h5
          have hcr6 := (hst.out.below HB6.out).cr
          have y0 := hcr6.c0
          have yf := HBX6.out.fz
          have z0 := HBX6.out.c0
          have z2 := HBX6.out.c2
          have z3 := HBX6.out.c3
          have w1 : IntKind.u32.wrap (k : Int) = (k : Int) := by simp [IntKind.wrap, IntKind.signed, IntKind.bits]; omega
          clear hcr6
          go_wp2_with fail
          go_meet
          case rel =>
            have hox : Only w6 (((w6.setCell ⟨n15, 0, none⟩ (.int .u32 c.gen)).setCell ⟨n15, 3, none⟩ (.int .u8 1)).setCell ⟨n15, 2, none⟩ (.int .u32 k)) (fun q => q = n15) :=
              ((Only.setCell _ ⟨n15, 0, none⟩ _).trans (Only.setCell _ ⟨n15, 3, none⟩ _) fun _ _ h => h).trans (Only.setCell _ ⟨n15, 2, none⟩ _) fun _ _ h => h
            exact ⟨⟨c.gen, p1.serial, k, 1, p1.data⟩, rfl, HBX6.out.put032 c.gen k, rfl, ⟨HC.out.1.gen, HPK.out.1.serial, by show k < 4294967296; omega, by show 1 < 256; decide⟩, ((HB6.out.setCell HN15.out _).setCell HN15.out _).setCell HN15.out _, HV6.out.only hox (fun q hq cs fr e => by subst hq; rw [HBX6.out] at e; cases e)⟩
        · have d3 : decide ((x8 : Int) < 5) = false := decide_eq_false (by omega)
          have d3n : decide (x8 < 5) = false := decide_eq_false h5
          go_wp2_with fail
          go_meet
          case rel => exact ⟨p1, rfl, HBX6.out, rfl, HPK.out.1, HB6.out, HV6.out⟩
      case rest =>
      obtain ⟨p2, rfl, hbx7, hd7, hok7, hb7, hv7⟩ := hcut
      rename World => w7
      have y0 := hbx7.c0
      have y1 := hbx7.c1
      have y2 := hbx7.c2
      have y3 := hbx7.c3
      have y4 := hbx7.c4
      have HV7 := Lib.hid hv7
      have HB7 := Lib.hid hb7
      have HPK7 := Lib.hid (And.intro hd7 (And.intro hok7 (show p2.data.length ≤ 491 by rw [hd7]; exact HPK.out.2)))
      clear hbx7 hd7 hok7 hb7 hv7 HV6 HB6 HPK HBX6 HX8 e8
      go_wp2_with fail
      refine (rpbytes_any _ p2 w7 ⟨_, rfl, by rw [HPK7.out.1]; exact HV7.out.1⟩ HPK7.out.2.1 HPK7.out.2.2).mono ?_
      rintro e w8 ⟨v8, rfl, ho8, hb8⟩
      have hl8 : (seal8 p2.raw).length = 512 := by rw [seal_length, raw_length _ HPK7.out.2.2]
      obtain ⟨q, hq⟩ : ∃ q, q = seal8 p2.raw := ⟨_, rfl⟩
      rw [← hq] at ho8 hl8
      obtain ⟨g8, c8, rfl, -, -, -⟩ := ho8.shape (by intro h; rw [h] at hl8; cases hl8)
      rw [hl8] at ho8 ⊢
      have HO8 := Lib.hid ho8
      have HL8 := Lib.hid hl8
      have HB8 := Lib.hid hb8
      obtain ⟨x16, hx16⟩ : ∃ q, q = x % 16 := ⟨_, rfl⟩
      have e16 : (x : Int) % 16 = (x16 : Int) := by omega
      have HX16 := Lib.hid hx16
      clear hq ho8 hl8 hb8 hx16 y0 y1 y2 y3 y4 HV7 HPK7
      go_upto_block 2 with fail
      rw [e16]
      clear e16
      go_cut [17] from 85 to 102 (fun t w' => ∃ q' : List UInt8, Own8 5 w7.heap.size w' t q' ∧ q'.length = 512 ∧ Below w7.heap.size w7 w')
      case first =>
        by_cases h13 : x16 = 13
        · subst h13
          obtain ⟨y, hy⟩ : ∃ y, y = x + 1 := ⟨_, rfl⟩
          have hy1 : (1 : Int) + (x : Int) = (y : Int) := by omega
          have hy2 : IntKind.u8.wrap (y : Int) = (y : Int) := by have := HX16.out; simp [IntKind.wrap, IntKind.signed, IntKind.bits]; omega
          have hy3 : y < 256 := by have := HX16.out; omega
          have hi : IntKind.i64.wrap (x : Int) = (x : Int) := by rw [IntKind.wrap_i64]; omega
          obtain ⟨hcell, hfr⟩ := HO8.out.cell x (by rw [HL8.out]; omega)
          have hst8 := HO8.out.store x (q[x]'(by rw [HL8.out]; omega) ^^^ UInt8.ofNat y)
          have hb8 : B8 (q[x]'(by rw [HL8.out]; omega) ^^^ UInt8.ofNat y) = .int .u8 (((q[x]'(by rw [HL8.out]; omega)).toNat ^^^ y : Nat) : Int) := by
            unfold B8
            rw [UInt8.toNat_xor, UInt8.toNat_ofNat_of_lt' (show y < UInt8.size from hy3)]
          rw [hb8] at hst8
          have hxr : bits .xor .u8 (((q[x]'(by rw [HL8.out]; omega)).toNat : Nat) : Int) (y : Int) = (((q[x]'(by rw [HL8.out]; omega)).toNat ^^^ y : Nat) : Int) := u8_xor_nat _ _ (q[x]'(by rw [HL8.out]; omega)).toNat_lt (by omega)
          have HST8 := Lib.hid hst8
          have HLQ : Hid ((q.set x (q[x]'(by rw [HL8.out]; omega) ^^^ UInt8.ofNat y)).length = 512) := Lib.hid (by rw [List.length_set]; exact HL8.out)
          unfold B8 at hcell
          generalize (q[x]'(by rw [HL8.out]; omega)).toNat = bx at *
          generalize q.set x _ = qn at *
          generalize bx ^^^ y = bz at *
          have hx512 : (x : Int) < 512 := by omega
          have hx512n : x < 512 := by omega
          clear hst8 hb8 hy
          go_wp2_with fail
          go_meet
          case rel => exact ⟨qn, HST8.out.1, HLQ.out, HB8.out.trans HST8.out.2⟩
        by_cases h14 : x16 = 14
        · subst h14
          clear h13
          go_wp2_with fail
          refine (full_any _ raw w8 (HRW.out.below (btr (btr hst.out.bel HB7.out) HB8.out))).mono ?_
          rintro e w9 ⟨v9, rfl, ho9, hb9⟩
          have HO9 := Lib.hid ho9
          have HB9 := Lib.hid hb9
          clear ho9 hb9
          go_wp2_with fail
          go_meet
          case rel => exact ⟨_, Own8.kept HO9.out HB8.out.size (bre w9), fullOf_length raw, btr HB8.out HB9.out⟩
        by_cases h15 : x16 = 15
        · subst h15
          clear h13 h14
          go_wp2_with (refine wpList_make8 rfl _ _ 23 5 mk8R rfl 512 rfl rfl (by omega) (fun w9 hmk hbw => ?_))
          go_meet
          case rel => exact ⟨_, Own8.kept hmk HB8.out.size (bre w9), List.length_replicate, btr HB8.out hbw⟩
        · have k0 : ((x16 : Int) == 13) = false := beq_false_of_ne (by omega)
          have k1 : ((x16 : Int) == 14) = false := beq_false_of_ne (by omega)
          have k2 : ((x16 : Int) == 15) = false := beq_false_of_ne (by omega)
          have k4 : decide ((x16 : Int) = 13) = false := decide_eq_false (by omega)
          have k5 : decide ((x16 : Int) = 14) = false := decide_eq_false (by omega)
          have k6 : decide ((x16 : Int) = 15) = false := decide_eq_false (by omega)
          clear h13 h14 h15
          go_wp2_with fail
          go_meet
          case rel => exact ⟨_, HO8.out, HL8.out, HB8.out⟩
      case rest =>
      obtain ⟨q', ho9, hl9, hb9⟩ := hcut
      rename World => w9
      obtain ⟨a9, m9, c9, rfl⟩ := ho9.isSlice
      have HO9 := Lib.hid ho9
      have HL9 := Lib.hid hl9
      have HST9 := Lib.hid (hst.out.below (btr HB7.out hb9))
      obtain ⟨m, hm'⟩ : ∃ m, m = fr + k := ⟨_, rfl⟩
      have hmN : m < N := by have := HCF.out.2; omega
      have hadd : IntKind.i64.wrap (m : Int) = (m : Int) := by rw [IntKind.wrap_i64]; omega
      have hadd2 : (fr : Int) + (k : Int) = (m : Int) := by omega
      clear ho9 hl9 hb9 hst HO8 HL8 HB8 HB7 HX16 hm'
      go_wp2_with fail
      refine (write_ok gd d F m _ q' w9 HST9.out.dk (by rw [HST9.out.len]; exact hmN) HST9.out.free.may HO9.out.bytes HL9.out (by rw [HST9.out.free.2]; decide) (by rw [HST9.out.free.2]; decide) (by have := HST9.out.few.1; omega) (by have := HST9.out.few.2; omega)).mono ?_
      rintro e w10 ⟨F10, rfl, hd10, hm10⟩
      have HS10 := Lib.hid (HST9.out.wrote hd10 hm10)
      clear hd10 hm10 HST9 HO9 HL9 hadd hadd2 hmN
      go_wp2_with fail
      go_roundw
      case rel => exact ⟨k + 1, d.wrote m q', F10, by omega, by go_num, HS10⟩
      case measure => simp [intOf]; omega
    · have d1 : decide ((k : Int) < (n : Int)) = false := decide_eq_false (by omega)
      have d1n : decide (k < n) = false := decide_eq_false hlt
      clear HR HRW HRH HL HLH HMH HN8 HNN hm hc
      go_wp2_with fail
      refine (sync_ok gd d F wr hst.out.dk hst.out.free.may (by rw [hst.out.free.2]; decide) (by rw [hst.out.free.2]; decide) (by have := hst.out.few.2; have := HN20.out.1; omega)).mono ?_
      rintro e w5 ⟨F5, rfl, hd5, hm5⟩
      have HS5 := Lib.hid (hst.out.synced hd5 hm5)
      have HW5 : Hid (d.synced.wait = []) := Lib.hid rfl
      generalize d.synced = ds at *
      clear hst hd5 hm5 d1 d1n
      have hlen5 : ds.safe.length = N := HS5.out.len
      have HL5 := Lib.hid hlen5
      have y0 := HS5.out.cr.c0
      have y1 := HS5.out.cr.c1
      have y2 := HS5.out.cr.c2
      clear hlen5
      go_wp2_with fail
      refine (ropen_any gd ds F5 c HC.out.1 w5 HS5.out.dk HC.out.2 (by rw [HW5.out]; exact Nat.zero_le _)).mono ?_
      rintro e w6 ⟨hb6, -, hop⟩
      obtain ⟨s, P, so, hs1, hs2, hs3⟩ := hop (by rw [HL5.out]; exact f5)
      have HS6 := Lib.hid (HS5.out.below hb6)
      have HX6 := Lib.hid hs1
      clear hop y0 y1 y2
      have hn5k : (halfOf ds (c.from ds.safe.length).1 (c.from ds.safe.length).2).length ≤ 5000 := by
        rw [half_len, HL5.out, HCF.out.1]
        have := HN20.out.1
        show n + 1 ≤ 5000
        omega
      have HN5 := Lib.hid hn5k
      have hfew := scan_few (by rw [HL5.out, HCF.out.1]; have := HN20.out.1; show n + 1 ≤ 100; omega) hs1
      have HFEW := Lib.hid hfew
      clear hn5k hfew hs1
      have hfrn : (c.from ds.safe.length).1 = fr := by rw [HL5.out, HCF.out.1]
      cases s with
      | some i =>
        have he := hs2 i rfl
        subst he
        rw [hfrn]
        obtain ⟨m, hm'⟩ : ∃ m, m = fr + i := ⟨_, rfl⟩
        rw [← hm']
        have hadd2 : (fr : Int) + (i : Int) = (m : Int) := by omega
        have hil : i < (halfOf ds (c.from ds.safe.length).1 (c.from ds.safe.length).2).length := by
          have h1 := scan_some_lt c.gen _ 0 0 i (congrArg Prod.fst HX6.out)
          rwa [Nat.zero_add] at h1
        have hmb : m ≤ 10000 := by
          have h1 := HN5.out
          have h2 := HCF.out.2
          have h3 := HN20.out.2
          omega
        have hadd : IntKind.i64.wrap (m : Int) = (m : Int) := by rw [IntKind.wrap_i64]; omega
        have h0i : decide ((0 : Int) ≤ (i : Int)) = true := decide_eq_true (by omega)
        clear hs2 hs3 hm' hfrn hil hmb
        go_upto_region 29 with fail
        refine region_anyZ (z := 9) (S := fun w' => (w'.cell? ⟨n3, 0, none⟩ = some (.int .u32 c.gen) ∧ w'.cell? ⟨n3, 1, none⟩ = some (.int .u8 c.half) ∧ w'.cell? ⟨n3, 2, none⟩ = some (.int .u32 c.serial))) (by kernel_rfl) ?_
        refine anyZ_begin (fun hcl0 => ?_)
        refine anyZ_held (by exact ⟨(HS6.out.below (bdr (bre w6))).cr.c0, (HS6.out.below (bdr (bre w6))).cr.c1, (HS6.out.below (bdr (bre w6))).cr.c2⟩) (fun hHeld => ?_)
        -- 0: Op.move (Operand.tmp 10)
        refine' anyZ_pure (i := 0) (v := _) rfl (by rfl) (by kernel_rfl) (by kernel_rfl) (by kernel_rfl) hcl0 (fun _ _ _ h => h) (Or.inl ⟨by rfl, fun w _ => ?ht1⟩) (fun _ => hHeld) (fun hcl1 => ?rt1)
        case ht1 => (simp only [List.getElem_toArray, List.getElem_cons_zero]; first | (go_simp; with_reducible rfl) | (go_simp; done) | rfl)
        simp only [List.getElem_toArray, List.getElem_cons_zero, Act.put, List.setIfInBounds_toArray, List.set_cons_zero, List.set_cons_succ]
        -- 1: Op.load 36 (Operand.tmp 5)
        refine' anyZ_take (i := 1) (v := _) rfl (by rfl) (by kernel_rfl) (by kernel_rfl) (by kernel_rfl) hcl1 8 (by kernel_rfl) (by kernel_rfl) (fun _ _ _ h => h) (Or.inl ⟨by rfl, fun w hSw => ?ht2⟩) hHeld (fun hcl2 => ?rt2)
        case ht2 => (simp only [List.getElem_toArray, List.getElem_cons_succ, List.getElem_cons_zero]; obtain ⟨hS1, hS2, hS3⟩ := hSw; first | (go_simp; with_reducible rfl) | (go_simp; done) | rfl)
        simp only [List.getElem_toArray, List.getElem_cons_succ, List.getElem_cons_zero, Act.put, List.setIfInBounds_toArray, List.set_cons_zero, List.set_cons_succ]
        -- 3: Op.fieldAddr 36 (Operand.tmp 5) 0
        refine' anyZ_pure (i := 3) (v := _) rfl (by rfl) (by kernel_rfl) (by kernel_rfl) (by kernel_rfl) hcl2 (fun _ _ _ h => h) (Or.inl ⟨by rfl, fun w _ => ?ht3⟩) (fun _ => hHeld) (fun hcl3 => ?rt3)
        case ht3 => (simp only [List.getElem_toArray, List.getElem_cons_succ, List.getElem_cons_zero]; first | (go_simp; with_reducible rfl) | (go_simp; done) | rfl)
        simp only [List.getElem_toArray, List.getElem_cons_succ, List.getElem_cons_zero, Act.put, List.setIfInBounds_toArray, List.set_cons_zero, List.set_cons_succ]
        -- 4: Op.load 34 (Operand.tmp 123)
        refine' anyZ_take (i := 4) (v := _) rfl (by rfl) (by kernel_rfl) (by kernel_rfl) (by kernel_rfl) hcl3 8 (by kernel_rfl) (by kernel_rfl) (fun _ _ _ h => h) (Or.inl ⟨by rfl, fun w hSw => ?ht4⟩) hHeld (fun hcl4 => ?rt4)
        case ht4 => (simp only [List.getElem_toArray, List.getElem_cons_succ, List.getElem_cons_zero]; obtain ⟨hS1, hS2, hS3⟩ := hSw; first | (go_simp; with_reducible rfl) | (go_simp; done) | rfl)
        simp only [List.getElem_toArray, List.getElem_cons_succ, List.getElem_cons_zero, Act.put, List.setIfInBounds_toArray, List.set_cons_zero, List.set_cons_succ]
        -- 2: Op.call { callee := Callee.value (Operand.func 27), args := 
        refine anyZ_one (i := 2) hcl4 (by kernel_rfl) (by simp only [List.getElem?_toArray, List.getElem?_cons_succ, List.getElem?_cons_zero]; rfl) (by rfl) (fun hcl5 K hK => ?_)
        go_simp
        refine (half_any gd ds F5 c _ (HS6.out.below (bdr (bre w6))).dk HC.out.1.half (by rw [HW5.out]; exact Nat.zero_le _)).mono ?_
        rintro e w8 ⟨v8, rfl, ho8, hb8⟩
        have HS8 := Lib.hid ((HS6.out.below (bdr (bre w6))).below hb8)
        have HV8 := Lib.hid ho8
        clear ho8 hb8
        refine hK _ _ (fun _ => ?_) ?_
        · exact ⟨HS8.out.cr.c0, HS8.out.cr.c1, HS8.out.cr.c2⟩
        clear hK K hHeld
        have hHeld := (⟨HS8.out.cr.c0, HS8.out.cr.c1, HS8.out.cr.c2⟩ : _ ∧ _ ∧ _)
        try simp only [Act.put, List.setIfInBounds_toArray, List.set_cons_zero, List.set_cons_succ]
        -- 5: Op.call { callee := Callee.value (Operand.func 33), args := 
        refine anyZ_one (i := 5) hcl5 (by kernel_rfl) (by simp only [List.getElem?_toArray, List.getElem?_cons_succ, List.getElem?_cons_zero]; rfl) (by rfl) (fun hcl6 K hK => ?_)
        go_simp
        refine (rfopen_any _ _ c.gen w8 HV8.out.rows HN5.out).mono ?_
        rintro e w9 ⟨s9, P9, so9, hs9, hb9, he9, -⟩
        rw [HX6.out] at hs9
        cases hs9
        have hee := he9 i rfl
        subst hee
        have HS9 := Lib.hid (HS8.out.below hb9)
        clear hb9 he9
        refine hK _ _ (fun _ => ?_) ?_
        · exact ⟨HS9.out.cr.c0, HS9.out.cr.c1, HS9.out.cr.c2⟩
        clear hK K hHeld
        have hHeld := (⟨HS9.out.cr.c0, HS9.out.cr.c1, HS9.out.cr.c2⟩ : _ ∧ _ ∧ _)
        try simp only [Act.put, List.setIfInBounds_toArray, List.set_cons_zero, List.set_cons_succ]
        -- 6: Op.move (Operand.tmp 125)
        refine' anyZ_pure (i := 6) (v := _) rfl (by rfl) (by kernel_rfl) (by kernel_rfl) (by kernel_rfl) hcl6 (fun _ _ _ h => h) (Or.inl ⟨by rfl, fun w _ => ?ht7⟩) (fun _ => hHeld) (fun hcl7 => ?rt7)
        case ht7 => (simp only [List.getElem_toArray, List.getElem_cons_succ, List.getElem_cons_zero]; first | (go_simp; with_reducible rfl) | (go_simp; done) | rfl)
        simp only [List.getElem_toArray, List.getElem_cons_succ, List.getElem_cons_zero, Act.put, List.setIfInBounds_toArray, List.set_cons_zero, List.set_cons_succ]
        -- 7: Op.extract (Operand.tmp 119) 0
        refine' anyZ_pure (i := 7) (v := _) rfl (by rfl) (by kernel_rfl) (by kernel_rfl) (by kernel_rfl) hcl7 (fun _ _ _ h => h) (Or.inl ⟨by rfl, fun w _ => ?ht8⟩) (fun _ => hHeld) (fun hcl8 => ?rt8)
        case ht8 => (simp only [List.getElem_toArray, List.getElem_cons_succ, List.getElem_cons_zero]; first | (go_simp; with_reducible rfl) | (go_simp; done) | rfl)
        simp only [List.getElem_toArray, List.getElem_cons_succ, List.getElem_cons_zero, Act.put, List.setIfInBounds_toArray, List.set_cons_zero, List.set_cons_succ]
        -- 8: Op.extract (Operand.tmp 119) 1
        refine' anyZ_pure (i := 8) (v := _) rfl (by rfl) (by kernel_rfl) (by kernel_rfl) (by kernel_rfl) hcl8 (fun _ _ _ h => h) (Or.inl ⟨by rfl, fun w _ => ?ht9⟩) (fun _ => hHeld) (fun hcl9 => ?rt9)
        case ht9 => (simp only [List.getElem_toArray, List.getElem_cons_succ, List.getElem_cons_zero]; first | (go_simp; with_reducible rfl) | (go_simp; done) | rfl)
        simp only [List.getElem_toArray, List.getElem_cons_succ, List.getElem_cons_zero, Act.put, List.setIfInBounds_toArray, List.set_cons_zero, List.set_cons_succ]
        clear hHeld
        refine anyZ_chain_at (by kernel_rfl) ?_
        simp only [List.drop_succ_cons, List.drop_zero]
        go_wp2_with fail
        go_ret
        exact ⟨rfl, HS9.out.bel⟩
      | none =>
        obtain ⟨g, G, he, hr, hG⟩ := hs3 rfl
        subst he
        have HR6 := Lib.hid hr
        obtain ⟨XS, hXS⟩ : ∃ q, q = serialOf c ds := ⟨_, rfl⟩
        have HXS := Lib.hid hXS
        rw [← hXS] at HR6
        obtain ⟨r, hrd⟩ : ∃ r : Rl, r = ⟨c.gen, (c.from ds.safe.length).1, (c.from ds.safe.length).2, XS, cutL P, so⟩ := ⟨_, rfl⟩
        rw [← hrd] at HR6
        have HRS : Hid (r.ls = cutL P ∧ r.serial = XS) := Lib.hid (by rw [hrd]; exact ⟨rfl, rfl⟩)
        clear hs2 hs3 hr hG hXS hrd hfrn
        go_upto_region 29 with fail
        refine region_anyZ (z := 9) (S := fun w' => (w'.cell? ⟨n3, 0, none⟩ = some (.int .u32 c.gen) ∧ w'.cell? ⟨n3, 1, none⟩ = some (.int .u8 c.half) ∧ w'.cell? ⟨n3, 2, none⟩ = some (.int .u32 c.serial))) (by kernel_rfl) ?_
        refine anyZ_begin (fun hcl0 => ?_)
        refine anyZ_held (by exact ⟨(HS6.out.below (bdr (bre w6))).cr.c0, (HS6.out.below (bdr (bre w6))).cr.c1, (HS6.out.below (bdr (bre w6))).cr.c2⟩) (fun hHeld => ?_)
        -- 0: Op.move (Operand.tmp 10)
        refine' anyZ_pure (i := 0) (v := _) rfl (by rfl) (by kernel_rfl) (by kernel_rfl) (by kernel_rfl) hcl0 (fun _ _ _ h => h) (Or.inl ⟨by rfl, fun w _ => ?hu1⟩) (fun _ => hHeld) (fun hcl1 => ?ru1)
        case hu1 => (simp only [List.getElem_toArray, List.getElem_cons_zero]; first | (go_simp; with_reducible rfl) | (go_simp; done) | rfl)
        simp only [List.getElem_toArray, List.getElem_cons_zero, Act.put, List.setIfInBounds_toArray, List.set_cons_zero, List.set_cons_succ]
        -- 1: Op.load 36 (Operand.tmp 5)
        refine' anyZ_take (i := 1) (v := _) rfl (by rfl) (by kernel_rfl) (by kernel_rfl) (by kernel_rfl) hcl1 8 (by kernel_rfl) (by kernel_rfl) (fun _ _ _ h => h) (Or.inl ⟨by rfl, fun w hSw => ?hu2⟩) hHeld (fun hcl2 => ?ru2)
        case hu2 => (simp only [List.getElem_toArray, List.getElem_cons_succ, List.getElem_cons_zero]; obtain ⟨hS1, hS2, hS3⟩ := hSw; first | (go_simp; with_reducible rfl) | (go_simp; done) | rfl)
        simp only [List.getElem_toArray, List.getElem_cons_succ, List.getElem_cons_zero, Act.put, List.setIfInBounds_toArray, List.set_cons_zero, List.set_cons_succ]
        -- 3: Op.fieldAddr 36 (Operand.tmp 5) 0
        refine' anyZ_pure (i := 3) (v := _) rfl (by rfl) (by kernel_rfl) (by kernel_rfl) (by kernel_rfl) hcl2 (fun _ _ _ h => h) (Or.inl ⟨by rfl, fun w _ => ?hu3⟩) (fun _ => hHeld) (fun hcl3 => ?ru3)
        case hu3 => (simp only [List.getElem_toArray, List.getElem_cons_succ, List.getElem_cons_zero]; first | (go_simp; with_reducible rfl) | (go_simp; done) | rfl)
        simp only [List.getElem_toArray, List.getElem_cons_succ, List.getElem_cons_zero, Act.put, List.setIfInBounds_toArray, List.set_cons_zero, List.set_cons_succ]
        -- 4: Op.load 34 (Operand.tmp 123)
        refine' anyZ_take (i := 4) (v := _) rfl (by rfl) (by kernel_rfl) (by kernel_rfl) (by kernel_rfl) hcl3 8 (by kernel_rfl) (by kernel_rfl) (fun _ _ _ h => h) (Or.inl ⟨by rfl, fun w hSw => ?hu4⟩) hHeld (fun hcl4 => ?ru4)
        case hu4 => (simp only [List.getElem_toArray, List.getElem_cons_succ, List.getElem_cons_zero]; obtain ⟨hS1, hS2, hS3⟩ := hSw; first | (go_simp; with_reducible rfl) | (go_simp; done) | rfl)
        simp only [List.getElem_toArray, List.getElem_cons_succ, List.getElem_cons_zero, Act.put, List.setIfInBounds_toArray, List.set_cons_zero, List.set_cons_succ]
        -- 2: Op.call { callee := Callee.value (Operand.func 27), args := 
        refine anyZ_one (i := 2) hcl4 (by kernel_rfl) (by simp only [List.getElem?_toArray, List.getElem?_cons_succ, List.getElem?_cons_zero]; rfl) (by rfl) (fun hcl5 K hK => ?_)
        go_simp
        refine (half_any gd ds F5 c _ (HS6.out.below (bdr (bre w6))).dk HC.out.1.half (by rw [HW5.out]; exact Nat.zero_le _)).mono ?_
        rintro e w8 ⟨v8, rfl, ho8, hb8⟩
        have HS8 := Lib.hid ((HS6.out.below (bdr (bre w6))).below hb8)
        have HV8 := Lib.hid ho8
        have HR8 := Lib.hid ((HR6.out.below (bdr (bre w6))).below hb8)
        clear ho8 hb8
        refine hK _ _ (fun _ => ?_) ?_
        · exact ⟨HS8.out.cr.c0, HS8.out.cr.c1, HS8.out.cr.c2⟩
        clear hK K hHeld
        have hHeld := (⟨HS8.out.cr.c0, HS8.out.cr.c1, HS8.out.cr.c2⟩ : _ ∧ _ ∧ _)
        try simp only [Act.put, List.setIfInBounds_toArray, List.set_cons_zero, List.set_cons_succ]
        -- 5: Op.call { callee := Callee.value (Operand.func 33), args := 
        refine anyZ_one (i := 5) hcl5 (by kernel_rfl) (by simp only [List.getElem?_toArray, List.getElem?_cons_succ, List.getElem?_cons_zero]; rfl) (by rfl) (fun hcl6 K hK => ?_)
        go_simp
        refine (rfopen_any _ _ c.gen w8 HV8.out.rows HN5.out).mono ?_
        rintro e w9 ⟨s9, P9, so9, hs9, hb9, -, hg9⟩
        rw [HX6.out] at hs9
        cases hs9
        obtain ⟨v9, he9, ho9⟩ := hg9 rfl
        subst he9
        have HS9 := Lib.hid (HS8.out.below hb9)
        have HV9 := Lib.hid ho9
        have HR9 := Lib.hid (HR8.out.below hb9)
        clear hb9 hg9 ho9
        refine hK _ _ (fun _ => ?_) ?_
        · exact ⟨HS9.out.cr.c0, HS9.out.cr.c1, HS9.out.cr.c2⟩
        clear hK K hHeld
        have hHeld := (⟨HS9.out.cr.c0, HS9.out.cr.c1, HS9.out.cr.c2⟩ : _ ∧ _ ∧ _)
        try simp only [Act.put, List.setIfInBounds_toArray, List.set_cons_zero, List.set_cons_succ]
        -- 6: Op.move (Operand.tmp 125)
        refine' anyZ_pure (i := 6) (v := _) rfl (by rfl) (by kernel_rfl) (by kernel_rfl) (by kernel_rfl) hcl6 (fun _ _ _ h => h) (Or.inl ⟨by rfl, fun w _ => ?hu7⟩) (fun _ => hHeld) (fun hcl7 => ?ru7)
        case hu7 => (simp only [List.getElem_toArray, List.getElem_cons_succ, List.getElem_cons_zero]; first | (go_simp; with_reducible rfl) | (go_simp; done) | rfl)
        simp only [List.getElem_toArray, List.getElem_cons_succ, List.getElem_cons_zero, Act.put, List.setIfInBounds_toArray, List.set_cons_zero, List.set_cons_succ]
        -- 7: Op.extract (Operand.tmp 119) 0
        refine' anyZ_pure (i := 7) (v := _) rfl (by rfl) (by kernel_rfl) (by kernel_rfl) (by kernel_rfl) hcl7 (fun _ _ _ h => h) (Or.inl ⟨by rfl, fun w _ => ?hu8⟩) (fun _ => hHeld) (fun hcl8 => ?ru8)
        case hu8 => (simp only [List.getElem_toArray, List.getElem_cons_succ, List.getElem_cons_zero]; first | (go_simp; with_reducible rfl) | (go_simp; done) | rfl)
        simp only [List.getElem_toArray, List.getElem_cons_succ, List.getElem_cons_zero, Act.put, List.setIfInBounds_toArray, List.set_cons_zero, List.set_cons_succ]
        -- 8: Op.extract (Operand.tmp 119) 1
        refine' anyZ_pure (i := 8) (v := _) rfl (by rfl) (by kernel_rfl) (by kernel_rfl) (by kernel_rfl) hcl8 (fun _ _ _ h => h) (Or.inl ⟨by rfl, fun w _ => ?hu9⟩) (fun _ => hHeld) (fun hcl9 => ?ru9)
        case hu9 => (simp only [List.getElem_toArray, List.getElem_cons_succ, List.getElem_cons_zero]; first | (go_simp; with_reducible rfl) | (go_simp; done) | rfl)
        simp only [List.getElem_toArray, List.getElem_cons_succ, List.getElem_cons_zero, Act.put, List.setIfInBounds_toArray, List.set_cons_zero, List.set_cons_succ]
        clear hHeld
        refine anyZ_chain_at (by kernel_rfl) ?_
        simp only [List.drop_succ_cons, List.drop_zero]
        obtain ⟨a9, c9, hv9, -, -, -, -⟩ := id HV9.out.rows
        subst hv9
        go_upto_region 32 with fail
        have HT9 := Lib.hid (HS9.out.below (bdr (bre w9)))
        have HQ9 := Lib.hid (HR9.out.below (bdr (bre w9)))
        have HU9 := Lib.hid (HV9.out.below (bdr (bre w9)))
        clear HS9 HR9 HV9
        refine region_anyZ (z := 18) (S := fun w' => (w'.cell? ⟨n3, 0, none⟩ = some (.int .u32 c.gen) ∧ w'.cell? ⟨n3, 1, none⟩ = some (.int .u8 c.half) ∧ w'.cell? ⟨n3, 2, none⟩ = some (.int .u32 c.serial))) (by kernel_rfl) ?_
        refine anyZ_begin (fun hcl0 => ?_)
        refine anyZ_held (by exact ⟨HT9.out.cr.c0, HT9.out.cr.c1, HT9.out.cr.c2⟩) (fun hHeld => ?_)
        -- 0: Op.move (Operand.tmp 20)
        refine' anyZ_pure (i := 0) (v := _) rfl (by rfl) (by kernel_rfl) (by kernel_rfl) (by kernel_rfl) hcl0 (fun _ _ _ h => h) (Or.inl ⟨by rfl, fun w _ => ?hk1⟩) (fun _ => hHeld) (fun hcl1 => ?rk1)
        case hk1 => (simp only [List.getElem_toArray, List.getElem_cons_zero]; first | (go_simp; with_reducible rfl) | (go_simp; done) | rfl)
        simp only [List.getElem_toArray, List.getElem_cons_zero, Act.put, List.setIfInBounds_toArray, List.set_cons_zero, List.set_cons_succ]
        -- 1: Op.binOp BinOp.eql 38 (Operand.tmp 143) (Operand.const (Valu
        refine' anyZ_pure (i := 1) (v := _) rfl (by rfl) (by kernel_rfl) (by kernel_rfl) (by kernel_rfl) hcl1 (fun _ _ _ h => h) (Or.inl ⟨by rfl, fun w _ => ?hk2⟩) (fun _ => hHeld) (fun hcl2 => ?rk2)
        case hk2 => (simp only [List.getElem_toArray, List.getElem_cons_succ, List.getElem_cons_zero]; first | (go_simp; with_reducible rfl) | (go_simp; done) | rfl)
        simp only [List.getElem_toArray, List.getElem_cons_succ, List.getElem_cons_zero, Act.put, List.setIfInBounds_toArray, List.set_cons_zero, List.set_cons_succ]
        -- 2: Op.move (Operand.tmp 144)
        refine' anyZ_pure (i := 2) (v := _) rfl (by rfl) (by kernel_rfl) (by kernel_rfl) (by kernel_rfl) hcl2 (fun _ _ _ h => h) (Or.inl ⟨by rfl, fun w _ => ?hk3⟩) (fun _ => hHeld) (fun hcl3 => ?rk3)
        case hk3 => (simp only [List.getElem_toArray, List.getElem_cons_succ, List.getElem_cons_zero]; first | (go_simp; with_reducible rfl) | (go_simp; done) | rfl)
        simp only [List.getElem_toArray, List.getElem_cons_succ, List.getElem_cons_zero, Act.put, List.setIfInBounds_toArray, List.set_cons_zero, List.set_cons_succ]
        -- 3: Op.move (Operand.tmp 18)
        refine' anyZ_pure (i := 3) (v := _) rfl (by rfl) (by kernel_rfl) (by kernel_rfl) (by kernel_rfl) hcl3 (fun _ _ _ h => h) (Or.inl ⟨by rfl, fun w _ => ?hk4⟩) (fun _ => hHeld) (fun hcl4 => ?rk4)
        case hk4 => (simp only [List.getElem_toArray, List.getElem_cons_succ, List.getElem_cons_zero]; first | (go_simp; with_reducible rfl) | (go_simp; done) | rfl)
        simp only [List.getElem_toArray, List.getElem_cons_succ, List.getElem_cons_zero, Act.put, List.setIfInBounds_toArray, List.set_cons_zero, List.set_cons_succ]
        -- 5: Op.move (Operand.tmp 21)
        refine' anyZ_pure (i := 5) (v := _) rfl (by rfl) (by kernel_rfl) (by kernel_rfl) (by kernel_rfl) hcl4 (fun _ _ _ h => h) (Or.inl ⟨by rfl, fun w _ => ?hk5⟩) (fun _ => hHeld) (fun hcl5 => ?rk5)
        case hk5 => (simp only [List.getElem_toArray, List.getElem_cons_succ, List.getElem_cons_zero]; first | (go_simp; with_reducible rfl) | (go_simp; done) | rfl)
        simp only [List.getElem_toArray, List.getElem_cons_succ, List.getElem_cons_zero, Act.put, List.setIfInBounds_toArray, List.set_cons_zero, List.set_cons_succ]
        -- 4: Op.call { callee := Callee.value (Operand.func 25), args := 
        refine anyZ_oneG (i := 4) hcl5 (by kernel_rfl) (by simp only [List.getElem?_toArray, List.getElem?_cons_succ, List.getElem?_cons_zero]; rfl) (by rfl) (fun hcl6 K hK => ?_)
        go_simp
        refine (rrecords_in HQ9.out (by rw [HRS.out.1]; have := HFEW.out.1; omega) (by rw [HRS.out.1]; exact fun q hq => by have := HFEW.out.2 q hq; omega)).mono ?_
        rintro e wa ⟨va, rfl, hoa, hba⟩
        rw [HRS.out.1] at hoa
        have HVA := Lib.hid hoa
        have HSA := Lib.hid (HT9.out.below hba)
        have HRA := Lib.hid (HQ9.out.below hba)
        have HWA := Lib.hid (HU9.out.below hba)
        clear hoa hba
        refine hK _ _ (fun _ => ?_) ?_
        · exact ⟨HSA.out.cr.c0, HSA.out.cr.c1, HSA.out.cr.c2⟩
        clear hK K hHeld
        have hHeld := (⟨HSA.out.cr.c0, HSA.out.cr.c1, HSA.out.cr.c2⟩ : _ ∧ _ ∧ _)
        try simp only [Act.put, List.setIfInBounds_toArray, List.set_cons_zero, List.set_cons_succ]
        -- 6: Op.call { callee := Callee.value (Operand.func 17), args := 
        refine anyZ_oneG (i := 6) hcl6 (by kernel_rfl) (by simp only [List.getElem?_toArray, List.getElem?_cons_succ, List.getElem?_cons_zero]; rfl) (by rfl) (fun hcl7 K hK => ?_)
        go_simp
        refine (lsame_any _ _ (cutL P) (cutL P) wa HVA.out.rows HWA.out.rows (by have := HFEW.out.1; omega) (by have := HFEW.out.1; omega)).mono ?_
        rintro e wb ⟨rfl, hbb⟩
        rw [decide_eq_true rfl]
        have HSB := Lib.hid (HSA.out.below hbb)
        have HRB := Lib.hid (HRA.out.below hbb)
        clear hbb HVA HWA
        refine hK _ _ (fun _ => ?_) ?_
        · exact ⟨HSB.out.cr.c0, HSB.out.cr.c1, HSB.out.cr.c2⟩
        clear hK K hHeld
        have hHeld := (⟨HSB.out.cr.c0, HSB.out.cr.c1, HSB.out.cr.c2⟩ : _ ∧ _ ∧ _)
        try simp only [Act.put, List.setIfInBounds_toArray, List.set_cons_zero, List.set_cons_succ]
        -- 7: Op.pick (Operand.tmp 145) (Operand.tmp 149) (Operand.const (
        refine' anyZ_pure (i := 7) (v := _) rfl (by rfl) (by kernel_rfl) (by kernel_rfl) (by kernel_rfl) hcl7 (fun _ _ _ h => h) (Or.inl ⟨by rfl, fun w _ => ?hk8⟩) (fun _ => hHeld) (fun hcl8 => ?rk8)
        case hk8 => (simp only [List.getElem_toArray, List.getElem_cons_succ, List.getElem_cons_zero]; first | (go_simp; with_reducible rfl) | (go_simp; done) | rfl)
        simp only [List.getElem_toArray, List.getElem_cons_succ, List.getElem_cons_zero, Act.put, List.setIfInBounds_toArray, List.set_cons_zero, List.set_cons_succ]
        -- 8: Op.move (Operand.tmp 150)
        refine' anyZ_pure (i := 8) (v := _) rfl (by rfl) (by kernel_rfl) (by kernel_rfl) (by kernel_rfl) hcl8 (fun _ _ _ h => h) (Or.inl ⟨by rfl, fun w _ => ?hk9⟩) (fun _ => hHeld) (fun hcl9 => ?rk9)
        case hk9 => (simp only [List.getElem_toArray, List.getElem_cons_succ, List.getElem_cons_zero]; first | (go_simp; with_reducible rfl) | (go_simp; done) | rfl)
        simp only [List.getElem_toArray, List.getElem_cons_succ, List.getElem_cons_zero, Act.put, List.setIfInBounds_toArray, List.set_cons_zero, List.set_cons_succ]
        -- 9: Op.move (Operand.tmp 18)
        refine' anyZ_pure (i := 9) (v := _) rfl (by rfl) (by kernel_rfl) (by kernel_rfl) (by kernel_rfl) hcl9 (fun _ _ _ h => h) (Or.inl ⟨by rfl, fun w _ => ?hk10⟩) (fun _ => hHeld) (fun hcl10 => ?rk10)
        case hk10 => (simp only [List.getElem_toArray, List.getElem_cons_succ, List.getElem_cons_zero]; first | (go_simp; with_reducible rfl) | (go_simp; done) | rfl)
        simp only [List.getElem_toArray, List.getElem_cons_succ, List.getElem_cons_zero, Act.put, List.setIfInBounds_toArray, List.set_cons_zero, List.set_cons_succ]
        -- 11: Op.move (Operand.tmp 10)
        refine' anyZ_pure (i := 11) (v := _) rfl (by rfl) (by kernel_rfl) (by kernel_rfl) (by kernel_rfl) hcl10 (fun _ _ _ h => h) (Or.inl ⟨by rfl, fun w _ => ?hk11⟩) (fun _ => hHeld) (fun hcl11 => ?rk11)
        case hk11 => (simp only [List.getElem_toArray, List.getElem_cons_succ, List.getElem_cons_zero]; first | (go_simp; with_reducible rfl) | (go_simp; done) | rfl)
        simp only [List.getElem_toArray, List.getElem_cons_succ, List.getElem_cons_zero, Act.put, List.setIfInBounds_toArray, List.set_cons_zero, List.set_cons_succ]
        -- 12: Op.load 36 (Operand.tmp 5)
        refine' anyZ_take (i := 12) (v := _) rfl (by rfl) (by kernel_rfl) (by kernel_rfl) (by kernel_rfl) hcl11 12 (by kernel_rfl) (by kernel_rfl) (fun _ _ _ h => h) (Or.inl ⟨by rfl, fun w hSw => ?hk12⟩) hHeld (fun hcl12 => ?rk12)
        case hk12 => (simp only [List.getElem_toArray, List.getElem_cons_succ, List.getElem_cons_zero]; obtain ⟨hS1, hS2, hS3⟩ := hSw; first | (go_simp; with_reducible rfl) | (go_simp; done) | rfl)
        simp only [List.getElem_toArray, List.getElem_cons_succ, List.getElem_cons_zero, Act.put, List.setIfInBounds_toArray, List.set_cons_zero, List.set_cons_succ]
        -- 14: Op.fieldAddr 36 (Operand.tmp 5) 0
        refine' anyZ_pure (i := 14) (v := _) rfl (by rfl) (by kernel_rfl) (by kernel_rfl) (by kernel_rfl) hcl12 (fun _ _ _ h => h) (Or.inl ⟨by rfl, fun w _ => ?hk13⟩) (fun _ => hHeld) (fun hcl13 => ?rk13)
        case hk13 => (simp only [List.getElem_toArray, List.getElem_cons_succ, List.getElem_cons_zero]; first | (go_simp; with_reducible rfl) | (go_simp; done) | rfl)
        simp only [List.getElem_toArray, List.getElem_cons_succ, List.getElem_cons_zero, Act.put, List.setIfInBounds_toArray, List.set_cons_zero, List.set_cons_succ]
        -- 15: Op.load 34 (Operand.tmp 157)
        refine' anyZ_take (i := 15) (v := _) rfl (by rfl) (by kernel_rfl) (by kernel_rfl) (by kernel_rfl) hcl13 12 (by kernel_rfl) (by kernel_rfl) (fun _ _ _ h => h) (Or.inl ⟨by rfl, fun w hSw => ?hk14⟩) hHeld (fun hcl14 => ?rk14)
        case hk14 => (simp only [List.getElem_toArray, List.getElem_cons_succ, List.getElem_cons_zero]; obtain ⟨hS1, hS2, hS3⟩ := hSw; first | (go_simp; with_reducible rfl) | (go_simp; done) | rfl)
        simp only [List.getElem_toArray, List.getElem_cons_succ, List.getElem_cons_zero, Act.put, List.setIfInBounds_toArray, List.set_cons_zero, List.set_cons_succ]
        -- 16: Op.fieldAddr 36 (Operand.tmp 5) 2
        refine' anyZ_pure (i := 16) (v := _) rfl (by rfl) (by kernel_rfl) (by kernel_rfl) (by kernel_rfl) hcl14 (fun _ _ _ h => h) (Or.inl ⟨by rfl, fun w _ => ?hk15⟩) (fun _ => hHeld) (fun hcl15 => ?rk15)
        case hk15 => (simp only [List.getElem_toArray, List.getElem_cons_succ, List.getElem_cons_zero]; first | (go_simp; with_reducible rfl) | (go_simp; done) | rfl)
        simp only [List.getElem_toArray, List.getElem_cons_succ, List.getElem_cons_zero, Act.put, List.setIfInBounds_toArray, List.set_cons_zero, List.set_cons_succ]
        -- 17: Op.load 34 (Operand.tmp 159)
        refine' anyZ_take (i := 17) (v := _) rfl (by rfl) (by kernel_rfl) (by kernel_rfl) (by kernel_rfl) hcl15 12 (by kernel_rfl) (by kernel_rfl) (fun _ _ _ h => h) (Or.inl ⟨by rfl, fun w hSw => ?hk16⟩) hHeld (fun hcl16 => ?rk16)
        case hk16 => (simp only [List.getElem_toArray, List.getElem_cons_succ, List.getElem_cons_zero]; obtain ⟨hS1, hS2, hS3⟩ := hSw; first | (go_simp; with_reducible rfl) | (go_simp; done) | rfl)
        simp only [List.getElem_toArray, List.getElem_cons_succ, List.getElem_cons_zero, Act.put, List.setIfInBounds_toArray, List.set_cons_zero, List.set_cons_succ]
        -- 10: Op.call { callee := Callee.value (Operand.func 22), args := 
        refine anyZ_oneG (i := 10) hcl16 (by kernel_rfl) (by simp only [List.getElem?_toArray, List.getElem?_cons_succ, List.getElem?_cons_zero]; rfl) (by rfl) (fun hcl17 K hK => ?_)
        go_simp
        refine (rserial_in HRB.out).mono ?_
        rintro e wc ⟨rfl, hw⟩
        have hw' := hw.symm
        subst hw'
        clear hw
        rw [HRS.out.2]
        refine hK _ _ (fun _ => ?_) ?_
        · exact ⟨HSB.out.cr.c0, HSB.out.cr.c1, HSB.out.cr.c2⟩
        clear hK K hHeld
        have hHeld := (⟨HSB.out.cr.c0, HSB.out.cr.c1, HSB.out.cr.c2⟩ : _ ∧ _ ∧ _)
        try simp only [Act.put, List.setIfInBounds_toArray, List.set_cons_zero, List.set_cons_succ]
        -- 13: Op.call { callee := Callee.value (Operand.func 27), args := 
        refine anyZ_oneG (i := 13) hcl17 (by kernel_rfl) (by simp only [List.getElem?_toArray, List.getElem?_cons_succ, List.getElem?_cons_zero]; rfl) (by rfl) (fun hcl18 K hK => ?_)
        go_simp
        refine (half_any gd ds F5 c wb HSB.out.dk HC.out.1.half (by rw [HW5.out]; exact Nat.zero_le _)).mono ?_
        rintro e wd ⟨vd, rfl, hod, hbd⟩
        have HSD := Lib.hid (HSB.out.below hbd)
        have HVD := Lib.hid hod
        clear hod hbd
        refine hK _ _ (fun _ => ?_) ?_
        · exact ⟨HSD.out.cr.c0, HSD.out.cr.c1, HSD.out.cr.c2⟩
        clear hK K hHeld
        have hHeld := (⟨HSD.out.cr.c0, HSD.out.cr.c1, HSD.out.cr.c2⟩ : _ ∧ _ ∧ _)
        try simp only [Act.put, List.setIfInBounds_toArray, List.set_cons_zero, List.set_cons_succ]
        clear hHeld
        refine anyZ_chain_at (by kernel_rfl) ?_
        simp only [List.drop_succ_cons, List.drop_zero]
        go_wp2_with fail
        refine (rfserial_any _ _ c.gen c.serial _ HVD.out.rows HN5.out HC.out.1.serial).mono ?_
        rintro e we ⟨rfl, hbe⟩
        rw [show (topOf c.gen c.serial (halfOf ds (c.from ds.safe.length).1 (c.from ds.safe.length).2) + 1) % 4294967296 = XS from HXS.out.symm]
        have HSE := Lib.hid (HSD.out.below hbe)
        clear hbe HSD HVD
        go_wp2_with fail
        refine (waiting_any gd ds F5 we HSE.out.dk (by rw [HW5.out]; exact Nat.zero_le _)).mono ?_
        rintro e wf ⟨vf, rfl, hof, hbf⟩
        rw [HW5.out] at hof
        unfold OwnInts at hof
        obtain ⟨af, cf, hvf, -⟩ := ownsRow_lies hof
        have hvf' : vf = .slice af 0 cf := hvf
        subst hvf'
        clear hvf
        have HBF := Lib.hid (btr HSE.out.bel hbf)
        clear hof hbf HSE
        go_wp2_with fail
        go_ret
        exact ⟨rfl, HBF.out⟩
end Go.Proofs.YtacfkhnajdneeaaDoor
