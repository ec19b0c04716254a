/- Crowns: Read. -/
import Derived.Test.YtejdlgfiiagcmaaDoorCrB
namespace Go.Proofs.YtejdlgfiiagcmaaDoor
open Go.RowKit

/-- the newest of the first k slots -/
def scan (b : Nat → List UInt8) : Nat → Cr × Bool
  | 0 => (.zero, false)
  | k + 1 => if (atOf (b k) k).2.1 && (!(scan b k).2 || decide ((scan b k).1.gen < (atOf (b k) k).1.gen)) then ((atOf (b k) k).1, true) else scan b k

def readOf (b : Nat → List UInt8) : Cr × Nat × Int :=
  if (atOf (b 0) 0).2.2 ≠ 0 then (.zero, 0, (atOf (b 0) 0).2.2)
  else if (atOf (b 1) 1).2.2 ≠ 0 then (.zero, 1, (atOf (b 1) 1).2.2)
  else if (scan b 2).2 then ((scan b 2).1, 0, 0) else (.zero, 0, 3)

theorem readOf_bad (b : Nat → List UInt8) (k : Nat) (hk : k < 2) (h0 : ∀ j, j < k → (atOf (b j) j).2.2 = 0) (hb : (atOf (b k) k).2.2 ≠ 0) : readOf b = (.zero, k, (atOf (b k) k).2.2) := by
  unfold readOf
  rcases (by omega : k = 0 ∨ k = 1) with rfl | rfl
  · rw [if_pos hb]
  · rw [if_neg (by rw [h0 0 (by omega)]; decide), if_pos hb]

theorem readOf_end (b : Nat → List UInt8) (h0 : ∀ j, j < 2 → (atOf (b j) j).2.2 = 0) : readOf b = if (scan b 2).2 then ((scan b 2).1, 0, 0) else (.zero, 0, 3) := by
  unfold readOf
  rw [if_neg (by rw [h0 0 (by omega)]; decide), if_neg (by rw [h0 1 (by omega)]; decide)]

structure ReadRel (w : World) (n2 n5 : Nat) (b : Nat → List UInt8) (k : Nat) (wr : World) : Prop where
  r2 : Row3 wr n2 Cr.zero
  r5 : Row3 wr n5 (scan b k).1
  below : Below w.heap.size w wr
  none : ∀ j, j < k → (atOf (b j) j).2.2 = 0

set_option maxRecDepth 20000 in
set_option maxHeartbeats 3200000 in
theorem cread_ok (g : Nat) (d : Dk) (F : Nat → Prop) (w : World) (h : DiskAt w g d F) (h4 : 4 ≤ d.safe.length) (hw : d.wait.length ≤ 1000000) :
    Calls Tryd.prog 14 #[.pointer (some ⟨g, 0, none⟩)] w fun e w' => e = .returned (.tuple #[CrVal (readOf d.now).1, .int .i64 (readOf d.now).2.1, .int .i64 (readOf d.now).2.2]) ∧ Below w.heap.size w w' := by
  obtain ⟨x, hx⟩ : ∃ x, x = readOf d.now := ⟨_, rfl⟩
  rw [← hx]
  have HX := Lib.hid hx
  have hk4 : decide ((d.safe.length : Int) < 4) = false := decide_eq_false (by omega)
  have HD := Lib.hid h
  have H4 := Lib.hid h4
  have HW := Lib.hid hw
  clear hx h h4 hw
  go_enter Tryd.func14, Tryd.ntmps14
  go_wp2_with fail
  have hb0 := bal (bal (bre w) (.cells #[.int .u32 0, .int .u8 0, .int .u32 0] 24)) (.cells #[.int .u32 0, .int .u8 0, .int .u32 0] 24)
  obtain ⟨hr1, hr2⟩ := box_two w (.cells #[.int .u32 0, .int .u8 0, .int .u32 0] 24) (.cells #[.int .u32 0, .int .u8 0, .int .u32 0] 24)
  generalize (w.alloc (.cells #[.int .u32 0, .int .u8 0, .int .u32 0] 24)).alloc (.cells #[.int .u32 0, .int .u8 0, .int .u32 0] 24) = W at *
  obtain ⟨n2, hn2⟩ : ∃ n, n = w.heap.size := ⟨_, rfl⟩
  rw [← hn2] at hr1 hr2 ⊢
  obtain ⟨n5, hn5⟩ : ∃ n, n = n2 + 1 := ⟨_, rfl⟩
  rw [← hn5] at hr2
  try rw [← hn5]
  have HN2 : Hid (w.heap.size ≤ n2) := Lib.hid (by omega)
  have HN5 : Hid (w.heap.size ≤ n5) := Lib.hid (by omega)
  have hne : ¬ n5 = n2 := by omega
  have HB0 := Lib.hid hb0
  have HR1 : Hid (Row3 W n2 Cr.zero) := Lib.hid hr1
  have HR2 : Hid (Row3 W n5 Cr.zero) := Lib.hid hr2
  clear hb0 hr1 hr2 hn2 hn5
  refine (sectors_any g d F W (HD.out.below HB0.out)).mono ?_
  rintro e w1 ⟨rfl, hw1⟩
  have hw1' := hw1.symm
  subst hw1'
  clear hw1
  go_wp2_with fail
  go_loopw [6, 7, 8, 9, 10, 15] (fun f _ _ _ _ i wr => ∃ k : Nat, k ≤ 2 ∧ i = .int .i64 k ∧ f = .bool (scan d.now k).2 ∧ ReadRel w n2 n5 d.now k wr) (fun _ _ _ _ _ i _ => 2 - (intOf i).toNat)
  case atStart => exact ⟨0, by omega, rfl, rfl, ⟨HR1.out, HR2.out, HB0.out, fun j hj => absurd hj (Nat.not_lt_zero j)⟩⟩
  case round =>
    obtain ⟨k, hk, rfl, rfl, hr⟩ := hrel
    obtain ⟨hr2, hr5, hbl, hnone⟩ := hr
    have HR2' := Lib.hid hr2
    have HR5 := Lib.hid hr5
    have HBL := Lib.hid hbl
    have HNO := Lib.hid hnone
    clear hr2 hr5 hbl hnone
    by_cases hlt : k < 2
    · obtain ⟨fb, hfb⟩ : ∃ f, f = (scan d.now k).2 := ⟨_, rfl⟩
      obtain ⟨out, hout⟩ : ∃ o, o = (scan d.now k).1 := ⟨_, rfl⟩
      have hsc : scan d.now (k + 1) = if (atOf (d.now k) k).2.1 && (!fb || decide (out.gen < (atOf (d.now k) k).1.gen)) then ((atOf (d.now k) k).1, true) else scan d.now k := by rw [hfb, hout]; rfl
      have hsk : scan d.now k = (out, fb) := by rw [hfb, hout]
      rw [hsk] at hsc
      have hr5 := HR5.out
      rw [← hout] at hr5
      have HR5' := Lib.hid hr5
      rw [← hfb]
      have hbad := readOf_bad d.now k hlt HNO.out
      have hnx : (atOf (d.now k) k).2.2 = 0 → ∀ j, j < k + 1 → (atOf (d.now j) j).2.2 = 0 := fun h j hj => by
        rcases Nat.lt_or_ge j k with h' | h'
        · exact HNO.out j h'
        · have : j = k := by omega
          rw [this]; exact h
      have hki : k < d.safe.length := by have := H4.out; omega
      have hat := at_ok g d F k wr (HD.out.below HBL.out) hki HW.out
      generalize atOf (d.now k) k = y at *
      obtain ⟨c, ok, er⟩ := y
      simp only at hsc hbad hnx hat
      have HSC := Lib.hid hsc
      have HBAD := Lib.hid hbad
      have HNX := Lib.hid hnx
      have HAT := Lib.hid hat
      clear hsc hsk hr5 hout hfb hbad hnx hki hat HR5
      go_wp2_with fail
      refine HAT.out.mono ?_
      rintro e w2 ⟨rfl, hb2⟩
      have HV : Hid (CrVal c = .agg #[.int .u32 c.gen, .int .u8 c.half, .int .u32 c.serial]) := Lib.hid rfl
      rw [HV.out]
      have HB2 := Lib.hid (HBL.out.trans (hb2.mono HBL.out.size))
      have HR22 := Lib.hid (HR2'.out.below hb2)
      have HR25 := Lib.hid (HR5'.out.below hb2)
      clear hb2 HBL HR2' HR5' HAT
      go_upto_region 9 with fail
      have hb3 := bal (bre w2) (.cells #[.int .u32 c.gen, .int .u8 c.half, .int .u32 c.serial] 24)
      have hr8 : Row3 _ w2.heap.size c := heap_alloc_new w2 (.cells #[.int .u32 c.gen, .int .u8 c.half, .int .u32 c.serial] 24)
      generalize w2.alloc (.cells #[.int .u32 c.gen, .int .u8 c.half, .int .u32 c.serial] 24) = w3 at *
      obtain ⟨n8, hn8⟩ : ∃ n, n = w2.heap.size := ⟨_, rfl⟩
      rw [← hn8] at hr8 ⊢
      have HB3 := Lib.hid (HB2.out.trans (hb3.mono HB2.out.size))
      have HR32 := Lib.hid (HR22.out.below hb3)
      have HR35 := Lib.hid (HR25.out.below hb3)
      have hn85 : ¬ n5 = n8 := by have := HR25.out.lt; omega
      have HR8 := Lib.hid hr8
      clear hb3 hr8 hn8 HB2 HR22 HR25 HV
      by_cases her : er = 0
      rotate_left
      · have hk5 : (er == 0) = false := beq_false_of_ne her
        have hk6 : decide (er = 0) = false := decide_eq_false her
        have hro := HBAD.out her
        have HRO := Lib.hid hro
        clear her hro HSC HNX
        have z0 := HR32.out.c0
        have z1 := HR32.out.c1
        have z2 := HR32.out.c2
        have zf := HR32.out.fz
        go_wp2_with fail
        obtain ⟨hz1, hz3⟩ := cr_zero HR32.out
        have hz2 := hz3 _ w HN2.out HB3.out
        generalize (((w3.setCell ⟨n2, 0, none⟩ (.int .u32 0)).setCell ⟨n2, 1, none⟩ (.int .u8 0)).setCell ⟨n2, 2, none⟩ (.int .u32 0)) = W9z at *
        have g0 : W9z.cell? ⟨n2, 0, none⟩ = some (.int .u32 0) := hz1.c0
        have g1 : W9z.cell? ⟨n2, 1, none⟩ = some (.int .u8 0) := hz1.c1
        have g2 : W9z.cell? ⟨n2, 2, none⟩ = some (.int .u32 0) := hz1.c2
        refine bodyPost_ret (v := .tuple #[.agg #[.int .u32 0, .int .u8 0, .int .u32 0], .int .i64 k, .int .i64 er]) (by simp [results, Tryd.results14, go_sem, g0, g1, g2]) rfl ?_
        rw [HX.out, HRO.out]
        exact ⟨rfl, hz2⟩
      subst her
      have hno := HNX.out rfl
      have HNO' := Lib.hid hno
      clear hno HNX HBAD HNO
      have a0 := HR8.out.c0
      have a1 := HR8.out.c1
      have a2 := HR8.out.c2
      have b0 := HR35.out.c0
      have b1 := HR35.out.c1
      have b2 := HR35.out.c2
      have bf := HR35.out.fz
      obtain ⟨take, htake⟩ : ∃ t, t = (ok && (!fb || decide (out.gen < c.gen))) := ⟨_, rfl⟩
      have hsc := HSC.out
      rw [← htake] at hsc
      have HSC' := Lib.hid hsc
      have HTK := Lib.hid htake
      have hgd : decide ((out.gen : Int) < c.gen) = decide (out.gen < c.gen) := by rw [Bool.eq_iff_iff, decide_eq_true_iff, decide_eq_true_iff]; omega
      obtain ⟨gt, hgt⟩ : ∃ t, t = decide (out.gen < c.gen) := ⟨_, rfl⟩
      rw [← hgt] at hgd
      have HGT := Lib.hid hgt
      clear hsc htake HSC hgt
      go_upto_region 11 with fail
      go_cut [41] from 30 to 41 (fun t w' => t = .bool take ∧ w' = w3)
      case first =>
        have htk := HTK.out
        rw [← HGT.out] at htk
        cases ok <;> cases fb <;> cases gt <;> (
          go_wp2_with fail
          go_meet
          case rel => exact ⟨by first | (rw [htk]; rfl) | (rw [htk, ← HGT.out]; rfl), rfl⟩)
      case rest =>
      obtain ⟨rfl, hwc⟩ := hcut
      rename World => w4
      have hwc' := hwc.symm
      subst hwc'
      clear hwc
      cases take with
      | false =>
        have hn : ReadRel w n2 n5 d.now (k + 1) w3 := ⟨HR32.out, by rw [HSC'.out]; exact HR35.out, HB3.out, HNO'.out⟩
        have hf2 : (scan d.now (k + 1)).2 = fb := by rw [HSC'.out]; rfl
        have HN := Lib.hid hn
        have HF2 := Lib.hid hf2
        clear hn hf2
        go_wp2_with fail
        go_roundw
        case rel => exact ⟨k + 1, by omega, by go_num, by rw [HF2.out], HN.out⟩
        case measure => simp [intOf]; try omega
      | true =>
        obtain ⟨q1, q2, q3⟩ := cr_put c HR35.out
        have hn : ReadRel w n2 n5 d.now (k + 1) _ := ⟨HR32.out.only q2 (fun h => hne h.symm), by rw [HSC'.out]; exact q1, q3 _ w HN5.out HB3.out, HNO'.out⟩
        have hf2 : (scan d.now (k + 1)).2 = true := by rw [HSC'.out]; rfl
        have HN := Lib.hid hn
        have HF2 := Lib.hid hf2
        clear hn hf2 q1 q2 q3
        go_wp2_with fail
        go_roundw
        case rel => exact ⟨k + 1, by omega, by go_num, by rw [HF2.out], HN.out⟩
        case measure => simp [intOf]; try omega
    · have e2 : k = 2 := by omega
      subst e2
      have hre := readOf_end d.now HNO.out
      obtain ⟨fb, hfb⟩ : ∃ f, f = (scan d.now 2).2 := ⟨_, rfl⟩
      obtain ⟨out, hout⟩ : ∃ o, o = (scan d.now 2).1 := ⟨_, rfl⟩
      have hr5 := HR5.out
      rw [← hout] at hr5 hre
      rw [← hfb] at hre ⊢
      have HR5' := Lib.hid hr5
      have HRE := Lib.hid hre
      clear hr5 hre hfb hout HR5 hlt hk HNO
      cases fb with
      | false =>
        have hx0 : x = (Cr.zero, 0, 3) := by rw [HX.out, HRE.out]; rfl
        have HX0 := Lib.hid hx0
        clear hx0
        have z0 := HR2'.out.c0
        have z1 := HR2'.out.c1
        have z2 := HR2'.out.c2
        have zf := HR2'.out.fz
        go_wp2_with fail
        obtain ⟨hz1, hz3⟩ := cr_zero HR2'.out
        have hz2 := hz3 _ w HN2.out HBL.out
        generalize (((wr.setCell ⟨n2, 0, none⟩ (.int .u32 0)).setCell ⟨n2, 1, none⟩ (.int .u8 0)).setCell ⟨n2, 2, none⟩ (.int .u32 0)) = W9z at *
        have g0 : W9z.cell? ⟨n2, 0, none⟩ = some (.int .u32 0) := hz1.c0
        have g1 : W9z.cell? ⟨n2, 1, none⟩ = some (.int .u8 0) := hz1.c1
        have g2 : W9z.cell? ⟨n2, 2, none⟩ = some (.int .u32 0) := hz1.c2
        refine bodyPost_ret (v := .tuple #[.agg #[.int .u32 0, .int .u8 0, .int .u32 0], .int .i64 0, .int .i64 3]) (by simp [results, Tryd.results14, go_sem, g0, g1, g2]) rfl ?_
        rw [HX0.out]
        exact ⟨rfl, hz2⟩
      | true =>
        have hx0 : x = (out, 0, 0) := by rw [HX.out, HRE.out]; rfl
        have HX0 := Lib.hid hx0
        have b0 := HR5'.out.c0
        have b1 := HR5'.out.c1
        have b2 := HR5'.out.c2
        have z0 := HR2'.out.c0
        have z1 := HR2'.out.c1
        have z2 := HR2'.out.c2
        have zf := HR2'.out.fz
        obtain ⟨q1, q2, q3⟩ := cr_put out HR2'.out
        have hb9 := q3 _ w HN2.out HBL.out
        have HQ1 := Lib.hid q1
        have HB9 := Lib.hid hb9
        clear hx0 q1 q2 q3 hb9
        go_wp2_with fail
        have q1 := HQ1.out
        have hb9 := HB9.out
        generalize (((wr.setCell ⟨n2, 0, none⟩ (.int .u32 out.gen)).setCell ⟨n2, 1, none⟩ (.int .u8 out.half)).setCell ⟨n2, 2, none⟩ (.int .u32 out.serial)) = W9 at *
        have g0 := q1.c0
        have g1 := q1.c1
        have g2 := q1.c2
        refine bodyPost_ret (v := .tuple #[.agg #[.int .u32 out.gen, .int .u8 out.half, .int .u32 out.serial], .int .i64 0, .int .i64 0]) (by simp [results, Tryd.results14, go_sem, g0, g1, g2]) rfl ?_
        rw [HX0.out]
        exact ⟨rfl, hb9⟩
end Go.Proofs.YtejdlgfiiagcmaaDoor
