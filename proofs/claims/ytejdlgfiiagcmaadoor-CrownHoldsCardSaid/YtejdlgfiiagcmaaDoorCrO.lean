/- CrownRots, the walk. -/
import Derived.Test.YtejdlgfiiagcmaaDoorCrN
namespace Go.Proofs.YtejdlgfiiagcmaaDoor
open Go.RowKit

theorem min_nat {r : Int} {n : Nat} (h : Hid (r = if (4064 : Int) < n then 4064 else (n : Int))) : ∃ s : Nat, r = (s : Int) ∧ s ≤ 4064 := by
  have h' := h.out
  refine ⟨min n 4064, ?_, by omega⟩
  rw [h']
  split <;> omega

theorem cr_val (c : Cr) : CrVal c = .agg #[.int .u32 c.gen, .int .u8 c.half, .int .u32 c.serial] := rfl

structure StepRel (w : World) (g n : Nat) (k : Nat) (wr : World) : Prop where
  ex : ∃ F', DiskAt wr g (dK k) F' ∧ (∀ j, F' j → w.heap.size ≤ j) ∧ ¬ F' n
  below : Below w.heap.size w wr
  row : Row3 wr n (cK k)

set_option maxRecDepth 20000 in
set_option maxHeartbeats 3200000 in
theorem rots_calls (s : Nat) (which : Bool) (at' mask : Nat) (hat : at' < 65536) (hm : mask < 4294967296) (w : World) :
    Calls Tryd.prog 6 #[.int .u8 s, .bool which, .int .u16 at', .int .u32 mask] w fun e w' => e = .returned (.bool true) ∧ Below w.heap.size w w' := by
  obtain ⟨m, hm6⟩ : ∃ r, r = s % 6 := ⟨_, rfl⟩
  have hml : m < 6 := by omega
  have hmod : (s : Int) % 6 = (m : Int) := by omega
  have HM := Lib.hid hm
  clear hm6 hm
  go_enter Tryd.func6, Tryd.ntmps6
  go_wp2_with fail
  refine (awake_any w).mono ?_
  rintro e w1 ⟨rfl, hb1⟩
  have HB1 := Lib.hid hb1
  clear hb1
  go_wp2_with fail
  refine (new_any 10 w1 (by omega) (by omega)).mono ?_
  rintro e w2 ⟨g, F2, rfl, hd2, hF2, hb2⟩
  have HD2 := Lib.hid hd2
  have HF2 : Hid (∀ k, F2 k → w.heap.size ≤ k) := Lib.hid (fun k hk => Nat.le_trans HB1.out.size (hF2 k hk))
  have HB2 := Lib.hid (btr HB1.out hb2)
  clear hd2 hF2 hb2 HB1
  go_wp2_with fail
  refine (cformat_ok g (Dk.new 10) F2 w2 HD2.out (by decide) rfl (by decide) (by decide) (by decide) (by decide)).mono ?_
  rintro e w3 ⟨F3, rfl, hd3, hm3⟩
  have HD3 : Hid (DiskAt w3 g (dK 0) F3) := Lib.hid hd3
  have HF3 := Lib.hid (hm3.ge HB2.out.size HF2.out)
  have HB3 := Lib.hid (HB2.out.trans (hm3.below HB2.out.size HF2.out))
  clear hd3 hm3 HD2 HF2 HB2
  go_wp2_with fail
  refine (first_any w3).mono ?_
  rintro e w4 ⟨rfl, hb4⟩
  have HD4 := Lib.hid (HD3.out.below hb4)
  have HB4 := Lib.hid (HB3.out.trans (hb4.mono HB3.out.size))
  clear hb4 HD3 HB3
  rw [cr_val]
  go_upto_region 6 with fail
  have hb5 := bal (bre w4) (.cells #[.int .u32 Cr.first.gen, .int .u8 Cr.first.half, .int .u32 Cr.first.serial] 24)
  have hr5 : Row3 _ w4.heap.size (cK 0) := heap_alloc_new w4 (.cells #[.int .u32 Cr.first.gen, .int .u8 Cr.first.half, .int .u32 Cr.first.serial] 24)
  have hF5 := HD4.out.lt
  generalize w4.alloc (.cells #[.int .u32 Cr.first.gen, .int .u8 Cr.first.half, .int .u32 Cr.first.serial] 24) = w5 at *
  obtain ⟨n, hn⟩ : ∃ n, n = w4.heap.size := ⟨_, rfl⟩
  rw [← hn] at hr5 ⊢
  have hrel0 : StepRel w g n 0 w5 := ⟨⟨F3, HD4.out.below hb5, HF3.out, fun h => by have := hF5 _ h; omega⟩, HB4.out.trans (hb5.mono HB4.out.size), hr5⟩
  have HREL0 := Lib.hid hrel0
  have HNW : Hid (w.heap.size ≤ n) := Lib.hid (by have := HB4.out.size; omega)
  clear hb5 hr5 hF5 hn HD4 HB4 HF3 hrel0
  go_wp2_with fail
  rw [hmod]
  clear hmod
  go_loopw [27] (fun i wr => ∃ k : Nat, k ≤ m ∧ i = .int .u8 k ∧ StepRel w g n k wr) (fun i _ => m - (intOf i).toNat)
  case atStart => exact ⟨0, by omega, rfl, HREL0.out⟩
  case round =>
    obtain ⟨k, hk, rfl, hr⟩ := hrel
    obtain ⟨F1, hd1, hf1, hn1⟩ := hr.ex
    have hb1 := hr.below
    have hr1 := hr.row
    have HD1 := Lib.hid hd1
    have HF1 := Lib.hid hf1
    have HN1 := Lib.hid hn1
    have HB1 := Lib.hid hb1
    have HR1 := Lib.hid hr1
    clear hr hd1 hf1 hn1 hb1 hr1 HREL0
    by_cases hlt : k < m
    · obtain ⟨f1, f2, f3, f4⟩ := dK_facts k (by omega)
      have hcn := cK_next k (by omega)
      have HCO := Lib.hid (cK_ok k (by omega))
      have HCO2 := Lib.hid (cK_ok (k + 1) (by omega))
      have HCN := Lib.hid hcn
      have HL := Lib.hid f1
      have HE := Lib.hid f3
      have r0 := HR1.out.c0
      have r1 := HR1.out.c1
      have r2 := HR1.out.c2
      have rf := HR1.out.fz
      clear f1 f2 f3 f4 hcn
      go_wp2_with fail
      rw [← cr_val]
      refine (next_any (cK k) HCO.out wr).mono ?_
      rintro e w6 ⟨rfl, hb6⟩
      rw [HCN.out]
      have HD6 := Lib.hid (HD1.out.below hb6)
      have HB6 := Lib.hid (HB1.out.trans (hb6.mono HB1.out.size))
      have HR6 := Lib.hid (HR1.out.below hb6)
      clear hb6 r0 r1 r2 rf HD1 HB1 HR1
      rw [cr_val]
      have r0 := HR6.out.c0
      have r1 := HR6.out.c1
      have r2 := HR6.out.c2
      have rf := HR6.out.fz
      go_upto_region 9 with fail
      obtain ⟨q1, q2, q3⟩ := cr_put (cK (k + 1)) HR6.out
      have hb7 := q3 _ w HNW.out HB6.out
      have hd7 := HD6.out.only q2 (fun j hj e => HN1.out (e ▸ hj))
      generalize (((w6.setCell ⟨n, 0, none⟩ (.int .u32 (cK (k + 1)).gen)).setCell ⟨n, 1, none⟩ (.int .u8 (cK (k + 1)).half)).setCell ⟨n, 2, none⟩ (.int .u32 (cK (k + 1)).serial)) = w7 at *
      have HB7 := Lib.hid hb7
      have HD7 := Lib.hid hd7
      have HR7 := Lib.hid q1
      clear q1 q2 q3 hb7 hd7 r0 r1 r2 rf HB6 HD6 HR6
      have r0 := HR7.out.c0
      have r1 := HR7.out.c1
      have r2 := HR7.out.c2
      go_wp2_with fail
      rw [← cr_val]
      refine (cwrite_ok g (dK k) F1 (cK (k + 1)) w7 HD7.out (by rw [HL.out]; decide) HE.out HCO2.out (cK_half _)).mono ?_
      rintro e w8 ⟨F8, rfl, hd8, hm8⟩
      have hn8 : ¬ F8 n := fun h => by
        rcases hm8.fresh _ h with h' | h'
        · exact HN1.out h'
        · have := HR7.out.lt; omega
      have hs : StepRel w g n (k + 1) w8 := ⟨⟨F8, hd8, hm8.ge HB7.out.size HF1.out, hn8⟩, HB7.out.trans (hm8.below HB7.out.size HF1.out), HR7.out.only hm8.only HN1.out⟩
      have HS := Lib.hid hs
      clear hs hn8 hd8 hm8 r0 r1 r2 HB7 HD7 HR7 HN1 HF1
      go_wp2_with fail
      go_roundw
      case rel => exact ⟨k + 1, by omega, by go_num, HS.out⟩
      case measure => simp [intOf]; try omega
    · have e2 : k = m := by omega
      subst e2
      obtain ⟨f1, f2, f3, f4⟩ := dK_facts k (by omega)
      have HL := Lib.hid f1
      have HW := Lib.hid f2
      have hr0 := HR1.out.c0
      obtain ⟨i, hi⟩ : ∃ i, i = (cK k).gen % 2 := ⟨_, rfl⟩
      have hi2 : i < 2 := by omega
      have him : ((cK k).gen : Int) % 2 = (i : Int) := by omega
      obtain ⟨j, hj⟩ : ∃ j, j = if which then 1 - i else i := ⟨_, rfl⟩
      have hj2 : j < 2 := by rw [hj]; split <;> omega
      have HI2 := Lib.hid hi2
      have HJ2 := Lib.hid hj2
      have HJ := Lib.hid hj
      have HK6 : Hid (k < 98) := Lib.hid (by omega)
      clear f1 f2 f3 f4 hi hj hi2 hj2 hlt hk hml
      go_upto_if 39 with fail
      rw [him]
      clear him
      go_cut [12] from 40 to 41 (fun t w' => t = .int .i64 j ∧ w' = wr)
      case first =>
        cases which with
        | false =>
          go_wp2_with fail
          go_meet
          case rel => exact ⟨by rw [HJ.out]; rfl, rfl⟩
        | true =>
          have hsub : (1 : Int) - (i : Int) = (j : Int) := by
            have h1 := HJ.out
            rw [if_pos rfl] at h1
            have := HI2.out
            omega
          go_wp2_with fail
          go_meet
          case rel => exact ⟨rfl, rfl⟩
      case rest =>
      obtain ⟨rfl, hwc⟩ := hcut
      rename World => w9
      have hwc' := hwc.symm
      subst hwc'
      clear hwc
      go_wp2_with (with_reducible refine wpList_min rfl _ _ _ rfl _ _ _ rfl rfl ?_; intro r hr; obtain ⟨sx, rfl, hsx⟩ := min_nat hr; have HSX := Lib.hid hsx; clear hsx hr)
      refine (rot_ok g (dK k) F1 j sx 32 mask wr HD1.out (by rw [HL.out]; have := HJ2.out; omega) (by decide) (by have := HSX.out; omega) HM.out (by rw [HW.out]; exact Nat.zero_le _)).mono ?_
      rintro e wa ⟨rfl, hda, hma⟩
      have HDA := Lib.hid hda
      have HRA := Lib.hid (HR1.out.only hma.only HN1.out)
      have HBA := Lib.hid (HB1.out.trans (hma.below HB1.out.size HF1.out))
      clear hda hma hr0 HD1 HR1 HB1 HF1 HN1
      go_wp2_with fail
      refine (cread_ok g _ F1 wa HDA.out (by show 4 ≤ ((dK k).safe.set j _).length; rw [List.length_set, HL.out]; decide) (by show ((dK k).wait.map _).length ≤ _; rw [HW.out]; exact Nat.zero_le _)).mono ?_
      rintro e wb ⟨rfl, hbb⟩
      have HRB := Lib.hid (HRA.out.below hbb)
      have HBB := Lib.hid (HBA.out.trans (hbb.mono HBA.out.size))
      clear hbb HDA HRA HBA
      by_cases hz : mask = 0
      · have hrd : readOf ((dK k).rotted j sx mask 32).now = (cK k, 0, 0) := by rw [hz]; exact rot_none k j sx HK6.out HJ2.out
        rw [hrd, cr_val (cK k)]
        subst hz
        clear hrd
        go_upto_region 17 with fail
        have hbc := bal (bre wb) (.cells #[.int .u32 (cK k).gen, .int .u8 (cK k).half, .int .u32 (cK k).serial] 24)
        have hrc : Row3 _ wb.heap.size (cK k) := heap_alloc_new wb (.cells #[.int .u32 (cK k).gen, .int .u8 (cK k).half, .int .u32 (cK k).serial] 24)
        generalize wb.alloc (.cells #[.int .u32 (cK k).gen, .int .u8 (cK k).half, .int .u32 (cK k).serial] 24) = wc at *
        have hrn := HRB.out.below hbc
        have HBC := Lib.hid (HBB.out.trans (hbc.mono HBB.out.size))
        have x0 := hrc.c0
        have x1 := hrc.c1
        have x2 := hrc.c2
        have y0 := hrn.c0
        have y1 := hrn.c1
        have y2 := hrn.c2
        clear hbc hrc hrn
        go_wp2_with fail
        go_ret
        exact ⟨rfl, HBC.out⟩
      · have hrd := rot_some k j sx mask HK6.out HJ2.out hz HM.out HSX.out
        have hvz : CrVal Cr.zero = .agg #[.int .u32 0, .int .u8 0, .int .u32 0] := rfl
        have hm1 : ((mask : Int) == 0) = false := beq_false_of_ne (by omega)
        have hm2 : decide ((mask : Int) = 0) = false := decide_eq_false (by omega)
        rw [hrd, hvz]
        clear hrd hvz hz
        go_upto_region 17 with fail
        have hbc := bal (bre wb) (.cells #[.int .u32 0, .int .u8 0, .int .u32 0] 24)
        have hrc : Row3 _ wb.heap.size Cr.zero := heap_alloc_new wb (.cells #[.int .u32 0, .int .u8 0, .int .u32 0] 24)
        generalize wb.alloc (.cells #[.int .u32 0, .int .u8 0, .int .u32 0] 24) = wc at *
        have HBC := Lib.hid (HBB.out.trans (hbc.mono HBB.out.size))
        have x0 : wc.cell? ⟨wb.heap.size, 0, none⟩ = some (.int .u32 0) := hrc.c0
        have x1 : wc.cell? ⟨wb.heap.size, 1, none⟩ = some (.int .u8 0) := hrc.c1
        have x2 : wc.cell? ⟨wb.heap.size, 2, none⟩ = some (.int .u32 0) := hrc.c2
        clear hbc hrc
        go_wp2_with fail
        go_ret
        exact ⟨rfl, HBC.out⟩
end Go.Proofs.YtejdlgfiiagcmaaDoor
