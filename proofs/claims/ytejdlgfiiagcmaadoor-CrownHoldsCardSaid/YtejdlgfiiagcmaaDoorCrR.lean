/- CrownHolds, the walk. -/
import Derived.Test.YtejdlgfiiagcmaaDoorCrO
import Derived.Test.YtejdlgfiiagcmaaDoorCrP
import Derived.Test.YtejdlgfiiagcmaaDoorCrQ
namespace Go.Proofs.YtejdlgfiiagcmaaDoor
open Go.RowKit

theorem bools_none (w : World) : Bools w (.slice none 0 0) [] := ⟨none, 0, rfl, by simp, Nat.le_refl _, fun _ => rfl, .inl rfl⟩

set_option linter.unusedSimpArgs false in
set_option maxRecDepth 20000 in
set_option maxHeartbeats 6400000 in
theorem holds_calls (s : Nat) (vp vk : Value) (p : List UInt8) (keep : List Bool) (w : World) (hp : Bytes w vp p) (hkeep : Bools w vk keep) :
    Calls Tryd.prog 7 #[.int .u8 s, vp, vk] w fun e w' => e = .returned (.bool true) ∧ Below w.heap.size w w' := by
  obtain ⟨m, hm6⟩ : ∃ r, r = s % 6 := ⟨_, rfl⟩
  have hml : m < 6 := by omega
  have hmod : (s : Int) % 6 = (m : Int) := by omega
  have HP := Lib.hid hp
  have HKP := Lib.hid hkeep
  clear hm6 hp hkeep
  go_enter Tryd.func7, Tryd.ntmps7
  go_wp2_with fail
  refine (awake_any w).mono ?_
  rintro e w1 ⟨rfl, hb1⟩
  have HB1 := Lib.hid hb1
  clear hb1
  go_wp2_with fail
  refine (new_any 10 w1 (by omega) (by omega)).mono ?_
  rintro e w2 ⟨g, F2, rfl, hd2, hF2, hb2⟩
  have HD2 := Lib.hid hd2
  have HF2 : Hid (∀ k, F2 k → w.heap.size ≤ k) := Lib.hid (fun k hk => Nat.le_trans HB1.out.size (hF2 k hk))
  have HB2 := Lib.hid (btr HB1.out hb2)
  clear hd2 hF2 hb2 HB1
  go_wp2_with fail
  refine (cformat_ok g (Dk.new 10) F2 w2 HD2.out (by decide) rfl (by decide) (by decide) (by decide) (by decide)).mono ?_
  rintro e w3 ⟨F3, rfl, hd3, hm3⟩
  have HD3 : Hid (DiskAt w3 g (dK 0) F3) := Lib.hid hd3
  have HF3 := Lib.hid (hm3.ge HB2.out.size HF2.out)
  have HB3 := Lib.hid (HB2.out.trans (hm3.below HB2.out.size HF2.out))
  clear hd3 hm3 HD2 HF2 HB2
  go_wp2_with fail
  refine (first_any w3).mono ?_
  rintro e w4 ⟨rfl, hb4⟩
  have HD4 := Lib.hid (HD3.out.below hb4)
  have HB4 := Lib.hid (HB3.out.trans (hb4.mono HB3.out.size))
  clear hb4 HD3 HB3
  rw [cr_val]
  go_upto_region 6 with fail
  have hb5 := bal (bre w4) (.cells #[.int .u32 Cr.first.gen, .int .u8 Cr.first.half, .int .u32 Cr.first.serial] 24)
  have hr5 : Row3 _ w4.heap.size (cK 0) := heap_alloc_new w4 (.cells #[.int .u32 Cr.first.gen, .int .u8 Cr.first.half, .int .u32 Cr.first.serial] 24)
  have hF5 := HD4.out.lt
  generalize w4.alloc (.cells #[.int .u32 Cr.first.gen, .int .u8 Cr.first.half, .int .u32 Cr.first.serial] 24) = w5 at *
  obtain ⟨n, hn⟩ : ∃ n, n = w4.heap.size := ⟨_, rfl⟩
  rw [← hn] at hr5 ⊢
  have hrel0 : StepRel w g n 0 w5 := ⟨⟨F3, HD4.out.below hb5, HF3.out, fun h => by have := hF5 _ h; omega⟩, HB4.out.trans (hb5.mono HB4.out.size), hr5⟩
  have HREL0 := Lib.hid hrel0
  have HNW : Hid (w.heap.size ≤ n) := Lib.hid (by have := HB4.out.size; omega)
  clear hb5 hr5 hF5 hn HD4 HB4 HF3 hrel0
  go_wp2_with fail
  rw [hmod]
  clear hmod
  go_loopw [6, 35] (fun t i wr => t = .bool false ∧ ∃ k : Nat, k ≤ m ∧ i = .int .u8 k ∧ StepRel w g n k wr) (fun _ i _ => m - (intOf i).toNat)
  case atStart => exact ⟨rfl, 0, by omega, rfl, HREL0.out⟩
  case round =>
    obtain ⟨rfl, k, hk, rfl, hr⟩ := hrel
    obtain ⟨F1, hd1, hf1, hn1⟩ := hr.ex
    have hb1 := hr.below
    have hr1 := hr.row
    have HD1 := Lib.hid hd1
    have HF1 := Lib.hid hf1
    have HN1 := Lib.hid hn1
    have HB1 := Lib.hid hb1
    have HR1 := Lib.hid hr1
    clear hr hd1 hf1 hn1 hb1 hr1 HREL0
    by_cases hlt : k < m
    · obtain ⟨f1, f2, f3, f4⟩ := dK_facts k (by omega)
      have hcn := cK_next k (by omega)
      have HCO := Lib.hid (cK_ok k (by omega))
      have HCO2 := Lib.hid (cK_ok (k + 1) (by omega))
      have HCN := Lib.hid hcn
      have HL := Lib.hid f1
      have HE := Lib.hid f3
      have r0 := HR1.out.c0
      have r1 := HR1.out.c1
      have r2 := HR1.out.c2
      have rf := HR1.out.fz
      clear f1 f2 f3 f4 hcn
      go_wp2_with fail
      rw [← cr_val]
      refine (next_any (cK k) HCO.out wr).mono ?_
      rintro e w6 ⟨rfl, hb6⟩
      rw [HCN.out]
      have HD6 := Lib.hid (HD1.out.below hb6)
      have HB6 := Lib.hid (HB1.out.trans (hb6.mono HB1.out.size))
      have HR6 := Lib.hid (HR1.out.below hb6)
      clear hb6 r0 r1 r2 rf HD1 HB1 HR1
      rw [cr_val]
      have r0 := HR6.out.c0
      have r1 := HR6.out.c1
      have r2 := HR6.out.c2
      have rf := HR6.out.fz
      go_upto_region 9 with fail
      obtain ⟨q1, q2, q3⟩ := cr_put (cK (k + 1)) HR6.out
      have hb7 := q3 _ w HNW.out HB6.out
      have hd7 := HD6.out.only q2 (fun j hj e => HN1.out (e ▸ hj))
      generalize (((w6.setCell ⟨n, 0, none⟩ (.int .u32 (cK (k + 1)).gen)).setCell ⟨n, 1, none⟩ (.int .u8 (cK (k + 1)).half)).setCell ⟨n, 2, none⟩ (.int .u32 (cK (k + 1)).serial)) = w7 at *
      have HB7 := Lib.hid hb7
      have HD7 := Lib.hid hd7
      have HR7 := Lib.hid q1
      clear q1 q2 q3 hb7 hd7 r0 r1 r2 rf HB6 HD6 HR6
      have r0 := HR7.out.c0
      have r1 := HR7.out.c1
      have r2 := HR7.out.c2
      go_wp2_with fail
      rw [← cr_val]
      refine (cwrite_ok g (dK k) F1 (cK (k + 1)) w7 HD7.out (by rw [HL.out]; decide) HE.out HCO2.out (cK_half _)).mono ?_
      rintro e w8 ⟨F8, rfl, hd8, hm8⟩
      have hn8 : ¬ F8 n := fun h => by
        rcases hm8.fresh _ h with h' | h'
        · exact HN1.out h'
        · have := HR7.out.lt; omega
      have hs : StepRel w g n (k + 1) w8 := ⟨⟨F8, hd8, hm8.ge HB7.out.size HF1.out, hn8⟩, HB7.out.trans (hm8.below HB7.out.size HF1.out), HR7.out.only hm8.only HN1.out⟩
      have HS := Lib.hid hs
      clear hs hn8 hd8 hm8 r0 r1 r2 HB7 HD7 HR7 HN1 HF1
      go_wp2_with fail
      go_roundw
      case rel => exact ⟨rfl, k + 1, by omega, by go_num, HS.out⟩
      case measure => simp [intOf]; try omega
    · have e2 : k = m := by omega
      subst e2
      obtain ⟨f1, f2, f3, f4⟩ := dK_facts k (by omega)
      have HL := Lib.hid f1
      have HW := Lib.hid f2
      have HK6 : Hid (k < 90) := Lib.hid (by omega)
      have HCO := Lib.hid (cK_ok k (by omega))
      have HCO1 := Lib.hid (cK_ok (k + 1) (by omega))
      have HCO2 := Lib.hid (cK_ok (k + 2) (by omega))
      have HCN := Lib.hid (cK_next k (by omega))
      have HCN1 : Hid ((cK (k + 1)).next = cK (k + 2)) := Lib.hid (cK_next (k + 1) (by omega))
      have HE := Lib.hid f3
      have HCNT : Hid ((dK k).count ≤ 100) := Lib.hid (by omega)
      clear f1 f2 f3 f4 hlt hk hml
      have r0 := HR1.out.c0
      have r1 := HR1.out.c1
      have r2 := HR1.out.c2
      go_wp2_with fail
      rw [← cr_val]
      refine (next_any (cK k) HCO.out wr).mono ?_
      rintro e w6 ⟨rfl, hb6⟩
      rw [HCN.out]
      have HD6 := Lib.hid (HD1.out.below hb6)
      have HB6 := Lib.hid (HB1.out.trans (hb6.mono HB1.out.size))
      have HR6 := Lib.hid (HR1.out.below hb6)
      clear hb6 r0 r1 r2 HD1 HB1 HR1
      rw [cr_val]
      go_upto_region 13 with fail
      have hb7 := bal (bre w6) (.cells #[.int .u32 (cK (k + 1)).gen, .int .u8 (cK (k + 1)).half, .int .u32 (cK (k + 1)).serial] 24)
      have hr7 : Row3 _ w6.heap.size (cK (k + 1)) := heap_alloc_new w6 (.cells #[.int .u32 (cK (k + 1)).gen, .int .u8 (cK (k + 1)).half, .int .u32 (cK (k + 1)).serial] 24)
      have hF7 := HD6.out.lt
      generalize w6.alloc (.cells #[.int .u32 (cK (k + 1)).gen, .int .u8 (cK (k + 1)).half, .int .u32 (cK (k + 1)).serial] 24) = w7 at *
      obtain ⟨n10, hn10⟩ : ∃ n, n = w6.heap.size := ⟨_, rfl⟩
      rw [← hn10] at hr7 ⊢
      have HN10 : Hid (¬ F1 n10) := Lib.hid (fun h => by have := hF7 _ h; omega)
      have HD7 := Lib.hid (HD6.out.below hb7)
      have HB7 := Lib.hid (HB6.out.trans (hb7.mono HB6.out.size))
      have HR7 := Lib.hid (HR6.out.below hb7)
      have HQ7 := Lib.hid hr7
      clear hb7 hr7 hF7 hn10 HD6 HB6 HR6
      go_wp2_with fail
      refine (full_any vp p w7 (HP.out.below HB7.out)).mono ?_
      rintro e w8 ⟨v8, rfl, ho8, hb8⟩
      have HD8 := Lib.hid (HD7.out.below hb8)
      have HB8 := Lib.hid (btr HB7.out hb8)
      have HR8 := Lib.hid (HR7.out.below hb8)
      have HQ8 := Lib.hid (HQ7.out.below hb8)
      have HO8 := Lib.hid ho8.bytes
      clear ho8 hb8 HD7 HB7 HR7 HQ7
      go_wp2_with fail
      refine (write_ok g (dK k) F1 5 v8 (fullOf p) w8 HD8.out (by rw [HL.out]; decide) HE.out.may HO8.out (fullOf_length p) HE.out.left0 HE.out.left1 (by have := HCNT.out; omega) (by rw [HW.out]; exact Nat.zero_le _)).mono ?_
      rintro e w9 ⟨F9, rfl, hd9, hm9⟩
      obtain ⟨e1, e2, e3, e4, l2, l3, l4, l5, cnt, w5⟩ := h_facts k p (by have := HK6.out; omega)
      have HE1 := Lib.hid e1
      have HE2 := Lib.hid e2
      have HE3 := Lib.hid e3
      have HE4 := Lib.hid e4
      have HL2 := Lib.hid l2
      have HL3 := Lib.hid l3
      have HL4 := Lib.hid l4
      have HL5 := Lib.hid l5
      have HCN2 := Lib.hid cnt
      have HW5 := Lib.hid w5
      clear e1 e2 e3 e4 l2 l3 l4 l5 cnt w5
      have HD9 := Lib.hid hd9
      have HB9 := Lib.hid (HB8.out.trans (hm9.below HB8.out.size HF1.out))
      have HF9 := Lib.hid (hm9.ge HB8.out.size HF1.out)
      have HR9 := Lib.hid (HR8.out.only hm9.only HN1.out)
      have HQ9 := Lib.hid (HQ8.out.only hm9.only HN10.out)
      have HN9 : Hid (¬ F9 n) := Lib.hid (fun h => by
        rcases hm9.fresh _ h with h' | h'
        · exact HN1.out h'
        · have := HR8.out.lt; omega)
      have HNA9 : Hid (¬ F9 n10) := Lib.hid (fun h => by
        rcases hm9.fresh _ h with h' | h'
        · exact HN10.out h'
        · have := HQ8.out.lt; omega)
      clear hd9 hm9 HD8 HB8 HR8 HQ8 HO8 HF1 HN1 HN10
      obtain ⟨i, hi⟩ : ∃ i, i = (cK (k + 1)).gen % 2 := ⟨_, rfl⟩
      have hi2 : i < 2 := by omega
      have hig : ((cK (k + 1)).gen : Int) % 2 = (i : Int) := by omega
      have hiw : IntKind.i64.wrap (((cK (k + 1)).gen : Int).tmod 2) = (i : Int) := by
        rw [Int.tmod_eq_emod_of_nonneg (by omega), hig, IntKind.wrap_i64]
        omega
      have HI := Lib.hid hi
      have HI2 := Lib.hid hi2
      clear hi hi2
      go_upto_region 14 with fail
      have HSB : Hid (∀ w', Below w9.heap.size w9 w' → (w'.cell? ⟨n10, 0, none⟩ = some (.int .u32 (cK (k + 1)).gen) ∧ w'.cell? ⟨n10, 1, none⟩ = some (.int .u8 (cK (k + 1)).half) ∧ w'.cell? ⟨n10, 2, none⟩ = some (.int .u32 (cK (k + 1)).serial))) := Lib.hid (fun w' hb => ⟨(HQ9.out.below hb).c0, (HQ9.out.below hb).c1, (HQ9.out.below hb).c2⟩)
      have HREF : Hid (∀ w', Calls Tryd.prog 10 #[.agg #[.int .u32 (cK (k + 1)).gen, .int .u8 (cK (k + 1)).half, .int .u32 (cK (k + 1)).serial]] w' fun e w'' => ∃ v', e = .returned v' ∧ Own8 5 w'.heap.size w'' v' (seal8 (cK (k + 1)).page.raw) ∧ Below w'.heap.size w' w'') := Lib.hid (fun w' => refbytes_any (cK (k + 1)) HCO1.out w')
      refine region_anyZ (z := 7) (S := fun w' => (w'.cell? ⟨n10, 0, none⟩ = some (.int .u32 (cK (k + 1)).gen) ∧ w'.cell? ⟨n10, 1, none⟩ = some (.int .u8 (cK (k + 1)).half) ∧ w'.cell? ⟨n10, 2, none⟩ = some (.int .u32 (cK (k + 1)).serial))) (by kernel_rfl) ?_
      refine anyZ_begin (fun hcl0 => ?_)
      refine anyZ_held (by exact HSB.out _ (bdr (bre w9))) (fun hHeld => ?_)
      -- 0: Op.move (Operand.tmp 7)
      refine' anyZ_pure (i := 0) (v := _) rfl (by rfl) (by kernel_rfl) (by kernel_rfl) (by kernel_rfl) hcl0 (fun _ _ _ h => h) (Or.inl ⟨by rfl, fun w _ => ?hz1⟩) (fun _ => hHeld) (fun hcl1 => ?rz1)
      case hz1 => (simp only [List.getElem_toArray, List.getElem_cons_zero]; first | (go_simp; with_reducible rfl) | (go_simp; done) | rfl)
      simp only [List.getElem_toArray, List.getElem_cons_zero, Act.put, List.setIfInBounds_toArray, List.set_cons_zero, List.set_cons_succ]
      -- 1: Op.fieldAddr 24 (Operand.tmp 10) 0
      refine' anyZ_pure (i := 1) (v := _) rfl (by rfl) (by kernel_rfl) (by kernel_rfl) (by kernel_rfl) hcl1 (fun _ _ _ h => h) (Or.inl ⟨by rfl, fun w _ => ?hz2⟩) (fun _ => hHeld) (fun hcl2 => ?rz2)
      case hz2 => (simp only [List.getElem_toArray, List.getElem_cons_succ, List.getElem_cons_zero]; first | (go_simp; with_reducible rfl) | (go_simp; done) | rfl)
      simp only [List.getElem_toArray, List.getElem_cons_succ, List.getElem_cons_zero, Act.put, List.setIfInBounds_toArray, List.set_cons_zero, List.set_cons_succ]
      -- 2: Op.load 22 (Operand.tmp 51)
      refine' anyZ_take (i := 2) (v := _) rfl (by rfl) (by kernel_rfl) (by kernel_rfl) (by kernel_rfl) hcl2 6 (by kernel_rfl) (by kernel_rfl) (fun _ _ _ h => h) (Or.inl ⟨by rfl, fun w hSw => ?hz3⟩) hHeld (fun hcl3 => ?rz3)
      case hz3 => (simp only [List.getElem_toArray, List.getElem_cons_succ, List.getElem_cons_zero]; obtain ⟨hS1, hS2, hS3⟩ := hSw; first | (go_simp; with_reducible rfl) | (go_simp; done) | rfl)
      simp only [List.getElem_toArray, List.getElem_cons_succ, List.getElem_cons_zero, Act.put, List.setIfInBounds_toArray, List.set_cons_zero, List.set_cons_succ]
      -- 3: Op.binOp BinOp.rem 22 (Operand.tmp 52) (Operand.const (Value
      refine' anyZ_pure (i := 3) (v := _) rfl (by rfl) (by kernel_rfl) (by kernel_rfl) (by kernel_rfl) hcl3 (fun _ _ _ h => h) (Or.inl ⟨by rfl, fun w _ => ?hz4⟩) (fun _ => hHeld) (fun hcl4 => ?rz4)
      case hz4 => (simp only [List.getElem_toArray, List.getElem_cons_succ, List.getElem_cons_zero]; first | (go_simp; with_reducible rfl) | (go_simp; done) | rfl)
      simp only [List.getElem_toArray, List.getElem_cons_succ, List.getElem_cons_zero, Act.put, List.setIfInBounds_toArray, List.set_cons_zero, List.set_cons_succ]
      -- 4: Op.convert 22 3 (Operand.tmp 53)
      refine' anyZ_pure (i := 4) (v := _) rfl (by rfl) (by kernel_rfl) (by kernel_rfl) (by kernel_rfl) hcl4 (fun _ _ _ h => h) (Or.inl ⟨by rfl, fun w _ => ?hz5⟩) (fun _ => hHeld) (fun hcl5 => ?rz5)
      case hz5 => (simp only [List.getElem_toArray, List.getElem_cons_succ, List.getElem_cons_zero]; first | (go_simp; with_reducible rfl) | (go_simp; done) | rfl)
      simp only [List.getElem_toArray, List.getElem_cons_succ, List.getElem_cons_zero, Act.put, List.setIfInBounds_toArray, List.set_cons_zero, List.set_cons_succ]
      -- 5: Op.load 24 (Operand.tmp 10)
      refine' anyZ_take (i := 5) (v := _) rfl (by rfl) (by kernel_rfl) (by kernel_rfl) (by kernel_rfl) hcl5 6 (by kernel_rfl) (by kernel_rfl) (fun _ _ _ h => h) (Or.inl ⟨by rfl, fun w hSw => ?hz6⟩) hHeld (fun hcl6 => ?rz6)
      case hz6 => (simp only [List.getElem_toArray, List.getElem_cons_succ, List.getElem_cons_zero]; obtain ⟨hS1, hS2, hS3⟩ := hSw; first | (go_simp; with_reducible rfl) | (go_simp; done) | rfl)
      simp only [List.getElem_toArray, List.getElem_cons_succ, List.getElem_cons_zero, Act.put, List.setIfInBounds_toArray, List.set_cons_zero, List.set_cons_succ]
      -- 6: Op.call { callee := Callee.value (Operand.func 10), args := 
      refine anyZ_one (i := 6) hcl6 (by kernel_rfl) (by simp only [List.getElem?_toArray, List.getElem?_cons_succ, List.getElem?_cons_zero]; rfl) (by rfl) (fun hcl7 K hK => ?_)
      go_simp
      refine (HREF.out _).mono ?_
      rintro e wx ⟨vr, rfl, hor, hbr⟩
      have hbb1 := btr (bdr (bre w9)) hbr
      refine hK _ _ (fun _ => ?_) ?_
      · exact HSB.out _ hbb1
      clear hK K hHeld
      have hHeld := (HSB.out wx hbb1)
      try simp only [Act.put, List.setIfInBounds_toArray, List.set_cons_zero, List.set_cons_succ]
      clear hHeld
      refine anyZ_chain_at (by kernel_rfl) ?_
      simp only [List.drop_succ_cons, List.drop_zero]
      have HDx := Lib.hid (HD9.out.below hbb1)
      have HBx := Lib.hid (HB9.out.trans (hbb1.mono HB9.out.size))
      have HRx := Lib.hid (HR9.out.below hbb1)
      have HQx := Lib.hid (HQ9.out.below hbb1)
      have HOx := Lib.hid hor.bytes
      clear HSB HREF hbb1 hbr hor HD9 HB9 HR9 HQ9
      go_wp2_with fail
      refine (write_ok g _ F9 i vr (seal8 (cK (k + 1)).page.raw) wx HDx.out (by show i < (dK k).safe.length; rw [HL.out]; have := HI2.out; omega) HE1.out.may HOx.out (by rw [seal_length, raw_length _ (by show 1 ≤ 491; decide)]) HE1.out.left0 HE1.out.left1 (by have := HE1.out.count; omega) (by have := HE1.out.wait; omega)).mono ?_
      rintro e wa ⟨Fa, rfl, hda, hma⟩
      rw [HI.out] at hda
      have HDa : Hid (DiskAt wa g (hB k p) Fa) := Lib.hid hda
      have HBa := Lib.hid (HBx.out.trans (hma.below HBx.out.size HF9.out))
      have HFa := Lib.hid (hma.ge HBx.out.size HF9.out)
      have HRa := Lib.hid (HRx.out.only hma.only HN9.out)
      have HQa := Lib.hid (HQx.out.only hma.only HNA9.out)
      have HNAa : Hid (¬ Fa n10) := Lib.hid (fun h => by
        rcases hma.fresh _ h with h' | h'
        · exact HNA9.out h'
        · have := HQx.out.lt; omega)
      clear hda hma HDx HBx HRx HQx HOx HF9 HN9 HNA9 hig hiw HI HI2
      go_wp2_with fail
      refine (crash_ok g (hB k p) Fa vk keep wa HDa.out (HKP.out.below HBa.out) (by have := HE2.out.wait; omega)).mono ?_
      rintro e wb ⟨gx, Fx, rfl, hdx, hfx, hbb⟩
      have HXb := Lib.hid hdx
      have HDb := Lib.hid (HDa.out.below hbb)
      have HBb := Lib.hid (HBa.out.trans (hbb.mono HBa.out.size))
      have HRb := Lib.hid (HRa.out.below hbb)
      have HQb := Lib.hid (HQa.out.below hbb)
      clear hdx hfx hbb HDa HBa HRa HQa
      go_wp2_with fail
      refine (cread_ok gx ((hB k p).crashed keep) Fx wb HXb.out (by show 4 ≤ (crashOf keep 0 (hB k p).wait (hB k p).safe).length; rw [crashOf_length, HL2.out]; decide) (by show 0 ≤ _; decide)).mono ?_
      rintro e wc ⟨rfl, hbc⟩
      have HDc := Lib.hid (HDb.out.below hbc)
      have HBc := Lib.hid (HBb.out.trans (hbc.mono HBb.out.size))
      have HRc := Lib.hid (HRb.out.below hbc)
      have HQc := Lib.hid (HQb.out.below hbc)
      clear hbc HDb HBb HRb HQb HXb
      obtain ⟨cx, hrd, hcx⟩ : ∃ c, readOf ((hB k p).crashed keep).now = (c, 0, 0) ∧ (c = cK k ∨ c = cK (k + 1)) := by
        rcases hold_crash k p keep (by have := HK6.out; omega) with h | h
        · exact ⟨_, h, .inl rfl⟩
        · exact ⟨_, h, .inr rfl⟩
      rw [hrd, cr_val cx]
      clear hrd
      have HCX := Lib.hid hcx
      clear hcx
      go_upto_region 17 with fail
      have hbd := bal (bre wc) (.cells #[.int .u32 cx.gen, .int .u8 cx.half, .int .u32 cx.serial] 24)
      have hrd : Row3 _ wc.heap.size cx := heap_alloc_new wc (.cells #[.int .u32 cx.gen, .int .u8 cx.half, .int .u32 cx.serial] 24)
      have hFd := HDc.out.lt
      generalize wc.alloc (.cells #[.int .u32 cx.gen, .int .u8 cx.half, .int .u32 cx.serial] 24) = wd at *
      obtain ⟨n13, hn13⟩ : ∃ n, n = wc.heap.size := ⟨_, rfl⟩
      rw [← hn13] at hrd ⊢
      have HDd := Lib.hid (HDc.out.below hbd)
      have HBd := Lib.hid (HBc.out.trans (hbd.mono HBc.out.size))
      have HRd := Lib.hid (HRc.out.below hbd)
      have HQd := Lib.hid (HQc.out.below hbd)
      have HXd := Lib.hid hrd
      clear hbd hrd hFd hn13 HDc HBc HRc HQc
      go_cut [81] from 70 to 81 (fun t w' => t = .bool false ∧ w' = wd)
      case first =>
        have x0 := HXd.out.c0
        have x1 := HXd.out.c1
        have x2 := HXd.out.c2
        have y0 := HRd.out.c0
        have y1 := HRd.out.c1
        have y2 := HRd.out.c2
        have u0 := HQd.out.c0
        have u1 := HQd.out.c1
        have u2 := HQd.out.c2
        rcases HCX.out with h | h
        · subst h
          go_wp2_with fail
          go_meet
          case rel => exact ⟨rfl, rfl⟩
        · subst h
          have hne1 : (((cK (k + 1)).gen : Int) == (cK k).gen) = false := beq_false_of_ne (by show ¬ ((1 + (k + 1) : Nat) : Int) = ((1 + k : Nat) : Int); omega)
          have hne2 : decide (((cK (k + 1)).gen : Int) = (cK k).gen) = false := decide_eq_false (by show ¬ ((1 + (k + 1) : Nat) : Int) = ((1 + k : Nat) : Int); omega)
          have hne3 : decide ((cK (k + 1)).gen = (cK k).gen) = false := decide_eq_false (by show ¬ (1 + (k + 1) : Nat) = 1 + k; omega)
          have hne4 : ¬ (cK (k + 1)).gen = (cK k).gen := by show ¬ (1 + (k + 1) : Nat) = 1 + k; omega
          go_wp2_with fail
          go_meet
          case rel => exact ⟨rfl, rfl⟩
      case rest =>
      obtain ⟨rfl, hwc⟩ := hcut
      rename World => wd'
      have hwc' := hwc.symm
      subst hwc'
      clear hwc HXd HCX HRd
      go_wp2_with fail
      refine (sync_ok g (hB k p) Fa wd HDd.out HE2.out.may HE2.out.left0 HE2.out.left1 (by have := HE2.out.wait; omega)).mono ?_
      rintro e we ⟨Fe, rfl, hde, hme⟩
      have HDe : Hid (DiskAt we g (hC k p) Fe) := Lib.hid hde
      have HBe := Lib.hid (HBd.out.trans (hme.below HBd.out.size HFa.out))
      have HFe := Lib.hid (hme.ge HBd.out.size HFa.out)
      have HQe := Lib.hid (HQd.out.only hme.only HNAa.out)
      have HNAe : Hid (¬ Fe n10) := Lib.hid (fun h => by
        rcases hme.fresh _ h with h' | h'
        · exact HNAa.out h'
        · have := HQd.out.lt; omega)
      clear hde hme HDd HBd HFa HQd HNAa
      go_wp2_with fail
      refine (writes_any g (hC k p) Fe we HDe.out).mono ?_
      rintro e we1 ⟨rfl, hwe⟩
      have hwe' := hwe.symm
      subst hwe'
      clear hwe
      obtain ⟨c0, hc0⟩ : ∃ c, c = (hC k p).count := ⟨_, rfl⟩
      rw [← hc0]
      have hcn2 := HCN2.out
      rw [← hc0] at hcn2
      have HCN2' := Lib.hid hcn2
      have HC0 : Hid (c0 ≤ 900000) := Lib.hid (by rw [hc0]; exact HE3.out.count)
      clear hc0 hcn2 HCN2
      go_wp2_with fail
      refine (full_any vp p we (HP.out.below HBe.out)).mono ?_
      rintro e wf ⟨vf, rfl, hof, hbf⟩
      have HDf := Lib.hid (HDe.out.below hbf)
      have HBf := Lib.hid (btr HBe.out hbf)
      have HQf := Lib.hid (HQe.out.below hbf)
      have HOf := Lib.hid hof.bytes
      clear hof hbf HDe HBe HQe
      go_wp2_with fail
      refine (write_ok g (hC k p) Fe 5 vf (fullOf p) wf HDf.out (by rw [HL3.out]; decide) HE3.out.may HOf.out (fullOf_length p) HE3.out.left0 HE3.out.left1 (by have := HE3.out.count; omega) (by have := HE3.out.wait; omega)).mono ?_
      rintro e wg ⟨Fg, rfl, hdg, hmg⟩
      have HDg : Hid (DiskAt wg g (hD k p) Fg) := Lib.hid hdg
      have HBg := Lib.hid (HBf.out.trans (hmg.below HBf.out.size HFe.out))
      have HFg := Lib.hid (hmg.ge HBf.out.size HFe.out)
      have HQg := Lib.hid (HQf.out.only hmg.only HNAe.out)
      have HNAg : Hid (¬ Fg n10) := Lib.hid (fun h => by
        rcases hmg.fresh _ h with h' | h'
        · exact HNAe.out h'
        · have := HQf.out.lt; omega)
      clear hdg hmg HDf HBf HFe HQf HOf HNAe
      have u0 := HQg.out.c0
      have u1 := HQg.out.c1
      have u2 := HQg.out.c2
      go_wp2_with fail
      rw [← cr_val]
      refine (next_any (cK (k + 1)) HCO1.out wg).mono ?_
      rintro e wh ⟨rfl, hbh⟩
      rw [HCN1.out]
      have HDh := Lib.hid (HDg.out.below hbh)
      have HBh := Lib.hid (HBg.out.trans (hbh.mono HBg.out.size))
      have HQh := Lib.hid (HQg.out.below hbh)
      clear hbh u0 u1 u2 HDg HBg HQg
      rw [cr_val]
      go_wp2_with fail
      rw [← cr_val]
      refine (cwrite_ok g (hD k p) Fg (cK (k + 2)) wh HDh.out (by rw [HL4.out]; decide) HE4.out HCO2.out (cK_half _)).mono ?_
      rintro e wi ⟨Fi, rfl, hdi, hmi⟩
      have HDi : Hid (DiskAt wi g (hE k p) Fi) := Lib.hid hdi
      have HBi := Lib.hid (HBh.out.trans (hmi.below HBh.out.size HFg.out))
      have HQi := Lib.hid (HQh.out.only hmi.only HNAg.out)
      clear hdi hmi HDh HBh HFg HQh HNAg
      go_wp2_with fail
      refine (writes_any g (hE k p) Fi wi HDi.out).mono ?_
      rintro e wi1 ⟨rfl, hwe⟩
      have hwe' := hwe.symm
      subst hwe'
      clear hwe
      rw [HCN2'.out]
      have hadd : (c0 : Int) + 2 = ((c0 + 2 : Nat) : Int) := by omega
      have hc0 := HC0.out
      obtain ⟨c2, hc2⟩ : ∃ c, c = c0 + 2 := ⟨_, rfl⟩
      rw [← hc2] at hadd ⊢
      clear hc2
      go_wp2_with fail
      refine (waiting_any g (hE k p) Fi wi HDi.out (by rw [HW5.out]; exact Nat.zero_le _)).mono ?_
      rintro e wj ⟨vj, rfl, hoj, hbj⟩
      rw [HW5.out] at hoj
      obtain ⟨aw, cw, rfl⟩ : ∃ (a : Option Addr) (c : Nat), vj = .slice a 0 c := by
        rcases hoj.2 with ⟨h', -⟩ | ⟨gg, cap, cur, h', -⟩
        · exact ⟨none, 0, h'⟩
        · exact ⟨_, cap, h'⟩
      have HDj := Lib.hid (HDi.out.below hbj)
      have HBj := Lib.hid (HBi.out.trans (hbj.mono HBi.out.size))
      have HQj := Lib.hid (HQi.out.below hbj)
      clear hoj hbj HDi HBi HQi hadd hc0
      go_wp2_with fail
      refine (crash_ok g (hE k p) Fi (.slice none 0 0) [] wj HDj.out (bools_none wj) (by rw [HW5.out]; exact Nat.zero_le _)).mono ?_
      rintro e wk ⟨gy, Fy, rfl, hdy, hfy, hbk⟩
      obtain ⟨y1, y2, y3⟩ := hold_end k p [] (by have := HK6.out; omega)
      have HY1 := Lib.hid y1
      have HY2 := Lib.hid y2
      have HY3 := Lib.hid y3
      have HYk := Lib.hid hdy
      have HBk := Lib.hid (HBj.out.trans (hbk.mono HBj.out.size))
      have HQk := Lib.hid (HQj.out.below hbk)
      clear hdy hfy hbk y1 y2 y3 HDj HBj HQj
      go_wp2_with fail
      refine (cread_ok gy ((hE k p).crashed []) Fy wk HYk.out (by rw [HY3.out]; decide) (by show 0 ≤ _; decide)).mono ?_
      rintro e wl ⟨rfl, hbl⟩
      rw [HY1.out, cr_val (cK (k + 2))]
      have HYl := Lib.hid (HYk.out.below hbl)
      have HBl := Lib.hid (HBk.out.trans (hbl.mono HBk.out.size))
      have HQl := Lib.hid (HQk.out.below hbl)
      clear hbl HYk HBk HQk
      go_upto_region 26 with fail
      have hbm := bal (bre wl) (.cells #[.int .u32 (cK (k + 2)).gen, .int .u8 (cK (k + 2)).half, .int .u32 (cK (k + 2)).serial] 24)
      have hrm : Row3 _ wl.heap.size (cK (k + 2)) := heap_alloc_new wl (.cells #[.int .u32 (cK (k + 2)).gen, .int .u8 (cK (k + 2)).half, .int .u32 (cK (k + 2)).serial] 24)
      generalize wl.alloc (.cells #[.int .u32 (cK (k + 2)).gen, .int .u8 (cK (k + 2)).half, .int .u32 (cK (k + 2)).serial] 24) = wm at *
      obtain ⟨n19, hn19⟩ : ∃ n, n = wl.heap.size := ⟨_, rfl⟩
      rw [← hn19] at hrm ⊢
      have HYm := Lib.hid (HYl.out.below hbm)
      have HBm := Lib.hid (HBl.out.trans (hbm.mono HBl.out.size))
      have HQm := Lib.hid (HQl.out.below hbm)
      have HRm := Lib.hid hrm
      clear hbm hrm hn19 HYl HBl HQl
      go_wp2_with fail
      refine (dread_ok gy ((hE k p).crashed []) Fy 5 wm HYm.out (by rw [HY3.out]; decide) (by show 0 ≤ _; decide)).mono ?_
      rintro e wn ⟨vn, rfl, hon, hbn⟩
      rw [HY2.out] at hon
      have HBn := Lib.hid (btr HBm.out hbn)
      have HQn := Lib.hid (HQm.out.below hbn)
      have HRn := Lib.hid (HRm.out.below hbn)
      have HOn := Lib.hid hon.bytes
      clear hon hbn HYm HBm HQm HRm
      go_upto_region 27 with fail
      have hs0 : (wn.cell? ⟨n19, 0, none⟩ = some (.int .u32 (cK (k + 2)).gen) ∧ wn.cell? ⟨n19, 1, none⟩ = some (.int .u8 (cK (k + 2)).half) ∧ wn.cell? ⟨n19, 2, none⟩ = some (.int .u32 (cK (k + 2)).serial) ∧ wn.cell? ⟨n10, 0, none⟩ = some (.int .u32 (cK (k + 1)).gen) ∧ wn.cell? ⟨n10, 1, none⟩ = some (.int .u8 (cK (k + 1)).half) ∧ wn.cell? ⟨n10, 2, none⟩ = some (.int .u32 (cK (k + 1)).serial)) := ⟨HRn.out.c0, HRn.out.c1, HRn.out.c2, HQn.out.c0, HQn.out.c1, HQn.out.c2⟩
      have HSB : Hid (∀ w', Below wn.heap.size wn w' → (w'.cell? ⟨n19, 0, none⟩ = some (.int .u32 (cK (k + 2)).gen) ∧ w'.cell? ⟨n19, 1, none⟩ = some (.int .u8 (cK (k + 2)).half) ∧ w'.cell? ⟨n19, 2, none⟩ = some (.int .u32 (cK (k + 2)).serial) ∧ w'.cell? ⟨n10, 0, none⟩ = some (.int .u32 (cK (k + 1)).gen) ∧ w'.cell? ⟨n10, 1, none⟩ = some (.int .u8 (cK (k + 1)).half) ∧ w'.cell? ⟨n10, 2, none⟩ = some (.int .u32 (cK (k + 1)).serial))) := Lib.hid (fun w' hb => ⟨(HRn.out.below hb).c0, (HRn.out.below hb).c1, (HRn.out.below hb).c2, (HQn.out.below hb).c0, (HQn.out.below hb).c1, (HQn.out.below hb).c2⟩)
      have HNEXT : Hid (∀ w', Calls Tryd.prog 17 #[.agg #[.int .u32 (cK (k + 1)).gen, .int .u8 (cK (k + 1)).half, .int .u32 (cK (k + 1)).serial]] w' fun e w'' => e = .returned (.agg #[.int .u32 (cK (k + 2)).gen, .int .u8 (cK (k + 2)).half, .int .u32 (cK (k + 2)).serial]) ∧ Below w'.heap.size w' w'') := Lib.hid (fun w' => (next_any (cK (k + 1)) HCO1.out w').mono (fun e w2 h => ⟨by rw [h.1, HCN1.out]; rfl, h.2⟩))
      have HFULL : Hid (∀ w', Below wn.heap.size wn w' → Calls Tryd.prog 11 #[vp] w' fun e w'' => ∃ v', e = .returned v' ∧ Bytes w'' v' (fullOf p) ∧ Below w'.heap.size w' w'') := Lib.hid (fun w' hb => (full_any vp p w' ((HP.out.below HBn.out).below hb)).mono (fun e w2 h => by obtain ⟨v', h1, h2, h3⟩ := h; exact ⟨v', h1, h2.bytes, h3⟩))
      have HSAME : Hid (∀ w' u, Below wn.heap.size wn w' → Bytes w' u (fullOf p) → Calls Tryd.prog 28 #[vn, u] w' fun e w'' => e = .returned (.bool true) ∧ Below w'.heap.size w' w'') := Lib.hid (fun w' u hb hu => (same_any vn u _ _ w' (HOn.out.below hb) hu).mono (fun e w2 h => by
        obtain ⟨h1, q, h2⟩ := h
        exact ⟨by rw [h1, decide_eq_true rfl], by rw [h2]; exact bdn (bre w') q⟩))
      go_region_held3 (fun w' => (w'.cell? ⟨n19, 0, none⟩ = some (.int .u32 (cK (k + 2)).gen) ∧ w'.cell? ⟨n19, 1, none⟩ = some (.int .u8 (cK (k + 2)).half) ∧ w'.cell? ⟨n19, 2, none⟩ = some (.int .u32 (cK (k + 2)).serial) ∧ w'.cell? ⟨n10, 0, none⟩ = some (.int .u32 (cK (k + 1)).gen) ∧ w'.cell? ⟨n10, 1, none⟩ = some (.int .u8 (cK (k + 1)).half) ∧ w'.cell? ⟨n10, 2, none⟩ = some (.int .u32 (cK (k + 1)).serial))) (first | exact hs0 | (with_reducible exact HSB.out _ hbb3) | (with_reducible exact HSB.out _ hbb2) | (with_reducible exact HSB.out _ hbb1) | exact HSB.out _ (bdr (bre wn))) (first | (go_at_call 17; refine (HNEXT.out _).mono ?_; rintro e wa1 ⟨rfl, hba1⟩; have hbb1 := btr (bdr (bre wn)) hba1) | (go_at_call 11; refine (HFULL.out _ hbb1).mono ?_; rintro e wa2 ⟨vz, rfl, hoz, hba2⟩; have hbb2 := btr hbb1 hba2) | (go_at_call 28; refine (HSAME.out _ vz hbb2 hoz).mono ?_; rintro e wa3 ⟨rfl, hba3⟩; have hbb3 := btr hbb2 hba3))
      have HFIN := Lib.hid (HBn.out.trans (hbb3.mono HBn.out.size))
      clear hs0 HSB HNEXT HFULL HSAME hbb1 hbb2 hbb3 hba1 hba2 hba3 hoz
      go_wp2_with fail
      go_ret
      exact ⟨rfl, HFIN.out⟩
end Go.Proofs.YtejdlgfiiagcmaaDoor
