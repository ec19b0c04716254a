/- Walk of the law: ReelRots. -/
import Derived.Test.YtacfkhnajdneeaaDoorRlRotsP
import Derived.Test.YtacfkhnajdneeaaDoorRlHalf
namespace Go.Proofs.YtacfkhnajdneeaaDoor
open Go.RowKit

set_option maxRecDepth 20000 in
set_option maxHeartbeats 3200000 in
theorem rots_calls (c0 : Cr) (ok0 : c0.Ok) (vs : Value) (sizes : List Nat) (which at' mask : Nat) (hwh : which < 256) (hat : at' < 65536) (hmask : mask < 4294967296) (w : World) (hv : Us16 w vs sizes) :
    Calls Tryd.prog 9 #[CrVal c0, vs, .int .u8 which, .int .u16 at', .int .u32 mask] w fun e w' => e = .returned (.bool true) ∧ Below w.heap.size w w' := by
  obtain ⟨a, cp, rfl, hm, hc, -, hrow⟩ := id hv
  have HR := Lib.hid hrow
  obtain ⟨L, hL⟩ : ∃ L, L = sizes.length := ⟨_, rfl⟩
  rw [← hL] at hm hc ⊢
  have HL := Lib.hid hL
  obtain ⟨h2, hh2⟩ : ∃ x, x = c0.half % 2 := ⟨_, rfl⟩
  have e1 : (c0.half : Int) % 2 = (h2 : Int) := by omega
  obtain ⟨c, hcd⟩ : ∃ c : Cr, c = ⟨c0.gen, h2, c0.serial⟩ := ⟨_, rfl⟩
  have ok : c.Ok := by
    rw [hcd]
    exact ⟨ok0.gen, by show h2 < 256; omega, ok0.serial⟩
  have hch2 : c.half ≤ 1 := by rw [hcd]; show h2 ≤ 1; omega
  have HC := Lib.hid (And.intro ok hch2)
  have HCD := Lib.hid hcd
  have HMK := Lib.hid (And.intro hmask (And.intro hat hwh))
  unfold maxLen at hm
  unfold CrVal
  obtain ⟨n3, hn3⟩ : ∃ n, n = w.heap.size := ⟨_, rfl⟩
  clear hv hrow hL hh2 hcd ok hch2 hwh hat hmask
  go_enter Tryd.func9, Tryd.ntmps9
  go_upto_region 1 with fail
  have hb0 := bal (bre w) (.cells #[.int .u32 c0.gen, .int .u8 c0.half, .int .u32 c0.serial] 36)
  have hr0 := heap_alloc_new w (.cells #[.int .u32 c0.gen, .int .u8 c0.half, .int .u32 c0.serial] 36)
  generalize w.alloc (.cells #[.int .u32 c0.gen, .int .u8 c0.half, .int .u32 c0.serial] 36) = W at *
  rw [← hn3] at hr0 ⊢
  have hrow0 : Row3 W n3 c0 := hr0
  have HROW := Lib.hid hrow0
  have HB0 := Lib.hid hb0
  have HN3 : Hid (w.heap.size ≤ n3) := Lib.hid (by omega)
  clear hb0 hr0 hrow0 hn3
  go_wp2_with fail
  refine (awake_any W).mono ?_
  rintro e w1 ⟨rfl, hb1⟩
  have HROW1 := Lib.hid (HROW.out.below hb1)
  have HB1 := Lib.hid (btr HB0.out hb1)
  have x1 := HROW1.out.c1
  have fz := HROW1.out.fz
  clear hb1 HROW HB0
  go_upto_region 4 with fail
  have hrow2 : Row3 (w1.setCell ⟨n3, 1, none⟩ (.int .u8 h2)) n3 c := by
    rw [HCD.out]
    exact heap_setCell_same w1 n3 1 _ _ (.int .u8 h2) HROW1.out
  have hb2 : Below w.heap.size w (w1.setCell ⟨n3, 1, none⟩ (.int .u8 h2)) := HB1.out.setCell HN3.out _
  generalize w1.setCell ⟨n3, 1, none⟩ (.int .u8 h2) = w2 at *
  have HROW2 := Lib.hid hrow2
  have HB2 := Lib.hid hb2
  clear hrow2 hb2 x1 fz e1 HROW1 HB1 HCD
  go_wp2_with fail
  refine (new_any 40 w2 (by omega) (by omega)).mono ?_
  rintro e w3 ⟨gd, F, rfl, hd3, hf3, hb3⟩
  have HROW3 := Lib.hid (HROW2.out.below hb3)
  have HB3 := Lib.hid (btr HB2.out hb3)
  have HD3 := Lib.hid hd3
  have HF3 : Hid (∀ q, F q → w.heap.size ≤ q) := Lib.hid (fun q hq => Nat.le_trans HB2.out.size (hf3 q hq))
  have y0 := HROW3.out.c0
  have y1 := HROW3.out.c1
  have y2 := HROW3.out.c2
  clear hd3 hf3 hb3 HROW2 HB2
  go_wp2_with fail
  refine (open_new3_any gd 40 F c HC.out.1 w3 HD3.out (by decide) (by decide) HC.out.2).mono ?_
  rintro e w4 ⟨hb4, g, G, r, z, rfl, hr4, hg4, hl4, hzn, hzg, hrf⟩
  have hrn : r.n = (c.from 40).2 := by rw [hl4.n, hzn]
  have h19 : (c.from 40).2 = 19 := by
    unfold Cr.from
    split
    · omega
    · rfl
  have hho : RotSt w w4 gd n3 g 0 c [] z r (Dk.new 40) F G 0 := ⟨⟨HD3.out.below hb4, hr4, hl4, fun k hk => by
    rcases hk with hk | hk
    · exact HF3.out k hk
    · exact Nat.le_trans HB3.out.size (hg4 k hk), btr HB3.out hb4⟩, HROW3.out.below hb4, hzg, by rw [hrf, hrn], by rw [hrn]; exact h19, List.length_replicate, ⟨Nat.zero_le _, Nat.zero_le _, Nat.zero_le _⟩⟩
  have HHO := Lib.hid hho
  clear hho hr4 hg4 hl4 hzn hzg hrf hrn h19 hb4 HD3 HF3 HB3 HROW3 y0 y1 y2
  go_wp2_with fail
  go_loopw [16, 17, 48] (fun _ _ i wr => ∃ (k j synced : Nat) (all : List (List UInt8)) (r : Rl) (d : Dk) (F G : Nat → Prop), i = .int .i64 k ∧ k ≤ L ∧ j ≤ k ∧ Hid (RotSt w wr gd n3 g j c all z r d F G synced)) (fun _ _ i _ => L - (intOf i).toNat)
  case atStart => exact ⟨0, 0, 0, [], r, Dk.new 40, F, G, rfl, by omega, by omega, HHO⟩
  case round =>
    clear HHO
    obtain ⟨k, j, synced, all, r, d, F, G, rfl, hkL, hjk, hho⟩ := hrel
    by_cases hlt : k < L
    · have d1 : decide ((k : Int) < (L : Int)) = true := decide_eq_true (by omega)
      have d1n : decide (k < L) = true := decide_eq_true hlt
      have hkl : k < sizes.length := by rw [← HL.out]; exact hlt
      rcases HR.out with h0 | ⟨gb, ob, rfl, hcell⟩
      · rw [h0] at hkl; simp at hkl
      obtain ⟨us, hus, hu1, -⟩ := hcell k _ (List.getElem?_eq_getElem hkl)
      generalize sizes[k] = nn at *
      subst hu1
      have v0 := (hho.out.st.bel.cell (p := ⟨gb, ob + k, none⟩) (block_lt_of_cell hus)).trans hus
      obtain ⟨sz, hsz⟩ : ∃ x, x = nn % 800 := ⟨_, rfl⟩
      have q1 : (nn : Int) % 800 = (sz : Int) := by omega
      have hs8 : sz < 800 := by omega
      clear hcell hus hkl hsz
      by_cases h8 : k < 8
      · have d2 : decide ((k : Int) < 8) = true := decide_eq_true (by omega)
        have d2n : decide (k < 8) = true := decide_eq_true h8
        obtain ⟨wm, hrun, hown, hbm⟩ := run_make8u (P := Tryd.prog) wr mk8R sz (by omega)
        have HHM := Lib.hid (hho.out.below hbm)
        have HOM := Lib.hid (Rec8.low (base' := 0) (Rec8.of_own hown) (Nat.zero_le _))
        have HS8 := Lib.hid hs8
        have HJ8 := Lib.hid (And.intro hjk h8)
        clear hho hown hbm hs8
        go_wp2_with fail
        refine (st_append_any HHM.out.st _ (List.replicate sz 0) HOM.out (by rw [List.length_replicate]; have := HS8.out; omega) (by have := HHM.out.few; omega) (by have := HHM.out.few; omega) (by have h1 := all_len_le all; have h2 := HHM.out.st.lv.poss.room; have h4 := HHM.out.st.lv.n; have h5 := HHM.out.n; omega)).mono ?_
        rintro e w9 ⟨hno, hyes⟩
        by_cases hfit : (layAll (all ++ [List.replicate sz 0])).length ≤ 487 * z.n
        · obtain ⟨he, r3, d3, F3, G3, k1, k2, k3, k4, k5, k6⟩ := hyes hfit
          subst he
          have HN9 := Lib.hid (HHM.out.more (by have := HJ8.out; omega) k1 k2 k3 k4 k5 k6)
          clear hno hyes hfit k1 k2 k3 k4 k5 k6 HHM HOM
          go_wp2_with fail
          go_roundw
          case rel => exact ⟨k + 1, j + 1, synced, all ++ [List.replicate sz 0], r3, d3, F3, G3, by go_num, by omega, by omega, HN9⟩
          case measure => simp [intOf]; omega
        · obtain ⟨he, hb9⟩ := hno (by omega)
          subst he
          have HN9 := Lib.hid (HHM.out.below hb9)
          clear hno hyes hfit hb9 HHM HOM
          go_wp2_with fail
          go_roundw
          case rel => exact ⟨k + 1, j, synced, all, r, d, F, G, by go_num, by omega, by omega, HN9⟩
          case measure => simp [intOf]; omega
      · have d2 : decide ((k : Int) < 8) = false := decide_eq_false (by omega)
        have d2n : decide (k < 8) = false := decide_eq_false h8
        go_wp2_with fail
        go_roundw
        case rel => exact ⟨k + 1, j, synced, all, r, d, F, G, by go_num, by omega, by omega, hho⟩
        case measure => simp [intOf]; omega
    · have d1 : decide ((k : Int) < (L : Int)) = false := decide_eq_false (by omega)
      have d1n : decide (k < L) = false := decide_eq_false hlt
      clear HR HL hm hc hlt hkL hjk
      go_wp2_with fail
      refine (st_sync_any hho.out.st (by have := hho.out.few; omega)).mono ?_
      rintro e w5 ⟨rfl, F5, hst5, hm5⟩
      have HS5 := Lib.hid (hho.out.sync hst5 hm5)
      have HW5 : Hid (d.synced.wait = []) := Lib.hid rfl
      generalize d.synced = ds at *
      clear hho hst5 hm5 d1 d1n
      have y0 := HS5.out.cr.c0
      have y1 := HS5.out.cr.c1
      have y2 := HS5.out.cr.c2
      go_wp2_with fail
      refine (from_any c 40 (by decide) HC.out.1.half _).mono ?_
      rintro e w6 ⟨rfl, hb6⟩
      have HS6 := Lib.hid (HS5.out.below hb6)
      rw [HS5.out.fr]
      clear hb6 HS5 y0 y1 y2
      go_wp2_with fail
      refine (rsize_in HS6.out.st.rl).mono ?_
      rintro e w7 ⟨rfl, hw⟩
      have hw' := hw.symm
      subst hw'
      clear hw
      have hls : r.ls = all := HS6.out.st.lv.ls
      rw [hls]
      obtain ⟨T, hT⟩ : ∃ q, q = (layAll all).length := ⟨_, rfl⟩
      have hT9 : T ≤ 9253 := by rw [hT]; have h2 := HS6.out.st.lv.poss.room; have h4 := HS6.out.st.lv.n; have h5 := HS6.out.n; omega
      rw [← hT]
      have HT := Lib.hid hT
      have HLS := Lib.hid hls
      obtain ⟨T2, hT2⟩ : ∃ q, q = T + 486 := ⟨_, rfl⟩
      obtain ⟨PN, hPN⟩ : ∃ q, q = T2 / 487 := ⟨_, rfl⟩
      have t1 : (T : Int) + 486 = (T2 : Int) := by omega
      have t2 : (T2 : Int) / 487 = (PN : Int) := by omega
      have t3 : IntKind.i64.wrap (T2 : Int) = (T2 : Int) := by rw [IntKind.wrap_i64]; omega
      have t4 : ((T2 : Int).tdiv 487) = (PN : Int) := by rw [Int.tdiv_eq_ediv_of_nonneg (by omega)]; omega
      have HPN : Hid (PN = (T + 486) / 487) := Lib.hid (by rw [hPN, hT2])
      have hp20 : PN ≤ 20 := by omega
      clear hT hls hT2 hPN hT9
      by_cases hp0 : PN = 0
      · subst hp0
        go_wp2_with fail
        refine (rcount_in HS6.out.st.rl).mono ?_
        rintro e w8 ⟨rfl, hw⟩
        have hw' := hw.symm
        subst hw'
        clear hw
        have hl0 : r.ls.length = 0 := by
          rw [HLS.out]
          have h1 := all_len_le all
          have h2 := HT.out
          have h3 := HPN.out
          omega
        rw [hl0]
        clear hl0
        go_wp2_with fail
        go_ret
        exact ⟨rfl, HS6.out.st.bel⟩
      · have d3 : ((PN : Int) == 0) = false := beq_false_of_ne (by omega)
        have d3n : decide ((PN : Int) = 0) = false := decide_eq_false (by omega)
        have d4 : (PN == 0) = false := beq_false_of_ne hp0
        have d4n : decide (PN = 0) = false := decide_eq_false hp0
        obtain ⟨J, hJ⟩ : ∃ q, q = which % PN := ⟨_, rfl⟩
        have hJP : J < PN := by rw [hJ]; exact Nat.mod_lt _ (by omega)
        have u1 : ((which : Int).tmod (PN : Int)) = (J : Int) := by rw [hJ, Int.tmod_eq_emod_of_nonneg (by omega)]; omega
        have u2 : ((which : Int) % (PN : Int)) = (J : Int) := by rw [hJ]; omega
        obtain ⟨FR, hFR⟩ : ∃ q, q = r.fr := ⟨_, rfl⟩
        rw [← hFR]
        obtain ⟨K, hK⟩ : ∃ q, q = FR + J := ⟨_, rfl⟩
        have u3 : (FR : Int) + (J : Int) = (K : Int) := by omega
        have hfits := HS6.out.st.lv.fits
        have hlen := HS6.out.len
        have hn19 := HS6.out.n
        have hK40 : K < 40 := by have := HPN.out; have h2 := HS6.out.st.lv.poss.room; have h4 := HS6.out.st.lv.n; have := HT.out; omega
        have u4 : IntKind.i64.wrap (K : Int) = (K : Int) := by rw [IntKind.wrap_i64]; omega
        have u5 : IntKind.i64.wrap (which : Int) = (which : Int) := by rw [IntKind.wrap_i64]; have := HMK.out; omega
        have HJ := Lib.hid (And.intro hJP (And.intro hK (And.intro hFR hK40)))
        clear hJP hK hFR hfits hlen hn19 hJ
        go_wp2_with fail
        refine (dread_ok gd ds F5 K w6 HS6.out.st.dk (by rw [HS6.out.len]; exact HJ.out.2.2.2) (by rw [HW5.out]; exact Nat.zero_le _)).mono ?_
        rintro e w8 ⟨v8, rfl, ho8, hb8⟩
        have HS8 := Lib.hid (HS6.out.below hb8)
        have HV8 := Lib.hid ((Rec8.of_own ho8).low (base' := 0) (Nat.zero_le _))
        obtain ⟨a8, m8, c8, rfl⟩ := Own8.isSlice ho8
        clear ho8 hb8 HS6 u1 u2 u3 u4 u5 t1 t2 t3 t4
        have hat := HMK.out.2.1
        have u6 : IntKind.i64.wrap (at' : Int) = (at' : Int) := by rw [IntKind.wrap_i64]; omega
        go_wp2_with (with_reducible refine wpList_min rfl _ _ _ rfl _ _ _ rfl rfl ?_; intro r' hr'; obtain ⟨sx, rfl, hsx⟩ := min_4064 hr'; have HSX := Lib.hid hsx; clear hsx hr')
        refine (rot_ok gd ds F5 K sx 32 mask w8 HS8.out.st.dk (by rw [HS8.out.len]; exact HJ.out.2.2.2) (by decide) (by have := HSX.out; omega) HMK.out.1 (by rw [HW5.out]; exact Nat.zero_le _)).mono ?_
        rintro e w9 ⟨rfl, hd9, hm9⟩
        have HR9 := Lib.hid (HS8.out.st.rl.moved HS8.out.st.dk hm9)
        have HV9 := Lib.hid (HV8.out.only hm9.only HS8.out.st.dk.no8)
        have HC9 := Lib.hid (HS8.out.cr.only hm9.only (HS8.out.st.dk.apartT HS8.out.cr (by decide) (by decide) (by decide)))
        have HB9 := Lib.hid (HS8.out.st.bel.trans (hm9.below HS8.out.st.bel.size (fun k hk => HS8.out.st.low k (.inl hk))))
        have HW9 : Hid ((ds.rotted K sx mask 32).wait.length ≤ 1000000) := Lib.hid (by show (ds.wait.map _).length ≤ _; rw [HW5.out]; exact Nat.zero_le _)
        have HL9 : Hid ((ds.rotted K sx mask 32).safe.length = 40) := Lib.hid (by show (ds.safe.set K _).length = 40; rw [List.length_set]; exact HS8.out.len)
        have HD9 := Lib.hid hd9
        clear hd9 hm9 HV8
        go_wp2_with fail
        refine (dread_ok gd _ F5 K w9 HD9.out (by rw [HL9.out]; exact HJ.out.2.2.2) HW9.out).mono ?_
        rintro e w10 ⟨v10, rfl, ho10, hb10⟩
        have HV10 := Lib.hid (Rec8.low (base' := 0) (Rec8.of_own ho10) (Nat.zero_le _))
        obtain ⟨a10, m10, c10, rfl⟩ := Own8.isSlice ho10
        have HD10 := Lib.hid (HD9.out.below hb10)
        have HU10 := Lib.hid (HV9.out.below hb10)
        have HR10 := Lib.hid (HR9.out.below hb10)
        have HC10 := Lib.hid (HC9.out.below hb10)
        have HB10 := Lib.hid (btr HB9.out hb10)
        have y0 := HC10.out.c0
        have y1 := HC10.out.c1
        have y2 := HC10.out.c2
        clear ho10 hb10 HD9 HR9 HV9 HC9 HB9
        have hcf : c.from ds.safe.length = (r.fr, r.n) := by rw [HS8.out.len]; exact HS8.out.fr
        have HCF := Lib.hid hcf
        clear hcf
        go_wp2_with fail
        by_cases hz : mask = 0
        · subst hz
          have hrs : ds.rotted K sx 0 32 = ds := rot_same ds K sx (by rw [HS8.out.len]; exact HJ.out.2.2.2)
          have HRS := Lib.hid hrs
          rw [hrs] at HD10 HV10
          clear hrs
          refine (open_now_any gd F5 c HC.out.1 w10 HS8.out.st.lv HD10.out HC.out.2 (by rw [HS8.out.len]; decide) HS8.out.zg.symm HCF.out (by rw [HW5.out]; exact Nat.zero_le _)).mono ?_
          rintro e w11 ⟨hb11, g', G', r', rfl, hr', -, hl', -, -⟩
          have HV11 := Lib.hid (HV10.out.below hb11)
          have HU11 := Lib.hid (HU10.out.below hb11)
          have HR11 := Lib.hid (HR10.out.below hb11)
          have HX11 := Lib.hid (And.intro hr' hl')
          have HB11 := Lib.hid (btr HB10.out hb11)
          clear hb11 hr' hl' HV10 HU10 HR10 HC10 HB10 HD10 y0 y1 y2
          go_wp2_with fail
          refine (same_any _ _ (ds.now K) (ds.now K) w11 HU11.out.1 HV11.out.1).mono ?_
          rintro e w12 ⟨rfl, nq, rfl⟩
          rw [decide_eq_true rfl]
          have hbd := bdn (bre w11) nq
          have HR12 := Lib.hid (HR11.out.below hbd)
          have HX12 := Lib.hid (And.intro (HX11.out.1.below hbd) HX11.out.2)
          have HB12 := Lib.hid (btr HB11.out hbd)
          generalize w11.drewN nq = w12 at *
          clear hbd HV11 HU11 HR11 HX11 HB11
          go_wp2_with fail
          refine (rrecords_in HX12.out.1 (by rw [HX12.out.2]; have := HS8.out.st.lv.few; have h1 := all_len_le all; have := HT.out; have := HPN.out; omega) (by rw [HX12.out.2]; exact HS8.out.st.lv.poss.big)).mono ?_
          rintro e w13 ⟨v13, rfl, ho13, hb13⟩
          rw [HX12.out.2] at ho13
          have HV13 := Lib.hid ho13
          have HR13 := Lib.hid (HR12.out.below hb13)
          have HB13 := Lib.hid (btr HB12.out hb13)
          obtain ⟨a13, c13, hv13, -, -, -, -⟩ := id HV13.out.rows
          subst hv13
          clear ho13 hb13 HR12 HX12 HB12
          go_wp2_with fail
          refine (rrecords_in HR13.out (by rw [HLS.out]; have h1 := all_len_le all; have := HT.out; have := HPN.out; omega) (by rw [HLS.out]; exact HS8.out.st.lv.poss.big)).mono ?_
          rintro e w14 ⟨v14, rfl, ho14, hb14⟩
          rw [HLS.out] at ho14
          have HV14 := Lib.hid (HV13.out.below hb14)
          have HU14 := Lib.hid ho14
          have HB14 := Lib.hid (btr HB13.out hb14)
          obtain ⟨a14, c14, hv14, -, -, -, -⟩ := id HU14.out.rows
          subst hv14
          clear ho14 hb14 HV13 HR13 HB13
          go_wp2_with fail
          refine (lsame_any _ _ all all w14 HV14.out.rows HU14.out.rows (by have := HS8.out.st.lv.few; omega) (by have := HS8.out.st.lv.few; omega)).mono ?_
          rintro e w15 ⟨rfl, hb15⟩
          rw [decide_eq_true rfl]
          have HB15 := Lib.hid (btr HB14.out hb15)
          clear hb15 HV14 HU14 HB14
          go_wp2_with fail
          go_ret
          exact ⟨rfl, HB15.out⟩
        · obtain ⟨hne, hat, hsc⟩ := rot_scan HS8.out.st.lv HW5.out J (by rw [← HT.out]; have := HJ.out.1; have := HPN.out; omega) sx mask (by have := HSX.out; omega) HMK.out.1 hz
          rw [← HJ.out.2.2.1, ← HJ.out.2.1] at hne hat hsc
          have hne' : ds.now K ≠ (ds.rotted K sx mask 32).now K := by rw [hat]; exact fun e => hne e.symm
          have hf9 : c.from (ds.rotted K sx mask 32).safe.length = (r.fr, r.n) := by rw [HL9.out]; exact HS8.out.fr
          have HNE := Lib.hid hne'
          have HSC := Lib.hid hsc
          have HF9 := Lib.hid hf9
          have z1 : ((mask : Int) == 0) = false := beq_false_of_ne (by omega)
          clear hne hat hsc hne' hf9
          refine (ropen_any gd _ F5 c HC.out.1 w10 HD10.out HC.out.2 HW9.out).mono ?_
          rintro e w11 ⟨hb11, -, hg11⟩
          obtain ⟨s, P, so, hs1, hs2, -⟩ := hg11 (by rw [HL9.out]; decide)
          rw [HF9.out] at hs1 hs2
          have hs3 : s = some J := by
            have h1 := HSC.out
            rw [HJ.out.2.2.1, HS8.out.zg] at h1
            exact (congrArg Prod.fst hs1).symm.trans h1
          have he := hs2 J hs3
          rw [← HJ.out.2.2.1, ← HJ.out.2.1] at he
          subst he
          have HV11 := Lib.hid (HV10.out.below hb11)
          have HU11 := Lib.hid (HU10.out.below hb11)
          have HB11 := Lib.hid (btr HB10.out hb11)
          clear hb11 hg11 hs1 hs2 hs3 HV10 HU10 HR10 HC10 HB10 HD10 y0 y1 y2
          go_wp2_with fail
          refine (same_any _ _ (ds.now K) _ w11 HU11.out.1 HV11.out.1).mono ?_
          rintro e w12 ⟨rfl, nq, rfl⟩
          rw [decide_eq_false HNE.out]
          have HB12 := Lib.hid (btr HB11.out (bdn (bre w11) nq))
          generalize w11.drewN nq = w12 at *
          clear HV11 HU11 HB11
          go_wp2_with fail
          go_ret
          exact ⟨rfl, HB12.out⟩
end Go.Proofs.YtacfkhnajdneeaaDoor
