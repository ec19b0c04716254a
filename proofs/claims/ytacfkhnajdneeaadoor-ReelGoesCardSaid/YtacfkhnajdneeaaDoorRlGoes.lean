/- Walk of the law: ReelGoes. -/
import Derived.Test.YtacfkhnajdneeaaDoorRlGoesP
namespace Go.Proofs.YtacfkhnajdneeaaDoor
open Go.RowKit

set_option maxRecDepth 20000 in
set_option maxHeartbeats 3200000 in
theorem goes_calls (c0 : Cr) (ok0 : c0.Ok) (v : Value) (l : List (List UInt8)) (cut : Nat) (hcut : cut < 256) (w : World) (hv : Rows8 w v l) :
    Calls Tryd.prog 4 #[CrVal c0, v, .int .u8 cut] w fun e w' => e = .returned (.bool true) ∧ Below w.heap.size w w' := by
  obtain ⟨a, cp, rfl, hm, hc, -, hrow⟩ := id hv
  have HR := Lib.hid hrow
  obtain ⟨L, hL⟩ : ∃ L, L = l.length := ⟨_, rfl⟩
  rw [← hL] at hm hc ⊢
  have HL := Lib.hid hL
  obtain ⟨h2, hh2⟩ : ∃ x, x = c0.half % 2 := ⟨_, rfl⟩
  obtain ⟨s2, hs2⟩ : ∃ x, x = c0.serial / 2 := ⟨_, rfl⟩
  obtain ⟨cm, hcm⟩ : ∃ x, x = cut % 12 := ⟨_, rfl⟩
  have e1 : (c0.half : Int) % 2 = (h2 : Int) := by omega
  have e2 : (c0.serial : Int) / 2 = (s2 : Int) := by omega
  have e3 : (cut : Int) % 12 = (cm : Int) := by omega
  have e4 : (s2 : Int) % 4294967296 = (s2 : Int) := by have := ok0.serial; omega
  have hcm12 : cm ≤ 11 := by omega
  obtain ⟨c, hcd⟩ : ∃ c : Cr, c = ⟨c0.gen, h2, s2⟩ := ⟨_, rfl⟩
  have ok : c.Ok := by
    rw [hcd]
    exact ⟨ok0.gen, by show h2 < 256; omega, by have := ok0.serial; show s2 < 4294967296; omega⟩
  have hc31 : c.serial < 2147483648 := by rw [hcd]; have := ok0.serial; show s2 < _; omega
  have hch : c.half ≤ 1 := by rw [hcd]; show h2 ≤ 1; omega
  have HC := Lib.hid (And.intro ok (And.intro hc31 hch))
  have HCD := Lib.hid hcd
  unfold maxLen at hm
  unfold CrVal
  obtain ⟨n3, hn3⟩ : ∃ n, n = w.heap.size := ⟨_, rfl⟩
  clear hv hrow hL hh2 hs2 hcm hcd ok hc31 hch
  go_enter Tryd.func4, Tryd.ntmps4
  go_upto_region 1 with fail
  have hb0 := bal (bre w) (.cells #[.int .u32 c0.gen, .int .u8 c0.half, .int .u32 c0.serial] 36)
  have hr0 := heap_alloc_new w (.cells #[.int .u32 c0.gen, .int .u8 c0.half, .int .u32 c0.serial] 36)
  generalize w.alloc (.cells #[.int .u32 c0.gen, .int .u8 c0.half, .int .u32 c0.serial] 36) = W at *
  rw [← hn3] at hr0 ⊢
  have hrow0 : Row3 W n3 c0 := hr0
  have HROW := Lib.hid hrow0
  have HB0 := Lib.hid hb0
  have HN3 : Hid (w.heap.size ≤ n3) := Lib.hid (by omega)
  clear hb0 hr0 hrow0 hn3
  go_wp2_with fail
  refine (awake_any W).mono ?_
  rintro e w1 ⟨rfl, hb1⟩
  have HROW1 := Lib.hid (HROW.out.below hb1)
  have HB1 := Lib.hid (btr HB0.out hb1)
  have x0 := HROW1.out.c0
  have x1 := HROW1.out.c1
  have x2 := HROW1.out.c2
  have fz := HROW1.out.fz
  clear hb1 HROW HB0
  go_upto_region 5 with fail
  have hrow2 : Row3 ((w1.setCell ⟨n3, 1, none⟩ (.int .u8 h2)).setCell ⟨n3, 2, none⟩ (.int .u32 s2)) n3 c := by
    rw [HCD.out]
    exact heap_setCell_same _ n3 2 _ _ (.int .u32 s2) (heap_setCell_same w1 n3 1 _ _ (.int .u8 h2) HROW1.out)
  have hb2 : Below w.heap.size w ((w1.setCell ⟨n3, 1, none⟩ (.int .u8 h2)).setCell ⟨n3, 2, none⟩ (.int .u32 s2)) := (HB1.out.setCell HN3.out _).setCell HN3.out _
  generalize (w1.setCell ⟨n3, 1, none⟩ (.int .u8 h2)).setCell ⟨n3, 2, none⟩ (.int .u32 s2) = w2 at *
  have HROW2 := Lib.hid hrow2
  have HB2 := Lib.hid hb2
  clear hrow2 hb2 x0 x1 x2 fz e1 e2 e4 HROW1 HB1 HCD
  go_wp2_with fail
  refine (new_any 40 w2 (by omega) (by omega)).mono ?_
  rintro e w3 ⟨gd, F, rfl, hd3, hf3, hb3⟩
  have HROW3 := Lib.hid (HROW2.out.below hb3)
  have HB3 := Lib.hid (btr HB2.out hb3)
  have HD3 := Lib.hid hd3
  have HF3 := Lib.hid hf3
  have HBS2 := Lib.hid HB2.out.size
  have y0 := HROW3.out.c0
  have y1 := HROW3.out.c1
  have y2 := HROW3.out.c2
  clear hd3 hf3 hb3 HROW2 HB2
  go_wp2_with fail
  refine (open_new2_any gd 40 F c HC.out.1 w3 HD3.out (by omega) (by omega) HC.out.2.2 (by have := HC.out.2.1; omega)).mono ?_
  rintro e w4 ⟨hb4, g, G, r, z, rfl, hr4, hg4, hl4, hzn, hzg, hzs, hrf, hzP⟩
  have hgo : Goes w w4 gd n3 c g (.slice none 0 0) [] 0 false z r (Dk.new 40) F G 0 := ⟨⟨HD3.out.below hb4, hr4, hl4, fun k hk => by
    rcases hk with hk | hk
    · exact Nat.le_trans HBS2.out (HF3.out k hk)
    · exact Nat.le_trans HB3.out.size (hg4 k hk), btr HB3.out hb4⟩, HROW3.out.below hb4, RecsAt.nil _ _, fun q hq => (by cases hq), by rw [hzn]; unfold Cr.from; rw [if_neg (by omega)], hzg, by omega, hrf, List.length_replicate, ⟨Nat.zero_le _, Nat.zero_le _⟩, ⟨rfl, Nat.zero_le _⟩, fun _ => ⟨hzs, hzP, fun _ => rfl⟩⟩
  have HGO := Lib.hid hgo
  clear hgo hzP hr4 hg4 hl4 hzn hzg hzs hrf hb4 HD3 HF3 HB3 HROW3 HBS2 y0 y1 y2
  go_upto_block 0 with fail
  go_cut [9, 11, 12] from 13 to 107 (fun p1 _ va wx => ∃ (g k synced : Nat) (all : List (List UInt8)) (re : Bool) (z : Sess) (r : Rl) (d : Dk) (F G : Nat → Prop), p1 = .pointer (some ⟨g, 0, none⟩) ∧ k ≤ 12 ∧ Hid (Goes w wx gd n3 c g va all k re z r d F G synced))
  case first =>
    go_wp2_with fail
    go_loopw [9, 12, 44] (fun p1 va i wr => ∃ (g k synced : Nat) (all : List (List UInt8)) (re : Bool) (z : Sess) (r : Rl) (d : Dk) (F G : Nat → Prop), p1 = .pointer (some ⟨g, 0, none⟩) ∧ i = .int .i64 k ∧ k ≤ 12 ∧ k ≤ L ∧ (re = true → cm < k) ∧ Hid (Goes w wr gd n3 c g va all k re z r d F G synced)) (fun _ _ i _ => L - (intOf i).toNat)
    case atStart => exact ⟨g, 0, 0, [], false, z, r, Dk.new 40, F, G, rfl, rfl, by omega, by omega, (fun h => by cases h), HGO⟩
    case round =>
      clear HGO
      obtain ⟨g, k, synced, all, re, z, r, d, F, G, rfl, rfl, hk12, hkL, hre, hgo⟩ := hrel
      by_cases hlt : k < L
      · have hkl : k < l.length := by rw [← HL.out]; exact hlt
        rcases HR.out with h0 | ⟨gb, ob, rfl, hcell⟩
        · rw [h0] at hkl; simp at hkl
        · obtain ⟨u, hu, hbu⟩ := hcell k _ (List.getElem?_eq_getElem hkl)
          have hu' := (hgo.out.st.bel.cell (p := ⟨gb, ob + k, none⟩) (block_lt_of_cell hu)).trans hu
          have HU := Lib.hid (hbu.below hgo.out.st.bel)
          obtain ⟨au, cu, rfl, -, -, -, -⟩ := id hbu
          have d1 : decide ((k : Int) < (L : Int)) = true := decide_eq_true (by omega)
          have d1n : decide (k < L) = true := decide_eq_true hlt
          generalize l[k] = y at *
          clear hcell hu hbu hkl
          by_cases h12 : k < 12
          · have d2 : decide ((12 : Int) ≤ (k : Int)) = false := decide_eq_false (by omega)
            have d2n : decide (12 ≤ k) = false := decide_eq_false (by omega)
            go_wp2_with fail
            refine (cut_any _ y 700 (by decide) (by decide) wr HU.out).mono ?_
            rintro e w5 ⟨v5, rfl, ho5, hb5⟩
            obtain ⟨x, hx⟩ : ∃ x, x = y.take (700 : Int).toNat := ⟨_, rfl⟩
            have hx7 : x.length ≤ 700 := by rw [hx, List.length_take]; exact Nat.min_le_left _ _
            rw [← hx] at ho5
            have HG5 := Lib.hid (hgo.out.below hb5)
            have HV5 := Lib.hid ((Rec8.of_own ho5).low (base' := w.heap.size) hgo.out.st.bel.size)
            obtain ⟨a5, m5, c5, rfl⟩ := Own8.isSlice ho5
            obtain ⟨q1, q2, q3⟩ := eqB k cm
            obtain ⟨B, hB⟩ : ∃ B, B = decide (k = cm) := ⟨_, rfl⟩
            rw [← hB] at q1 q2 q3
            have HBB := Lib.hid hB
            have HRE := Lib.hid hre
            clear ho5 hb5 hgo HU hx hB d2 d2n hu'
            go_upto_if 57 with fail
            clear e3
            go_cut [9, 11, 15] from 58 to 91 (fun p1 _ _ wx => ∃ (g2 synced2 : Nat) (re2 : Bool) (z2 : Sess) (r2 : Rl) (d2 : Dk) (F2 G2 : Nat → Prop), p1 = .pointer (some ⟨g2, 0, none⟩) ∧ (re2 = true → cm < k + 1) ∧ Hid (Goes w wx gd n3 c g2 u12 all k re2 z2 r2 d2 F2 G2 synced2) ∧ Hid (Rec8 w.heap.size wx (.slice a5 m5 c5) x))
            case first =>
              cases B with
              | false =>
                go_wp2_with fail
                go_meet
                case rel => exact ⟨g, synced, re, z, r, d, F, G, rfl, fun h => by have := HRE.out h; omega, HG5, HV5⟩
              | true =>
                have hkc : k = cm := of_decide_eq_true HBB.out.symm
                have hre0 : re = false := by
                  cases hr : re with
                  | false => rfl
                  | true => have := HRE.out hr; omega
                rw [hre0] at HG5
                have hkk := Lib.hid hkc
                clear q1 q2 q3 hre0 hkc
                go_wp2_with fail
                refine (st_sync_any HG5.out.st (by have := HG5.out.few.2; omega)).mono ?_
                rintro e w6 ⟨rfl, F6, hst6, hm6⟩
                have HG6 := Lib.hid (HG5.out.sync hst6 hm6)
                have HV6 := Lib.hid (HV5.out.moved HG5.out.st hm6)
                have hser := HG5.out.serial HC.out.1 HC.out.2.1
                have HSER := Lib.hid hser
                have y0 := HG6.out.cr.c0
                have y1 := HG6.out.cr.c1
                have y2 := HG6.out.cr.c2
                have hrs : r.serial = z.S := HG6.out.st.lv.ser
                obtain ⟨S, hS⟩ : ∃ S, S = z.S := ⟨_, rfl⟩
                have HS := Lib.hid hS
                have hS31 : S < 2147483655 := by have := HG6.out.zs.2; have := HC.out.2.1; omega
                clear hst6 hm6 hser HG5 HV5 hS
                go_wp2_with fail
                refine (rserial_in HG6.out.st.rl).mono ?_
                rintro e w7 ⟨rfl, hw⟩
                have hw' := hw.symm
                subst hw'
                clear hw
                rw [hrs, ← HS.out]
                clear hrs
                go_wp2_with fail
                refine (open_again_any gd gd F6 c HC.out.1 w6 HG6.out.st.lv HG6.out.st.dk HC.out.2.2 (by rw [HG6.out.len]; omega) rfl HG6.out.zg.symm (by have := HG6.out.zs.1; omega) (by have := HS.out; omega) HG6.out.from rfl HG6.out.st.lv.free rfl (fun j _ => .inl rfl)).mono ?_
                rintro e w7 ⟨hb7, g7, G7, r7, z7, k7, rfl, hr7, hG7, hk1, hk2, hl7, hzn7, hzg7, hzs7, hcs7, hrf7, hser7⟩
                have hk7 : all.take k7 = all := List.take_of_length_le hk1
                rw [hk7] at hl7
                have HG7 := Lib.hid (HG6.out.again (HG6.out.fresh rfl).1 hb7 hr7 hG7 hl7 hzn7 hzg7 hzs7 hcs7 hrf7)
                have HV7 := Lib.hid (HV6.out.below hb7)
                have hsr7 : r7.serial = if k = 0 then S else S + 1 := by rw [hser7, HSER.out, HS.out]
                have HSR7 := Lib.hid hsr7
                clear hb7 hr7 hG7 hl7 hzn7 hzg7 hzs7 hcs7 hrf7 hser7 hk1 hk2 hk7 hsr7 HG6 HV6 HSER y0 y1 y2
                by_cases hk0 : k = 0
                · have hs7 : r7.serial = S := by rw [HSR7.out, if_pos hk0]
                  have d3 : decide ((0 : Int) < (k : Int)) = false := decide_eq_false (by omega)
                  have d3n : decide (0 < k) = false := decide_eq_false (by omega)
                  have d4 : ((k : Int) == 0) = true := by rw [hk0]; rfl
                  have d4n : decide ((k : Int) = 0) = true := decide_eq_true (by omega)
                  have d4m : decide (k = 0) = true := decide_eq_true hk0
                  clear hk0
                  go_wp2_with fail
                  refine (rserial_in HG7.out.st.rl).mono ?_
                  rintro e w8 ⟨rfl, hw⟩
                  have hw' := hw.symm
                  subst hw'
                  clear hw
                  rw [hs7]
                  clear hs7
                  go_wp2_with fail
                  go_meet
                  case rel => exact ⟨g7, _, true, z7, r7, d.synced, F6, G7, rfl, fun _ => by have := hkk.out; omega, HG7, HV7⟩
                · have hs7 : r7.serial = S + 1 := by rw [HSR7.out, if_neg hk0]
                  obtain ⟨S1, hS1⟩ : ∃ S1, S1 = S + 1 := ⟨_, rfl⟩
                  have hw1 : IntKind.u32.wrap ((S : Int) + 1) = (S1 : Int) := by rw [wrap32]; omega
                  have d3 : decide ((0 : Int) < (k : Int)) = true := decide_eq_true (by omega)
                  have d3n : decide (0 < k) = true := decide_eq_true (by omega)
                  have d4 : ((k : Int) == 0) = false := beq_false_of_ne (by omega)
                  have d4n : decide ((k : Int) = 0) = false := decide_eq_false (by omega)
                  have d4m : decide (k = 0) = false := decide_eq_false hk0
                  rw [← hS1] at hs7
                  clear hk0 hS1
                  go_wp2_with fail
                  refine (rserial_in HG7.out.st.rl).mono ?_
                  rintro e w8 ⟨rfl, hw⟩
                  have hw' := hw.symm
                  subst hw'
                  clear hw
                  rw [hs7]
                  clear hs7
                  go_wp2_with fail
                  go_meet
                  case rel => exact ⟨g7, _, true, z7, r7, d.synced, F6, G7, rfl, fun _ => by have := hkk.out; omega, HG7, HV7⟩
            case rest =>
              obtain ⟨g2, sy2, re2, z2, r2, d2, F2, G2, rfl, hre2, hg2, hv2⟩ := hcut
              clear q1 q2 q3 HG5 HV5 HBB HRE
              have hcn := hg2.out.cnt
              have hfit : (layAll (all ++ [x])).length ≤ 487 * z2.n := by
                have h1 := lay_snoc_len all x k hcn.2 hx7
                rw [hg2.out.zn]
                have h2 : (k + 1) * 710 ≤ 12 * 710 := Nat.mul_le_mul_right _ (by omega)
                omega
              have hlo : (layOne x).length ≤ 710 := by
                have := (Vi.varint_length x.length)
                unfold layOne
                rw [List.length_append]
                omega
              have hsum : (layAll all).length + (layOne x).length ≤ 9253 := by
                have h2 : k * 710 ≤ 11 * 710 := Nat.mul_le_mul_right _ (by omega)
                omega
              have HFIT := Lib.hid hfit
              have HCN := Lib.hid hcn
              have HX7 := Lib.hid hx7
              have HRE2 := Lib.hid hre2
              have HSUM := Lib.hid hsum
              clear hfit hcn hx7 hre2 hsum
              go_wp2_with fail
              refine (rflay_any _ [x] _ (rows_lit1 _ _ x _ _ rfl hv2.out.1) (fun y hy => by simp at hy; rw [hy]; have := HX7.out; omega) (by rw [layAll_one]; omega)).mono ?_
              rintro e w8 ⟨v8, rfl, ho8, hb8⟩
              have hbx : Below _ _ w8 := hb8
              have HG8 := Lib.hid (hg2.out.below (btr (bal (bre _) _) hb8))
              have HV8 := Lib.hid (hv2.out.below (btr (bal (bre _) _) hb8))
              obtain ⟨a8, c8, rfl, -, -, -, -⟩ := id ho8.bytes
              rw [layAll_one]
              obtain ⟨LO, hLO⟩ : ∃ q, q = (layOne x).length := ⟨_, rfl⟩
              rw [← hLO] at hlo ⊢
              have HLO := Lib.hid hLO
              clear ho8 hb8 hbx hg2 hv2 hLO
              go_wp2_with fail
              refine (rroom_in HG8.out.st.rl (by rw [HG8.out.st.lv.n, HG8.out.zn]; decide) (by rw [HG8.out.st.lv.ls, HG8.out.st.lv.n]; exact HG8.out.st.lv.poss.room)).mono ?_
              rintro e w9 ⟨rfl, hb9⟩
              obtain ⟨RM, hRM⟩ : ∃ x, x = 487 * r2.n - (layAll r2.ls).length := ⟨_, rfl⟩
              have hLR : LO ≤ RM := by
                have h1 := HSUM.out
                rw [← HLO.out] at h1
                rw [hRM, HG8.out.st.lv.ls, HG8.out.st.lv.n, HG8.out.zn]
                omega
              rw [← hRM]
              have d5 : decide ((LO : Int) ≤ (RM : Int)) = true := decide_eq_true (by omega)
              have d5n : decide (LO ≤ RM) = true := decide_eq_true hLR
              have HG9 := Lib.hid (HG8.out.below hb9)
              have HV9 := Lib.hid (HV8.out.below hb9)
              clear hb9 hRM HG8 HV8
              go_wp2_with fail
              refine (st_append_any HG9.out.st _ x (HV9.out.low (Nat.zero_le _)) (by have := HX7.out; omega) (by have := HG9.out.few.1; omega) (by have := HG9.out.few.2; omega) (by have := HCN.out.1; omega)).mono ?_
              rintro e w10 ⟨-, h10⟩
              obtain ⟨he, r3, dd3, F3, G3, k1, k2, k3, k4, k5, k6⟩ := h10 HFIT.out
              subst he
              obtain ⟨j1, j2⟩ := HG9.out.recs.moved HG9.out.st k2 HG9.out.ap
              have HV10 := Lib.hid (HV9.out.moved HG9.out.st k2)
              have HCR := Lib.hid (HG9.out.cr.moved HG9.out.st k2)
              have HX10 := Lib.hid (And.intro k1 (And.intro j1 j2))
              have HF10 : Hid (r3.fr = (c.from 40).1 ∧ dd3.safe.length = 40 ∧ dd3.count ≤ 5000 * (k + 1) ∧ dd3.wait.length ≤ 5000 * (k + 1)) := Lib.hid ⟨k3.trans HG9.out.fr, by rw [k4]; exact HG9.out.len, by have := HG9.out.few.1; omega, by have := HG9.out.few.2; omega⟩
              have HZ10 := Lib.hid (And.intro HG9.out.zn (And.intro HG9.out.zg (And.intro HG9.out.zs HG9.out.fresh)))
              clear k1 k2 k3 k4 k5 k6 h10 j1 j2 HG9 HV9 d5 d5n hLR
              have hsz := HX10.out.1.bel.size
              go_wp2_with (at_builtin; refine wpList_appRec2 rfl _ _ rfl w.heap.size _ all rfl HX10.out.2.1 _ x HV10.out _ rfl rfl (by have := HCN.out.1; omega) hsz ?_; intro v11 w11 ho11 hon11 hst11)
              have HX11 : Hid (Goes w w11 gd n3 c g2 v11 (all ++ [x]) (k + 1) re2 z2 r3 dd3 F3 G3 sy2) := Lib.hid (goes_more HX10.out.1 HCR.out HX10.out.2.1 HX10.out.2.2 ho11 hon11 hst11 ⟨HZ10.out.1, HZ10.out.2.1, HZ10.out.2.2.1, fun h => ⟨(HZ10.out.2.2.2 h).1, (HZ10.out.2.2.2 h).2.1, fun _ => rfl⟩⟩ HF10.out HCN.out HX7.out)
              clear ho11 hon11 hst11 HV10 HCR HX10 HF10 HZ10 hsz
              go_wp2_with fail
              go_roundw
              case rel => exact ⟨g2, k + 1, sy2, all ++ [x], re2, z2, r3, dd3, F3, G3, rfl, by go_num, by omega, by omega, HRE2.out, HX11⟩
              case measure => simp [intOf]; omega
          · have d2 : decide ((12 : Int) ≤ (k : Int)) = true := decide_eq_true (by omega)
            have d2n : decide (12 ≤ k) = true := decide_eq_true (by omega)
            go_wp2_with fail
            go_meet
            case rel => exact ⟨g, k, synced, all, re, z, r, d, F, G, rfl, hk12, hgo⟩
      · have d1 : decide ((k : Int) < (L : Int)) = false := decide_eq_false (by omega)
        have d1n : decide (k < L) = false := decide_eq_false hlt
        go_wp2_with fail
        go_meet
        case rel => exact ⟨g, k, synced, all, re, z, r, d, F, G, rfl, hk12, hgo⟩
  case rest =>
    obtain ⟨g, k, synced, all, re, z, r, d, F, G, rfl, hk12, hgo⟩ := hcut
    clear HGO HR HL hc hm
    have y0 := hgo.out.cr.c0
    have y1 := hgo.out.cr.c1
    have y2 := hgo.out.cr.c2
    obtain ⟨av, cv, rfl, -, -, -, -⟩ := id hgo.out.recs.rows
    go_wp2_with fail
    have hlen := hgo.out.len
    have hcn := hgo.out.cnt
    have hzg := hgo.out.zg.symm
    have hfrm := hgo.out.from
    have hfw := hgo.out.few.2
    obtain ⟨AL, hAL⟩ : ∃ q, q = all.length := ⟨_, rfl⟩
    have HAL := Lib.hid hAL
    rw [← hAL]
    have HCN := Lib.hid hcn
    refine (open_now_any gd F c HC.out.1 wc hgo.out.st.lv hgo.out.st.dk HC.out.2.2 (by rw [hlen]; omega) hzg hfrm (by omega)).mono ?_
    rintro e w7 ⟨hb7, g7, G7, r7, rfl, hr7, -, hls7, -, -⟩
    have HG7 := Lib.hid (hgo.out.below hb7)
    have HR7 := Lib.hid hr7
    have HL7 := Lib.hid hls7
    clear hb7 hr7 hls7 hgo hlen hcn hzg hfrm hfw y0 y1 y2 hAL
    go_wp2_with fail
    refine (rrecords_in HG7.out.st.rl (by rw [HG7.out.st.lv.ls]; have := HCN.out.1; omega) (by rw [HG7.out.st.lv.ls]; exact HG7.out.st.lv.big)).mono ?_
    rintro e w8 ⟨v8, rfl, ho8, hb8⟩
    rw [HG7.out.st.lv.ls] at ho8
    have HG8 := Lib.hid (HG7.out.below hb8)
    have HR8 := Lib.hid (HR7.out.below hb8)
    have HV8 := Lib.hid ho8
    obtain ⟨a8, c8, rfl, -, -, -, -⟩ := id ho8.rows
    clear ho8 hb8 HG7 HR7
    go_wp2_with fail
    refine (lsame_any _ _ all all w8 HV8.out.rows (by rw [HAL.out]; exact HG8.out.recs.rows) (by have := HCN.out.1; omega) (by have := HCN.out.1; omega)).mono ?_
    rintro e w9 ⟨rfl, hb9⟩
    rw [decide_eq_true rfl]
    have HG9 := Lib.hid (HG8.out.below hb9)
    have HR9 := Lib.hid (HR8.out.below hb9)
    clear hb9 HG8 HR8 HV8
    go_wp2_with fail
    refine (rrecords_in HR9.out (by rw [HL7.out]; have := HCN.out.1; omega) (by rw [HL7.out]; exact HG9.out.st.lv.big)).mono ?_
    rintro e w10 ⟨v10, rfl, ho10, hb10⟩
    rw [HL7.out] at ho10
    have HG10 := Lib.hid (HG9.out.below hb10)
    have HV10 := Lib.hid ho10
    obtain ⟨a10, c10, rfl, -, -, -, -⟩ := id ho10.rows
    clear ho10 hb10 HG9 HR9
    go_wp2_with fail
    refine (lsame_any _ _ all all w10 HV10.out.rows (by rw [HAL.out]; exact HG10.out.recs.rows) (by have := HCN.out.1; omega) (by have := HCN.out.1; omega)).mono ?_
    rintro e w11 ⟨rfl, hb11⟩
    rw [decide_eq_true rfl]
    have HB11 := Lib.hid (btr HG10.out.st.bel hb11)
    clear hb11 HG10 HV10
    go_wp2_with fail
    go_ret
    exact ⟨rfl, HB11.out⟩
end Go.Proofs.YtacfkhnajdneeaaDoor
