/- Walk of the law: awake. -/
import Derived.Test.YtacfkhnajdneeaaDoorRlTold
namespace Go.Proofs.YtacfkhnajdneeaaDoor
open Go.RowKit

theorem crash_nil_safe (d : Dk) : (d.crashed []).safe = d.safe := by
  have h : ∀ (ws : List (Nat × List UInt8)) (k : Nat) (s : List (List UInt8)), crashOf [] k ws s = s := by
    intro ws
    induction ws with
    | nil => intro k s; rfl
    | cons x ws ih => intro k s; rw [crashOf]; simp [ih]
  exact h d.wait 0 d.safe
theorem lay_three : (layAll [[97]]).length ≤ 487 * 4 ∧ (layAll [[97], [98]]).length ≤ 487 * 4 ∧ (layAll [[97], [98], [99]]).length ≤ 487 * 4 := by decide +kernel

set_option maxRecDepth 20000 in
set_option maxHeartbeats 3200000 in
theorem awake_any (w : World) :
    Calls Tryd.prog 10 #[] w fun e w' => e = .returned (.bool true) ∧ Below w.heap.size w w' := by
  have kc := convert_const
  go_enter Tryd.func10, Tryd.ntmps10
  go_wp2_with fail
  refine (new_any 10 w (by omega) (by omega)).mono ?_
  rintro e w1 ⟨gd, F1, rfl, hd1, hf1, hb1⟩
  have HD1 := Lib.hid hd1
  have HF1 := Lib.hid hf1
  have HB1 := Lib.hid hb1
  clear hd1 hf1 hb1
  go_wp2_with fail
  refine (first_any w1).mono ?_
  rintro e w2 ⟨rfl, hb2⟩
  have HB2 := Lib.hid (btr HB1.out hb2)
  have HD2 := Lib.hid (HD1.out.below hb2)
  clear hb2 HD1 HB1
  go_wp2_with fail
  obtain ⟨l1, l2, l3⟩ := live_new (N := 10) (c := Cr.first) (by omega) Cr.first_ok (by decide)
  have hlen : (Dk.new 10).safe.length = 10 := rfl
  refine (ropen_any gd (Dk.new 10) F1 Cr.first Cr.first_ok w2 HD2.out (by decide) (by decide)).mono ?_
  rintro e w3 ⟨hb3, -, h3⟩
  obtain ⟨s, P, so, hsc, -, hgood⟩ := h3 (by rw [hlen]; omega)
  rw [hlen] at hsc hgood
  rw [l1] at hsc
  cases hsc
  obtain ⟨g, G3, rfl, hr3, hg3⟩ := hgood rfl
  rw [← l2] at hr3
  rw [show cutL ([] : List UInt8) = [] from rfl] at hr3
  have HB3 := Lib.hid (btr HB2.out hb3)
  have HD3 := Lib.hid (HD2.out.below hb3)
  have HR3 := Lib.hid hr3
  have HL3 := Lib.hid l3
  have HG3 := Lib.hid hg3
  clear hb3 h3 hgood hr3 hg3 l1 l2 l3 HD2 hlen
  generalize hz : Sess.mk Cr.first.gen (Cr.first.from 10).2 (Cr.first.serial + 1) (fun j => (Dk.new 10).now ((Cr.first.from 10).1 + j)) [] [] = z at *
  generalize hrr : Rl.mk Cr.first.gen (Cr.first.from 10).1 (Cr.first.from 10).2 (Cr.first.serial + 1) [] [] = r0 at *
  have hzn : z.n = 4 := by rw [← hz]; rfl
  have hzg : z.gen = 1 := by rw [← hz]; rfl
  have hzs : z.S = 1 := by rw [← hz]; rfl
  have hr0 : (r0.fr, r0.n) = (2, 4) := by rw [← hrr]; rfl
  have HZ := Lib.hid (And.intro hzn (And.intro hzg (And.intro hzs hr0)))
  clear hz hrr hzn hzg hzs hr0
  go_wp2_with fail
  have hba := bal (bre w3) (.cells #[.int .u8 97] 5 (1, 2))
  have HP3 := Lib.hid (rec_lit w3 97 97 w3.heap.size rfl rfl)
  generalize w3.alloc (.cells #[.int .u8 97] 5 (1, 2)) = w3a at *
  have HB3a := Lib.hid (btr HB3.out hba)
  have HD3a := Lib.hid (HD3.out.below hba)
  have HR3a := Lib.hid (HR3.out.below hba)
  clear hba HB3 HD3 HR3
  refine (live_append_any z g gd r0 (Dk.new 10) F1 G3 [] 0 _ [97] w3a HL3.out HD3a.out HR3a.out HP3.out (by decide) (by decide) (by decide) (by decide)).mono ?_
  rintro e w4 ⟨-, h4⟩
  obtain ⟨rfl, r4, d4, F4, G4, hd4, hr4, hl4, hm4, hfr4, hs4, hc4, hw4⟩ := h4 (by rw [HZ.out.1]; exact lay_three.1)
  have HD4 := Lib.hid hd4
  have HR4 := Lib.hid hr4
  have HL4 := Lib.hid hl4
  have HM4 := Lib.hid hm4
  have HX4 := Lib.hid (And.intro hfr4 (And.intro hs4 (And.intro hc4 hw4)))
  clear hd4 hr4 hl4 hm4 hfr4 hs4 hc4 hw4 h4 HP3 HL3 HD3a HR3a
  go_wp2_with fail
  have hbb := bal (bre w4) (.cells #[.int .u8 98] 5 (1, 2))
  have HP4 := Lib.hid (rec_lit w4 98 98 w4.heap.size rfl rfl)
  generalize w4.alloc (.cells #[.int .u8 98] 5 (1, 2)) = w4a at *
  have HD4a := Lib.hid (HD4.out.below hbb)
  have HR4a := Lib.hid (HR4.out.below hbb)
  have HM4a := Lib.hid (HM4.out.trans (Moved.of_below _ hbb))
  clear hbb HD4 HR4 HM4
  refine (live_append_any z g gd r4 d4 F4 G4 [[97]] 0 _ [98] w4a HL4.out HD4a.out HR4a.out HP4.out (by decide) (by have := HX4.out.2.2.1; have e : (Dk.new 10).count = 0 := rfl; omega) (by have := HX4.out.2.2.2; have e : (Dk.new 10).wait.length = 0 := rfl; omega) (by decide)).mono ?_
  rintro e w5 ⟨-, h5⟩
  obtain ⟨rfl, r5, d5, F5, G5, hd5, hr5, hl5, hm5, hfr5, hs5, hc5, hw5⟩ := h5 (by rw [HZ.out.1]; exact lay_three.2.1)
  have HM5 := Lib.hid (HM4a.out.trans hm5)
  have HD5 := Lib.hid hd5
  have HR5 := Lib.hid hr5
  have HL5 := Lib.hid hl5
  have HX5 := Lib.hid (And.intro (hfr5.trans HX4.out.1) (And.intro (hs5.trans HX4.out.2.1) (And.intro hc5 hw5)))
  clear hd5 hr5 hl5 hm5 hfr5 hs5 hc5 hw5 h5 HP4 HL4 HD4a HR4a HM4a
  go_wp2_with fail
  refine (live_sync_any HL5.out HD5.out HR5.out (by have h1 := HX4.out.2.2.2; have h2 := HX5.out.2.2.2; have e : (Dk.new 10).wait.length = 0 := rfl; omega)).mono ?_
  rintro e w6 ⟨rfl, F6, hd6, hr6, hl6, hm6⟩
  have HM6 : Hid (Moved w3a w6 (fun k => F1 k ∨ G3 k) (fun k => F6 k ∨ G5 k)) := Lib.hid ⟨HM5.out.only.trans hm6.only fun k hk hF => by
    rcases HM5.out.fresh k (.inl hF) with h | h
    · exact h
    · omega, fun k hk => by
    rcases hk with hk | hk
    · rcases hm6.fresh k hk with h | h
      · exact HM5.out.fresh k (.inl h)
      · exact .inr (Nat.le_trans HM5.out.only.size h)
    · exact HM5.out.fresh k (.inr hk)⟩
  have HD6 := Lib.hid hd6
  have HR6 := Lib.hid hr6
  have HL6 := Lib.hid hl6
  clear hd6 hr6 hl6 hm6 HD5 HR5 HL5 HM5
  go_wp2_with fail
  have hbb := bal (bre w6) (.cells #[.int .u8 99] 5 (1, 2))
  have HP6 := Lib.hid (rec_lit w6 99 99 w6.heap.size rfl rfl)
  generalize w6.alloc (.cells #[.int .u8 99] 5 (1, 2)) = w6a at *
  have HD6a := Lib.hid (HD6.out.below hbb)
  have HR6a := Lib.hid (HR6.out.below hbb)
  have HM6a := Lib.hid (HM6.out.trans (Moved.of_below _ hbb))
  clear hbb HD6 HR6 HM6
  refine (live_append_any z g gd r5 d5.synced F6 G5 [[97], [98]] 2 _ [99] w6a HL6.out HD6a.out HR6a.out HP6.out (by decide) (by have h1 := HX4.out.2.2.1; have h2 := HX5.out.2.2.1; have e : (Dk.new 10).count = 0 := rfl; have e2 : d5.synced.count = d5.count := rfl; omega) (by have e : d5.synced.wait.length = 0 := rfl; omega) (by decide)).mono ?_
  rintro e w7 ⟨-, h7⟩
  obtain ⟨rfl, r7, d7, F7, G7, hd7, hr7, hl7, hm7, hfr7, hs7, hc7, hw7⟩ := h7 (by rw [HZ.out.1]; exact lay_three.2.2)
  have HM7 := Lib.hid (HM6a.out.trans hm7)
  have HD7 := Lib.hid hd7
  have HR7 := Lib.hid hr7
  have HL7 := Lib.hid hl7
  have HX7 := Lib.hid (And.intro (hfr7.trans HX5.out.1) (And.intro hs7 hw7))
  clear hd7 hr7 hl7 hm7 hfr7 hs7 hc7 hw7 h7 HP6 HD6a HR6a HM6a
  go_wp2_with fail
  have hcl7 : (Bools w7 (.slice none 0 0) []) := ⟨none, 0, rfl, by simp, Nat.le_refl _, fun _ => rfl, .inl rfl⟩
  refine (crash_ok gd d7 F7 _ [] w7 HD7.out hcl7 (by have h := HX7.out.2.2; have e : d5.synced.wait.length = 0 := rfl; omega)).mono ?_
  rintro e w8 ⟨gx, F8, rfl, hd8, -, hb8⟩
  have hx8 : d7.crashed [] = ⟨d5.synced.safe, [], 0, false, 0⟩ := by
    have h1 := crash_nil_safe d7
    rw [HX7.out.2.1] at h1
    unfold Dk.crashed at h1 ⊢
    rw [← h1]
  rw [hx8] at hd8
  have HD8 := Lib.hid hd8
  have HR8 := Lib.hid (HR7.out.below hb8)
  have HM8 := Lib.hid (HM7.out.trans (Moved.of_below _ hb8))
  clear hcl7 hd8 hb8 hx8 HD7 HR7 HM7
  go_wp2_with fail
  refine (first_any w8).mono ?_
  rintro e w9 ⟨rfl, hb9⟩
  have HD9 := Lib.hid (HD8.out.below hb9)
  have HR9 := Lib.hid (HR8.out.below hb9)
  have HM9 := Lib.hid (HM8.out.trans (Moved.of_below _ hb9))
  clear hb9 HD8 HR8 HM8
  go_wp2_with fail
  have hlen : d5.synced.safe.length = 10 := by
    show (syncOf d5.safe d5.wait).length = 10
    rw [syncOf_length, HX5.out.2.1]
    rfl
  have hfrn : (Cr.first.from (Dk.mk d5.synced.safe [] 0 false 0).safe.length) = (r5.fr, r5.n) := by
    show Cr.first.from d5.synced.safe.length = _
    rw [hlen, HX5.out.1, HL6.out.n, HZ.out.1]
    have := HZ.out.2.2.2
    rw [show r0.fr = 2 from congrArg Prod.fst this]
    rfl
  obtain ⟨Q, so, k, a1, a2, a3, a4, a5, a6, a7⟩ := HL6.out.again (d' := ⟨d5.synced.safe, [], 0, false, 0⟩) Cr.first (by rw [HZ.out.2.1]; rfl) (by rw [HZ.out.2.2.1]; exact Nat.zero_le _) (by rw [HZ.out.2.2.1]; omega) hfrn rfl ⟨rfl, rfl⟩ ⟨HL6.out.ok.safe, fun x hx => (by cases hx), HL6.out.ok.few⟩ rfl (fun j _ => .inl rfl)
  have hk2 : k = 2 := by have : (([[97]] ++ [[98]]) : List (List UInt8)).length = 2 := rfl; omega
  rw [hk2] at a2
  have hcut : cutL Q = [[97], [98]] := a2
  refine (ropen_any gx _ F8 Cr.first Cr.first_ok w9 HD9.out (by decide) (Nat.zero_le _)).mono ?_
  rintro e w10 ⟨hb10, -, h10⟩
  obtain ⟨s, P, so', hsc, -, hgood⟩ := h10 (by show 4 ≤ d5.synced.safe.length; omega)
  rw [a1] at hsc
  cases hsc
  obtain ⟨gs, G10, rfl, hr10, -⟩ := hgood rfl
  rw [hcut] at hr10
  have HR10 := Lib.hid hr10
  have HR10' := Lib.hid (HR9.out.below hb10)
  have HM10 := Lib.hid (HM9.out.trans (Moved.of_below _ hb10))
  clear hlen hfrn a1 a2 a3 a4 a5 a6 a7 hk2 hcut hb10 h10 hgood hr10 HD9 HR9 HM9
  go_wp2_with fail
  refine (rrecords_in HR10.out (show ([[97], [98]] : List (List UInt8)).length ≤ 1000000 by decide) (show ∀ x ∈ ([[97], [98]] : List (List UInt8)), x.length ≤ 65536 by decide)).mono ?_
  rintro e w11 ⟨v11, rfl, hv11, hb11⟩
  have HV11 := Lib.hid hv11
  have HR11 := Lib.hid (HR10'.out.below hb11)
  have HM11 := Lib.hid (HM10.out.trans (Moved.of_below _ hb11))
  clear hb11 hv11 HR10' HM10 HR10
  go_wp2_with fail
  have hq1 := bal (bal (bal (bre w11) (.cells #[.int .u8 97] 5 (1, 2))) (.cells #[.int .u8 98] 5 (1, 2))) (.cells #[.slice (some ⟨w11.heap.size, 0, none⟩) 1 1, .slice (some ⟨w11.heap.size + 1, 0, none⟩) 1 1] 23)
  have h1 := (rec_lit w11 97 97 w11.heap.size rfl rfl).below (bal (bre _) (.cells #[.int .u8 98] 5 (1, 2)))
  have h2 := rec_lit (w11.alloc (.cells #[.int .u8 97] 5 (1, 2))) 98 98 (w11.heap.size + 1) (by simp) rfl
  have h3 := rows_lit2 _ _ _ _ _ 23 (w11.heap.size + 1 + 1) (by simp) h1.1 h2.1
  refine (lsame_any _ _ [[97], [98]] [[97], [98]] _ (HV11.out.below hq1).rows h3 (by decide) (by decide)).mono ?_
  rintro e w12 ⟨rfl, hb12⟩
  rw [decide_eq_true rfl]
  have hb12' := btr hq1 hb12
  have HR12 := Lib.hid (HR11.out.below hb12')
  have HM12 := Lib.hid (HM11.out.trans (Moved.of_below _ hb12'))
  clear hq1 h1 h2 h3 hb12 hb12' HV11 HR11 HM11
  go_wp2_with fail
  refine (rcount_in HR12.out).mono ?_
  rintro e w13 ⟨rfl, hw⟩
  have hw' := hw.symm
  subst hw'
  clear hw
  have hls : r7.ls.length = 3 := by rw [HL7.out.ls]; rfl
  rw [hls]
  clear hls
  go_wp2_with fail
  go_ret
  refine ⟨rfl, HB3a.out.trans (HM12.out.only.below w.heap.size HB3a.out.size fun k hk hF => ?_)⟩
  rcases hF with hF | hF
  · have := HF1.out k hF; omega
  · have := HG3.out k hF
    have h2 := HB2.out.size
    omega
end Go.Proofs.YtacfkhnajdneeaaDoor
