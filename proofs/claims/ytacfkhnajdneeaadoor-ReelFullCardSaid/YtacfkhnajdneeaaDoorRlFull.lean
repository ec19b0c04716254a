/- Walk of the law: ReelFull. -/
import Derived.Test.YtacfkhnajdneeaaDoorRlAwake
import Derived.Test.YtacfkhnajdneeaaDoorRlSt
namespace Go.Proofs.YtacfkhnajdneeaaDoor
open Go.RowKit

/-- bytes that are stored one by one -/
def filled (m k : Nat) (b : UInt8) : List UInt8 := List.replicate k b ++ List.replicate (m - k) 0
theorem filled_len (m k : Nat) (b : UInt8) (hk : k ≤ m) : (filled m k b).length = m := by unfold filled; rw [List.length_append, List.length_replicate, List.length_replicate]; omega
theorem filled_next (m k : Nat) (b : UInt8) (hk : k < m) : (filled m k b).set k b = filled m (k + 1) b := by
  unfold filled
  rw [List.set_append_right _ _ (by rw [List.length_replicate]; exact Nat.le_refl _), List.length_replicate, Nat.sub_self, show m - k = (m - (k + 1)) + 1 by omega, List.replicate_succ, List.set_cons_zero, List.replicate_succ', List.append_assoc]
  rfl
theorem filled_all (m : Nat) (b : UInt8) : filled m m b = List.replicate m b := by unfold filled; simp
theorem filled_zero (m : Nat) (b : UInt8) : filled m 0 b = List.replicate m 0 := by unfold filled; simp
theorem lay_rep (p : List UInt8) : ∀ t, (layAll (List.replicate t p)).length = t * (layOne p).length := by
  intro t
  induction t with
  | zero => simp [layAll]
  | succ t ih => rw [List.replicate_succ, layAll_cons, List.length_append, ih, Nat.succ_mul]; omega

set_option maxRecDepth 20000 in
set_option maxHeartbeats 3200000 in
theorem full_calls (s q b : Nat) (hb8 : b < 256) (w : World) :
    Calls Tryd.prog 5 #[.int .u8 s, .int .u16 q, .int .u8 b] w fun e w' => e = .returned (.bool true) ∧ Below w.heap.size w w' := by
  obtain ⟨M, hM⟩ : ∃ M, M = s % 12 := ⟨_, rfl⟩
  obtain ⟨N, hN⟩ : ∃ N, N = 4 + M := ⟨_, rfl⟩
  obtain ⟨m0, hm0⟩ : ∃ M, M = q % 900 := ⟨_, rfl⟩
  obtain ⟨m, hm⟩ : ∃ N, N = 20 + m0 := ⟨_, rfl⟩
  have e1 : (s : Int) % 12 = (M : Int) := by omega
  have e2 : (4 : Int) + (M : Int) = (N : Int) := by omega
  have e3 : (q : Int) % 900 = (m0 : Int) := by omega
  have e4 : (20 : Int) + (m0 : Int) = (m : Int) := by omega
  have hM11 : M ≤ 11 := by omega
  have hNN : 4 ≤ N ∧ N ≤ 15 := by omega
  have hmm : 20 ≤ m ∧ m ≤ 919 := by omega
  have hm9 : m0 ≤ 899 := by omega
  have HNN := Lib.hid hNN
  have HMM := Lib.hid hmm
  obtain ⟨pb, hpb⟩ : ∃ p, p = List.replicate m (UInt8.ofNat b) := ⟨_, rfl⟩
  have hpl : pb.length = m := by rw [hpb, List.length_replicate]
  obtain ⟨Rw, hRw⟩ : ∃ x, x = (layOne pb).length := ⟨_, rfl⟩
  have hrb : m < Rw ∧ Rw ≤ m + 10 := by
    have := (Vi.varint_length pb.length)
    rw [hRw]
    unfold layOne
    rw [List.length_append]
    omega
  have HPB := Lib.hid hpb
  have HPL := Lib.hid hpl
  have HRW := Lib.hid hRw
  have HRB := Lib.hid hrb
  have hvb : B8 (UInt8.ofNat b) = .int .u8 b := by unfold B8; simp; omega
  have HVB := Lib.hid hvb
  clear hM hN hm0 hm hNN hmm hpb hpl hRw hrb hvb
  go_enter Tryd.func5, Tryd.ntmps5
  go_wp2_with fail
  refine (awake_any w).mono ?_
  rintro e w1 ⟨rfl, hb1⟩
  have HB1 := Lib.hid hb1
  clear hb1
  go_wp2_with fail
  refine (new_any N w1 (by have := HNN.out; omega) (by have := HNN.out; omega)).mono ?_
  rintro e w2 ⟨gd, F, rfl, hd2, hf2, hb2⟩
  have HD2 := Lib.hid hd2
  have HF2 := Lib.hid hf2
  have HB2 := Lib.hid (btr HB1.out hb2)
  clear hd2 hf2 hb2 e1 e2
  go_wp2_with fail
  refine (first_any w2).mono ?_
  rintro e w3 ⟨rfl, hb3⟩
  have HB3 := Lib.hid (btr HB2.out hb3)
  have HD3 := Lib.hid (HD2.out.below hb3)
  clear hb3 HD2
  go_wp2_with fail
  refine (open_new_any gd N F Cr.first Cr.first_ok w3 HD3.out HNN.out.1 (by have := HNN.out; omega) (by decide) (by decide)).mono ?_
  rintro e w4 ⟨hb4, g, G, r, z, rfl, hr4, hg4, hl4, hzn, hzg, -, hrf⟩
  have hz : z.n = (N - 2) / 2 := by rw [hzn]; unfold Cr.from; rw [if_neg (by have := HNN.out; omega)]
  have hfrom : Cr.first.from N = (r.fr, r.n) := by rw [hl4.n, hzn, hrf]
  have hst : St w w4 gd g z r (Dk.new N) F G [] 0 := ⟨HD3.out.below hb4, hr4, hl4, fun k hk => by
    rcases hk with hk | hk
    · exact Nat.le_trans HB1.out.size (HF2.out k hk)
    · exact Nat.le_trans HB3.out.size (hg4 k hk), btr HB3.out hb4⟩
  have HST := Lib.hid hst
  obtain ⟨n, hn⟩ : ∃ n, n = z.n := ⟨_, rfl⟩
  have hn6 : 1 ≤ n ∧ n ≤ 6 := by have := HNN.out; omega
  have HN := Lib.hid hn
  have HZ := Lib.hid (And.intro hzg hfrom)
  have HZR := Lib.hid hl4.n
  clear hr4 hg4 hl4 hzn hzg hrf hz hfrom hst hb4 HD3 HB3 HB2 HB1 hn
  go_upto_region 7 with fail
  obtain ⟨w5, hrun5, ho5, hb5⟩ := run_make8k (P := Tryd.prog) w4 mk8R .i64 m (by have := HMM.out; omega)
  obtain ⟨g1, hg1⟩ : ∃ x, x = w4.heap.size := ⟨_, rfl⟩
  rw [← hg1] at hrun5 ho5
  have HO5 : Hid (Own8 5 g1 w5 (.slice (some ⟨g1, 0, none⟩) m m) (filled m 0 (UInt8.ofNat b))) := Lib.hid (by rw [filled_zero]; exact ho5)
  have HG1 := Lib.hid hg1
  have HB5 := Lib.hid hb5
  clear ho5 hb5 hg1
  have hm919 : m ≤ 919 := HMM.out.2
  go_wp2_with fail
  clear e3 e4 hrun5
  go_loopw [13, 46] (fun _ i wr => ∃ k : Nat, k ≤ m ∧ i = .int .i64 k ∧ Hid (Own8 5 g1 wr (.slice (some ⟨g1, 0, none⟩) m m) (filled m k (UInt8.ofNat b))) ∧ Hid (Below w4.heap.size w4 wr)) (fun _ i _ => m - (intOf i).toNat)
  case atStart => exact ⟨0, by omega, rfl, HO5, HB5⟩
  case round =>
    obtain ⟨k, hk, rfl, hown, hst⟩ := hrel
    by_cases hlt : k < m
    · have d1 : decide ((k : Int) < (m : Int)) = true := decide_eq_true (by omega)
      have d1n : decide (k < m) = true := decide_eq_true hlt
      have hl := filled_len m k (UInt8.ofNat b) hk
      have ho' : Own8 5 g1 wr (.slice (some ⟨g1, 0, none⟩) (filled m k (UInt8.ofNat b)).length m) (filled m k (UInt8.ofNat b)) := by rw [hl]; exact hown.out
      have hp := own8_put ho' k (UInt8.ofNat b)
      rw [filled_next m k (UInt8.ofNat b) hlt, hl, HVB.out] at hp
      have HP := Lib.hid hp
      have x5 : wr.cell? ⟨g1, k, none⟩ = some (((filled m k (UInt8.ofNat b)).map B8)[k]'(by rw [List.length_map, hl]; exact hlt)) := by
        rw [World.ownsRow.cellAt ho' k (by rw [hl]; omega)]
        rw [List.getElem?_eq_getElem (by rw [List.length_map, hl]; exact hlt)]
      have f5 : wr.frozen? ⟨g1, k, none⟩ = false := World.ownsRow.frozenAt ho' k
      generalize ((filled m k (UInt8.ofNat b)).map B8)[k]'(by rw [List.length_map, hl]; exact hlt) = old at x5
      have HS2 : Hid (Below w4.heap.size w4 (wr.setCell ⟨g1, k, none⟩ (.int .u8 b))) := Lib.hid (hst.out.setCell (by rw [← HG1.out]; exact Nat.le_refl _) _)
      clear hp ho' hown hst hl
      go_wp2_with fail
      go_roundw
      case rel => exact ⟨k + 1, by omega, by go_num, HP, HS2⟩
      case measure => simp [intOf]; omega
    · have e : k = m := by omega
      have d1 : decide ((k : Int) < (m : Int)) = false := decide_eq_false (by omega)
      have d1n : decide (k < m) = false := decide_eq_false hlt
      rw [e, filled_all, ← HPB.out] at hown
      have HS6 := Lib.hid (HST.out.below hst.out)
      have HP6 := Lib.hid ((Rec8.of_own hown.out).low (Nat.zero_le _))
      clear e hown hst HO5 HB5 HST HG1 HVB
      go_wp2_with fail
      refine (rflay_any _ [pb] _ (rows_lit1 wr _ pb _ _ rfl HP6.out.1) (fun x hx => by simp at hx; rw [hx, HPL.out]; have := HMM.out; omega) (by rw [layAll_one, ← HRW.out]; have := HMM.out; have := HRB.out; omega)).mono ?_
      rintro e w7 ⟨v7, rfl, ho7, hb7⟩
      have hb7' := btr (bal (bre wr) (.cells #[.slice (some ⟨g1, 0, none⟩) m m] 23)) hb7
      have HS7 := Lib.hid (HS6.out.below hb7')
      have HP7 := Lib.hid (HP6.out.below hb7')
      obtain ⟨a7, c7, rfl, -, -, -, -⟩ := id ho7.bytes
      rw [layAll_one, ← HRW.out]
      clear ho7 hb7 hb7' HS6 HP6
      go_wp2_with fail
      refine (first_any w7).mono ?_
      rintro e w8 ⟨rfl, hb8⟩
      have HS8 := Lib.hid (HS7.out.below hb8)
      have HP8 := Lib.hid (HP7.out.below hb8)
      clear hb8 HS7 HP7
      go_wp2_with fail
      refine (half_any gd (Dk.new N) F Cr.first w8 HS8.out.dk (by decide) (Nat.zero_le _)).mono ?_
      rintro e w9 ⟨v9, rfl, ho9, hb9⟩
      have HS9 := Lib.hid (HS8.out.below hb9)
      have HP9 := Lib.hid (HP8.out.below hb9)
      have hlen9 : (halfOf (Dk.new N) (Cr.first.from (Dk.new N).safe.length).1 (Cr.first.from (Dk.new N).safe.length).2).length = n := by
        have hl : (Dk.new N).safe.length = N := by show (List.replicate N (List.replicate 512 (0 : UInt8))).length = N; exact List.length_replicate
        rw [half_len, hl, HZ.out.2, HN.out]
        exact HS8.out.lv.n
      obtain ⟨a9, c9, hv9, -, -, -, -⟩ := id ho9.rows
      rw [hlen9] at hv9
      subst hv9
      clear ho9 hb9 HS8 HP8 hlen9
      obtain ⟨X, hX⟩ : ∃ X, X = 487 * n := ⟨_, rfl⟩
      obtain ⟨Q, hQ⟩ : ∃ Q, Q = X / Rw := ⟨_, rfl⟩
      have q1 : (487 : Int) * (n : Int) = (X : Int) := by omega
      have q2 : (X : Int) / (Rw : Int) = (Q : Int) := by rw [hQ]; rfl
      have q3 : IntKind.i64.wrap (X : Int) = (X : Int) := by rw [IntKind.wrap_i64]; omega
      have q4 : Int.tdiv (X : Int) (Rw : Int) = (Q : Int) := by rw [Int.tdiv_eq_ediv_of_nonneg (by omega)]; exact q2
      have q5 : ¬ ((Rw : Int) = 0) := by have := HRB.out; omega
      have hR1 : 21 ≤ Rw := by have := HRB.out; have := HMM.out; omega
      have hQ1 : Q * Rw ≤ X := by rw [hQ]; exact Nat.div_mul_le_self X Rw
      have hQ2 : X < (Q + 1) * Rw := by rw [hQ, Nat.succ_mul]; have := Nat.mod_lt X (show 0 < Rw by omega); have := Nat.div_add_mod X Rw; have h3 : Rw * (X / Rw) = X / Rw * Rw := Nat.mul_comm _ _; omega
      have hQ3 : Q ≤ 140 := by rw [hQ]; exact Nat.div_le_of_le_mul (by have : 21 * 140 ≤ Rw * 140 := Nat.mul_le_mul_right _ hR1; omega)
      have HX := Lib.hid hX
      have HQ := Lib.hid (And.intro hQ1 hQ2)
      clear hX hQ hQ1 hQ2
      go_upto_region 16 with fail
      clear q1 q2 q3 q4 q5
      go_loopw [66] (fun i wr => ∃ (t : Nat) (r' : Rl) (d' : Dk) (F' G' : Nat → Prop), t ≤ Q ∧ i = .int .i64 t ∧ Hid (St w wr gd g z r' d' F' G' (List.replicate t pb) 0) ∧ Hid (Rec8 0 wr (.slice (some ⟨g1, 0, none⟩) m m) pb) ∧ Hid (r'.fr = r.fr ∧ d'.safe = (Dk.new N).safe ∧ d'.count ≤ 5000 * t ∧ d'.wait.length ≤ 5000 * t)) (fun i _ => Q - (intOf i).toNat)
      case atStart => exact ⟨0, r, Dk.new N, F, G, Nat.zero_le _, rfl, HS9, HP9, Lib.hid ⟨rfl, rfl, Nat.zero_le _, Nat.zero_le _⟩⟩
      case round =>
        obtain ⟨t, r', d', F', G', ht, rfl, hst, hp, hx⟩ := hrel
        have hrep : List.replicate t pb ++ [pb] = List.replicate (t + 1) pb := (List.replicate_succ').symm
        have hlen := lay_rep pb (t + 1)
        rw [← HRW.out] at hlen
        by_cases hlt : t < Q
        · have d1 : decide ((t : Int) < (Q : Int)) = true := decide_eq_true (by omega)
          have d1n : decide (t < Q) = true := decide_eq_true hlt
          have hfit : (layAll (List.replicate t pb ++ [pb])).length ≤ 487 * z.n := by
            rw [hrep, hlen, ← HN.out, ← HX.out]
            exact Nat.le_trans (Nat.mul_le_mul_right _ hlt) HQ.out.1
          have HF := Lib.hid hfit
          have HREP := Lib.hid hrep
          clear hlen hfit hrep
          go_wp2_with fail
          refine (st_append_any hst.out _ pb hp.out (by rw [HPL.out]; omega) (by have := hx.out.2.2.1; omega) (by have := hx.out.2.2.2; omega) (by rw [List.length_replicate]; omega)).mono ?_
          rintro e w11 ⟨-, h11⟩
          obtain ⟨he, r2, d2, F2, G2, k1, k2, k3, k4, k5, k6⟩ := h11 HF.out
          subst he
          rw [HREP.out] at k1
          have HK1 := Lib.hid k1
          have HP2 := Lib.hid (hp.out.moved hst.out k2)
          have HX2 : Hid (r2.fr = r.fr ∧ d2.safe = (Dk.new N).safe ∧ d2.count ≤ 5000 * (t + 1) ∧ d2.wait.length ≤ 5000 * (t + 1)) := Lib.hid ⟨k3.trans hx.out.1, k4.trans hx.out.2.1, by have := hx.out.2.2.1; omega, by have := hx.out.2.2.2; omega⟩
          clear k1 k2 k3 k4 k5 k6 h11 hst hp hx HF HREP
          go_wp2_with fail
          go_roundw
          case rel => exact ⟨t + 1, r2, d2, F2, G2, by omega, by go_num, HK1, HP2, HX2⟩
          case measure => simp [intOf]; omega
        · have e : t = Q := by omega
          have d1 : decide ((t : Int) < (Q : Int)) = false := decide_eq_false (by omega)
          have d1n : decide (t < Q) = false := decide_eq_false hlt
          have hfull : 487 * z.n < (layAll (List.replicate t pb ++ [pb])).length := by
            rw [hrep, hlen, ← HN.out, ← HX.out, e]
            exact HQ.out.2
          have hlq := lay_rep pb t
          rw [← HRW.out] at hlq
          have HF := Lib.hid hfull
          have HLQ := Lib.hid hlq
          have HE := Lib.hid e
          clear hlen hfull hrep e hlt hlq
          go_upto_region 20 with fail
          go_wp2_with fail
          refine (writes_any gd d' F' wr hst.out.dk).mono ?_
          rintro e w12 ⟨rfl, hw⟩
          have hw' := hw.symm
          subst hw'
          clear hw
          obtain ⟨CT, hCT⟩ : ∃ x, x = d'.count := ⟨_, rfl⟩
          have HCT := Lib.hid hCT
          rw [← hCT]
          clear hCT d1 d1n
          go_wp2_with fail
          refine (st_append_any hst.out _ pb hp.out (by rw [HPL.out]; omega) (by have := hx.out.2.2.1; omega) (by have := hx.out.2.2.2; omega) (by rw [List.length_replicate]; omega)).mono ?_
          rintro e w13 ⟨h13, -⟩
          obtain ⟨he, hb13⟩ := h13 HF.out
          subst he
          have HS13 := Lib.hid (hst.out.below hb13)
          have HX13 := hx
          clear hb13 hst hp hx h13 HF
          go_wp2_with fail
          refine (writes_any gd d' F' w13 HS13.out.dk).mono ?_
          rintro e w14 ⟨rfl, hw⟩
          have hw' := hw.symm
          subst hw'
          clear hw
          rw [← HCT.out]
          go_wp2_with fail
          refine (rcount_in HS13.out.rl).mono ?_
          rintro e w14 ⟨rfl, hw⟩
          have hw' := hw.symm
          subst hw'
          clear hw
          have hls : r'.ls.length = Q := by rw [HS13.out.lv.ls, List.length_replicate]; exact HE.out
          have hlq : (layAll r'.ls).length = t * Rw := by rw [HS13.out.lv.ls]; exact HLQ.out
          have hrn : r'.n = n := by rw [HS13.out.lv.n]; exact HN.out.symm
          have HLS := Lib.hid hls
          have HLT := Lib.hid (And.intro hlq hrn)
          rw [hls]
          clear hls hlq hrn
          go_wp2_with fail
          have htq : t * Rw ≤ X := by rw [HE.out]; exact HQ.out.1
          refine (rroom_in HS13.out.rl (by rw [HLT.out.2]; omega) (by rw [HLT.out.1, HLT.out.2, ← HX.out]; exact htq)).mono ?_
          rintro e w15 ⟨rfl, hb15⟩
          have HS15 := Lib.hid (HS13.out.below hb15)
          rw [HLT.out.1, HLT.out.2, ← HX.out]
          obtain ⟨V, hV⟩ : ∃ x, x = X - t * Rw := ⟨_, rfl⟩
          have hVR : V < Rw := by
            have h2 := HQ.out.2
            rw [Nat.succ_mul] at h2
            rw [hV, HE.out]
            omega
          rw [← hV]
          have HV := Lib.hid hV
          have d5 : decide ((Rw : Int) ≤ (V : Int)) = false := decide_eq_false (by omega)
          have d5n : decide (Rw ≤ V) = false := decide_eq_false (by omega)
          clear hb15 HS13 htq hV
          go_wp2_with fail
          refine (first_any w15).mono ?_
          rintro e w16 ⟨rfl, hb16⟩
          have HS16 := Lib.hid (HS15.out.below hb16)
          clear hb16 HS15 d5 d5n
          go_wp2_with fail
          have hlen : d'.safe.length = N := by rw [HX13.out.2.1]; show (List.replicate N (List.replicate 512 (0 : UInt8))).length = N; exact List.length_replicate
          have hfr : Cr.first.from d'.safe.length = (r'.fr, r'.n) := by rw [hlen, HZ.out.2, HX13.out.1, HS16.out.lv.n, HZR.out]
          refine (open_now_any gd F' Cr.first Cr.first_ok w16 HS16.out.lv HS16.out.dk (by decide) (by rw [hlen]; exact HNN.out.1) HZ.out.1.symm hfr (by have := HX13.out.2.2.2; omega)).mono ?_
          rintro e w17 ⟨hb17, g2, G2, r2, rfl, hr2, -, hls2, hn2, -⟩
          have HS17 := Lib.hid (HS16.out.below hb17)
          have HR17 := Lib.hid hr2
          have HW17 := Lib.hid (And.intro hls2 hn2)
          clear hb17 hr2 hls2 hn2 hlen hfr HS16
          go_wp2_with fail
          refine (rcount_in HR17.out).mono ?_
          rintro e w18 ⟨rfl, hw⟩
          have hw' := hw.symm
          subst hw'
          clear hw
          have hls2 : r2.ls.length = Q := by rw [HW17.out.1, List.length_replicate]; exact HE.out
          rw [hls2]
          clear hls2
          have htq : t * Rw ≤ X := by rw [HE.out]; exact HQ.out.1
          have h21 : (layAll r2.ls).length = t * Rw := by rw [HW17.out.1]; exact HLQ.out
          have h22 : r2.n = n := by rw [HW17.out.2]; exact HLT.out.2
          have H2 := Lib.hid (And.intro h21 h22)
          have HTQ := Lib.hid htq
          clear h21 h22 htq
          go_wp2_with fail
          refine (rroom_in HR17.out (by rw [H2.out.2]; omega) (by rw [H2.out.1, H2.out.2, ← HX.out]; exact HTQ.out)).mono ?_
          rintro e w19 ⟨rfl, hb19⟩
          have HS19 := Lib.hid (HS17.out.below hb19)
          rw [H2.out.1, H2.out.2, ← HX.out, ← HV.out]
          clear hb19 HS17
          go_wp2_with fail
          refine (rroom_in HS19.out.rl (by rw [HLT.out.2]; omega) (by rw [HLT.out.1, HLT.out.2, ← HX.out]; exact HTQ.out)).mono ?_
          rintro e w20 ⟨rfl, hb20⟩
          have HB20 := Lib.hid (btr HS19.out.bel hb20)
          rw [HLT.out.1, HLT.out.2, ← HX.out, ← HV.out]
          clear hb20 HS19
          go_wp2_with fail
          go_ret
          exact ⟨rfl, HB20.out⟩
end Go.Proofs.YtacfkhnajdneeaaDoor
