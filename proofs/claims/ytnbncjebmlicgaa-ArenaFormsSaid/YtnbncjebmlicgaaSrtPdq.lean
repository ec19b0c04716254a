/- Walk: pdqsortOrdered: a sorted permutation. -/
import Derived.Test.YtnbncjebmlicgaaPreC
import Derived.Test.YtnbncjebmlicgaaSrtHeap
import Derived.Test.YtnbncjebmlicgaaSrtPis
import Derived.Test.YtnbncjebmlicgaaSrtPart
import Derived.Test.YtnbncjebmlicgaaSrtPeq
import Derived.Test.YtnbncjebmlicgaaSrtBrk
namespace Go.Proofs.Ytnbncjebmlicgaa
open Go.RowKit Go.Sort

theorem srow_size {B : Nat} {w : World} {g n c : Nat} {d : Array Nat} (h : SRow B w g n c d) : d.size = n := h.size.1
/-- what is left to do: sort what stands from a to b -/
def Left (a b : Nat) (d : Array Nat) (a' b' : Nat) (d' : Array Nat) : Prop := ∀ R, PermIn a' b' d' R → SortedIn ltN a' b' R → PermIn a b d R ∧ SortedIn ltN a b R
theorem Left.perm {a b a' b' : Nat} {d d' d2 : Array Nat} (h : Left a b d a' b' d') (hp : PermIn a' b' d' d2) : Left a b d a' b' d2 := fun R h1 h2 => h R (permIn_trans _ _ _ _ _ hp h1) h2
theorem below_perm {a b : Nat} {d d' : Array Nat} (h : Go.Sort.Below ltN a b d) (hb : b ≤ d.size) (hp : PermIn a b d d') : Go.Sort.Below ltN a b d' := h.perm hb hp
theorem less_pred (a p : Nat) (d : Array Nat) (x y : Nat) (hx : x = d[a - 1]!) (hy : y = d[p]!) : (decide (a > 0) && !ltN d[a - 1]! d[p]!) = (decide (a > 0) && !ltN x y) := by rw [hx, hy]

set_option linter.unusedSimpArgs false in
set_option maxRecDepth 60000 in
set_option maxHeartbeats 16000000 in
theorem srtpdq_any (B g n c : Nat) (hn : n ≤ 1000000000) : ∀ (m a b : Nat) (lim : Int) (d : Array Nat) (w : World), b - a ≤ m → SRow B w g n c d → a ≤ b → b ≤ n → Go.Sort.Below ltN a b d →
    Calls Try.prog 76 #[.slice (some ⟨g, 0, none⟩) n c, .int .i64 a, .int .i64 b, .int .i64 lim] w fun e w' => e = .returned (.tuple #[]) ∧ ∃ d', PermIn a b d d' ∧ SortedIn ltN a b d' ∧ SRow B w' g n c d' ∧ Only w w' (fun q => q = g) := by
  intro m
  induction m using Nat.strongRecOn with
  | ind m ih =>
  intro a b lim d w hm h hab hbn hbl
  have IH := Lib.hid ih
  have HROW := Lib.hid h
  have HON := Lib.hid (Only.refl w (fun q => q = g))
  have HBL := Lib.hid hbl
  have HLF : Hid (Left a b d a b d) := Lib.hid fun R h1 h2 => ⟨h1, h2⟩
  clear ih h hbl
  go_enter Try.func76, Try.ntmps76
  go_wp2_with fail
  go_loopw [1, 2, 3, 8, 9] (fun va vb vl vp vq wr => ∃ (a' b' : Nat) (l' : Int) (p q : Bool) (d' : Array Nat), a ≤ a' ∧ a' ≤ b' ∧ b' ≤ b ∧ va = .int .i64 a' ∧ vb = .int .i64 b' ∧ vl = .int .i64 l' ∧ vp = .bool p ∧ vq = .bool q ∧ Hid (SRow B wr g n c d' ∧ Only w wr (fun q => q = g) ∧ Go.Sort.Below ltN a' b' d' ∧ Left a b d a' b' d')) (fun va vb _ _ _ _ => (intOf vb - intOf va).toNat)
  case atStart => exact ⟨a, b, lim, true, true, d, by omega, by omega, by omega, rfl, rfl, rfl, rfl, rfl, Lib.hid ⟨HROW.out, HON.out, HBL.out, HLF.out⟩⟩
  case round =>
    clear HROW HON HBL HLF
    obtain ⟨a', b', l', p, q, d', ha1, hab1, hb1, rfl, rfl, rfl, rfl, rfl, hin⟩ := hrel
    have HROW := Lib.hid hin.out.1
    have HON := Lib.hid hin.out.2.1
    have HBL := Lib.hid hin.out.2.2.1
    have HLF := Lib.hid hin.out.2.2.2
    clear hin
    obtain ⟨L, hL⟩ : ∃ L, L = b' - a' := ⟨_, rfl⟩
    have hLi : (b' : Int) - (a' : Int) = (L : Int) := by omega
    by_cases h12 : L ≤ 12
    · have d1 : decide ((L : Int) ≤ 12) = true := decide_eq_true (by omega)
      have d1n : decide (L ≤ 12) = true := decide_eq_true h12
      go_wp2_with fail
      refine (srtins_any B g n c a' b' d' wr HROW.out hab1 (by omega) hn).mono ?_
      rintro e w1 ⟨rfl, hr1, ho1⟩
      go_wp2_with fail
      refine bodyPost_ret (results_none rfl _ _ _) rfl ?_
      have hi := insertionSort_holds (lt := ltN) swo_ltN d' a' b' hab1 (by rw [srow_size HROW.out]; omega)
      have hf := HLF.out _ hi.1 hi.2
      exact ⟨rfl, _, hf.1, hf.2, hr1, one_only HON.out ho1⟩
    have d1 : decide ((L : Int) ≤ 12) = false := decide_eq_false (by omega)
    have d1n : decide (L ≤ 12) = false := decide_eq_false h12
    have HLL : Hid (L = b' - a' ∧ 13 ≤ L) := Lib.hid ⟨hL, by omega⟩
    have h13 : a' + 13 ≤ b' := by omega
    clear hL h12
    by_cases hl0 : l' = 0
    · subst hl0
      go_wp2_with fail
      refine (srtheap_any B g n c a' b' d' wr HROW.out (by omega) (by omega) hn).mono ?_
      rintro e w1 ⟨rfl, hr1, ho1⟩
      go_wp2_with fail
      refine bodyPost_ret (results_none rfl _ _ _) rfl ?_
      have hi := heapSort_holds (lt := ltN) swo_ltN d' a' b' hab1 (by rw [srow_size HROW.out]; omega)
      have hf := HLF.out _ hi.1 hi.2
      exact ⟨rfl, _, hf.1, hf.2, hr1, one_only HON.out ho1⟩
    have d2 : decide (l' = 0) = false := decide_eq_false hl0
    have d2b : (l' == 0) = false := beq_eq_false_iff_ne.2 hl0
    clear hl0
    go_upto_if 35 with fail
    go_cut [3] from 34 to 41 (fun vl w' => ∃ (l2 : Int) (d1 : Array Nat), vl = .int .i64 l2 ∧ Hid (PermIn a' b' d' d1 ∧ SRow B w' g n c d1 ∧ Only w w' (fun q => q = g)))
    case first =>
      cases p
      · go_wp2_with fail
        refine (break_any B g n c a' b' d' wr HROW.out (by omega) (by omega) hn).mono ?_
        rintro e w1 ⟨rfl, d1', hp1, hr1, ho1⟩
        go_wp2_with fail
        go_meet
        case rel => exact ⟨_, d1', rfl, Lib.hid ⟨hp1, hr1, one_only HON.out ho1⟩⟩
      · go_wp2_with fail
        go_meet
        case rel => exact ⟨_, d', rfl, Lib.hid ⟨permIn_refl _ _ _, HROW.out, HON.out⟩⟩
    case rest =>
    rename World => w1
    obtain ⟨l2, D1, rfl, hc⟩ := hcut
    have HBL1 := Lib.hid (below_perm HBL.out (by rw [srow_size HROW.out]; omega) hc.out.1)
    have HLF1 := Lib.hid (HLF.out.perm hc.out.1)
    have HROW1 := Lib.hid hc.out.2.1
    have HON1 := Lib.hid hc.out.2.2
    clear hc HBL HLF HROW HON
    go_wp2_with fail
    refine (choose_any B g n c a' b' D1 w1 HROW1.out (by omega) (by omega) hn).mono ?_
    rintro e w2 ⟨pv, t, rfl, hp1, hp2, ht, hb2⟩
    have HROW2 := Lib.hid (HROW1.out.keep (Only.of_below hb2 (fun _ => False)) id)
    have HON2 := Lib.hid (one_only HON1.out (Only.of_below hb2 (fun q => q = g)))
    clear HROW1 HON1 hb2
    go_upto_if 50 with fail
    go_cut [11, 12] from 49 to 60 (fun vp vh w' => ∃ (p2 t2 : Nat) (d2 : Array Nat), vp = .int .i64 (p2 : Nat) ∧ vh = .int .i64 (t2 : Nat) ∧ a' ≤ p2 ∧ p2 < b' ∧ t2 < 2 ∧ Hid (PermIn a' b' D1 d2 ∧ SRow B w' g n c d2 ∧ Only w w' (fun q => q = g)))
    case first =>
      by_cases ht2 : t = 2
      · subst ht2
        have e1 : (pv : Int) - (a' : Int) = ((pv - a' : Nat) : Int) := by omega
        have e2 : (b' : Int) - 1 = ((b' - 1 : Nat) : Int) := by omega
        obtain ⟨u1, hu1⟩ : ∃ u, u = pv - a' := ⟨_, rfl⟩
        obtain ⟨u2, hu2⟩ : ∃ u, u = b' - 1 := ⟨_, rfl⟩
        rw [← hu1] at e1
        rw [← hu2] at e2
        obtain ⟨u3, hu3⟩ : ∃ u, u = u2 - u1 := ⟨_, rfl⟩
        have e3 : (u2 : Int) - (u1 : Int) = (u3 : Int) := by omega
        have HU : Hid (u3 = (b' - 1) - (pv - a')) := Lib.hid (by omega)
        clear hu1 hu2 hu3
        go_wp2_with fail
        refine (srtrev_any B g n c a' b' D1 w2 HROW2.out (by omega) (by omega) hn).mono ?_
        rintro e w3 ⟨rfl, hr3, ho3⟩
        go_wp2_with fail
        go_meet
        case rel => exact ⟨u3, 1, _, rfl, rfl, by rw [HU.out]; omega, by rw [HU.out]; omega, by omega, Lib.hid ⟨reverseRange_holds D1 a' b' hab1 (by rw [srow_size HROW2.out]; omega), hr3, one_only HON2.out ho3⟩⟩
      · have e1 : ((t : Int) == 2) = false := beq_eq_false_iff_ne.2 (by omega)
        have e2 : decide ((t : Int) = 2) = false := decide_eq_false (by omega)
        have e3 : (t == 2) = false := beq_eq_false_iff_ne.2 ht2
        have e4 : decide (t = 2) = false := decide_eq_false ht2
        go_wp2_with fail
        go_meet
        case rel => exact ⟨pv, t, D1, rfl, rfl, hp1, hp2, by omega, Lib.hid ⟨permIn_refl _ _ _, HROW2.out, HON2.out⟩⟩
    case rest =>
    rename World => w3
    obtain ⟨p2, t2, D2, rfl, rfl, hp3, hp4, ht3, hc⟩ := hcut
    have HBL2 := Lib.hid (below_perm HBL1.out (by rw [srow_size HROW2.out]; omega) hc.out.1)
    have HLF2 := Lib.hid (HLF1.out.perm hc.out.1)
    have HROW3 := Lib.hid hc.out.2.1
    have HON3 := Lib.hid hc.out.2.2
    clear hc HBL1 HLF1 HROW2 HON2 hp1 hp2 ht
    go_upto_region 15 with fail
    go_cut [68] from 61 to 68 (fun t w' => t = .bool (p && q && t2 == 1) ∧ w' = w3)
    case first =>
      have ht1 : t2 = 0 ∨ t2 = 1 := by omega
      cases p
      · go_wp2_with fail
        go_meet
        case rel => exact ⟨rfl, rfl⟩
      cases q
      · go_wp2_with fail
        go_meet
        case rel => exact ⟨rfl, rfl⟩
      rcases ht1 with rfl | rfl
      · go_wp2_with fail
        go_meet
        case rel => exact ⟨rfl, rfl⟩
      · go_wp2_with fail
        go_meet
        case rel => exact ⟨rfl, rfl⟩
    case rest =>
    rename World => w3'
    obtain ⟨rfl, hw3⟩ := hcut
    subst hw3
    obtain ⟨bp, hbp⟩ : ∃ bp, bp = (p && q && t2 == 1) := ⟨_, rfl⟩
    rw [← hbp]
    clear hbp
    go_upto_if 68 with fail
    go_cut [] from 61 to 72 (fun w' => ∃ d3 : Array Nat, Hid (PermIn a' b' D2 d3 ∧ SRow B w' g n c d3 ∧ Only w w' (fun q => q = g)))
    case first =>
      cases bp
      · go_wp2_with fail
        go_meet
        case rel => exact ⟨D2, Lib.hid ⟨permIn_refl _ _ _, HROW3.out, HON3.out⟩⟩
      · go_wp2_with fail
        refine (srtpis_any B g n c a' b' D2 _ HROW3.out (by omega) (by omega) hn).mono ?_
        rintro e w4 ⟨rfl, hr4, ho4⟩
        have hi := partialInsertionSort_holds (lt := ltN) swo_ltN D2 a' b' (by omega) (by rw [srow_size HROW3.out]; omega) HBL2.out
        cases hpi : (partialInsertionSort ltN D2 a' b').2
        · go_wp2_with fail
          go_meet
          case rel => exact ⟨_, Lib.hid ⟨hi.1, hr4, one_only HON3.out ho4⟩⟩
        · have hf := HLF2.out _ hi.1 (hi.2 hpi)
          go_wp2_with fail
          refine bodyPost_ret (results_none rfl _ _ _) rfl ?_
          exact ⟨rfl, _, hf.1, hf.2, hr4, one_only HON3.out ho4⟩
    case rest =>
    rename World => w4
    obtain ⟨D3, hc⟩ := hcut
    have HBL3 := Lib.hid (below_perm HBL2.out (by rw [srow_size HROW3.out]; omega) hc.out.1)
    have HLF3 := Lib.hid (HLF2.out.perm hc.out.1)
    have HROW4 := Lib.hid hc.out.2.1
    have HON4 := Lib.hid hc.out.2.2
    clear hc HBL2 HLF2 HROW3 HON3 ht3
    obtain ⟨bb, hbb⟩ : ∃ bb, bb = (decide (a' > 0) && !ltN D3[a' - 1]! D3[p2]!) := ⟨_, rfl⟩
    have HBB := Lib.hid hbb
    clear hbb
    go_upto_region 17 with fail
    go_cut [87] from 73 to 87 (fun t w' => t = .bool bb ∧ Hid (SRow B w' g n c D3 ∧ Only w w' (fun q => q = g)))
    case first =>
      by_cases ha0 : 0 < a'
      · have d3 : decide ((0 : Int) < (a' : Int)) = true := decide_eq_true (by omega)
        have d3n : decide (0 < a') = true := decide_eq_true ha0
        obtain ⟨a0, ha00⟩ : ∃ x, x = a' - 1 := ⟨_, rfl⟩
        have a0i : (a' : Int) - 1 = (a0 : Int) := by omega
        have a0a : (0 : Int) ≤ (a0 : Int) := by omega
        have a0b : (a0 : Int) < (n : Int) := by omega
        have a0e : IntKind.i64.wrap (a0 : Int) = (a0 : Int) := by rw [IntKind.wrap_i64]; omega
        have p2a : (0 : Int) ≤ (p2 : Int) := by omega
        have p2b : (p2 : Int) < (n : Int) := by omega
        have p2e : IntKind.i64.wrap (p2 : Int) = (p2 : Int) := by rw [IntKind.wrap_i64]; omega
        obtain ⟨ka, fa⟩ := HROW4.out.get (i := a0) (by omega)
        obtain ⟨kp, fp⟩ := HROW4.out.get (i := p2) (by omega)
        obtain ⟨x, hx⟩ : ∃ x, x = D3[a0]! := ⟨_, rfl⟩
        obtain ⟨y, hy⟩ : ∃ x, x = D3[p2]! := ⟨_, rfl⟩
        rw [← hx] at ka
        rw [← hy] at kp
        have HX : Hid (bb = !ltN x y) := Lib.hid (by rw [HBB.out, hx, hy, ha00, decide_eq_true ha0, Bool.true_and])
        clear hx hy ha00
        go_quiet ((go_at_call 84; with_reducible exact Calls.quiet_of_same (less_any x y _)))
        go_wp2_with fail
        go_meet
        case rel => exact ⟨by rw [HX.out], Lib.hid ⟨HROW4.out, HON4.out.drewN nq⟩⟩
      · have d3 : decide ((0 : Int) < (a' : Int)) = false := decide_eq_false (by omega)
        have d3n : decide (0 < a') = false := decide_eq_false ha0
        have HX : Hid (bb = false) := Lib.hid (by rw [HBB.out, decide_eq_false ha0, Bool.false_and])
        go_quiet (fail)
        go_wp2_with fail
        go_meet
        case rel => exact ⟨by rw [HX.out], Lib.hid ⟨HROW4.out, HON4.out.drewN nq⟩⟩
    case rest =>
    rename World => w5
    obtain ⟨rfl, hc⟩ := hcut
    have HROW5 := Lib.hid hc.out.1
    have HON5 := Lib.hid hc.out.2
    clear hc HROW4 HON4
    cases bb with
    | true =>
      go_wp2_with fail
      refine (srtpeq_any B g n c a' b' p2 D3 w5 HROW5.out hp3 hp4 (by omega) hn).mono ?_
      rintro e w6 ⟨rfl, hr6, ho6⟩
      obtain ⟨mid, D4, hpe⟩ : ∃ mid D4, partitionEqual ltN D3 a' b' p2 = (mid, D4) := ⟨_, _, rfl⟩
      have hbb := HBB.out.symm
      rw [Bool.and_eq_true, decide_eq_true_iff, Bool.not_eq_true'] at hbb
      have hr := round_eq (lt := ltN) swo_ltN (partitionEqual_holds ltN) hbb.1 hp3 hp4 (by rw [srow_size HROW5.out]; omega) HBL3.out hbb.2 hpe
      rw [hpe] at hr6 ⊢
      obtain ⟨q1, q2, q3, q4, q5⟩ := hr
      have HR6 := Lib.hid hr6
      have HO6 := Lib.hid (one_only HON5.out ho6)
      have HB6 := Lib.hid q4
      have HL6 : Hid (Left a b d mid b' D4) := Lib.hid fun R h1 h2 => HLF3.out R (q5 R h1 h2).1 (q5 R h1 h2).2
      clear q4 q5 hpe hbb hr6 ho6 HROW5 HON5 HBL3 HLF3
      go_wp2_with fail
      go_roundw
      case rel => exact ⟨mid, b', l2, p, q, D4, by omega, by omega, by omega, rfl, rfl, rfl, rfl, rfl, Lib.hid ⟨HR6.out, HO6.out, HB6.out, HL6.out⟩⟩
      case measure => (simp [intOf]; try omega)
    | false =>
      go_wp2_with fail
      refine (srtpart_any B g n c a' b' p2 D3 w5 HROW5.out hp3 hp4 (by omega) hn).mono ?_
      rintro e w6 ⟨rfl, hr6, ho6⟩
      obtain ⟨mid, ap, D4, hpt⟩ : ∃ mid ap D4, partition ltN D3 a' b' p2 = (mid, ap, D4) := ⟨_, _, _, rfl⟩
      have hr := round_part (lt := ltN) swo_ltN (partition_holds ltN) hp3 hp4 (by rw [srow_size HROW5.out]; omega) HBL3.out hpt
      rw [hpt] at hr6 ⊢
      obtain ⟨q1, q2, q3, q4, q5, q6, q7⟩ := hr
      have HR6 := Lib.hid hr6
      have HO6 := Lib.hid (one_only HON5.out ho6)
      have HQ4 := Lib.hid q4
      have HQ5 := Lib.hid q5
      have HQ6 := Lib.hid q6
      have HQ7 := Lib.hid q7
      clear q4 q5 q6 q7 hpt hr6 ho6 HROW5 HON5 HBL3
      obtain ⟨lf, hlf⟩ : ∃ x, x = mid - a' := ⟨_, rfl⟩
      have lfi : (mid : Int) - (a' : Int) = (lf : Int) := by omega
      obtain ⟨rt, hrt⟩ : ∃ x, x = b' - mid := ⟨_, rfl⟩
      have rti : (b' : Int) - (mid : Int) = (rt : Int) := by omega
      obtain ⟨L8, hL8⟩ : ∃ x, x = L / 8 := ⟨_, rfl⟩
      have L8i : (L : Int).tdiv 8 = (L8 : Int) := by
        rw [Int.tdiv_eq_ediv_of_nonneg (by omega)]
        omega
      obtain ⟨m1, hm1⟩ : ∃ x, x = mid + 1 := ⟨_, rfl⟩
      have m1i : (mid : Int) + 1 = (m1 : Int) := by omega
      have HM1 := Lib.hid hm1
      have HLR : Hid (lf = mid - a' ∧ rt = b' - mid) := Lib.hid ⟨hlf, hrt⟩
      have hLpos := HLL.out.2
      have m1w : IntKind.i64.wrap (m1 : Int) = (m1 : Int) := by rw [IntKind.wrap_i64]; omega
      have lfw : IntKind.i64.wrap (lf : Int) = (lf : Int) := by rw [IntKind.wrap_i64]; omega
      have rtw : IntKind.i64.wrap (rt : Int) = (rt : Int) := by rw [IntKind.wrap_i64]; omega
      have L8w : IntKind.i64.wrap (L8 : Int) = (L8 : Int) := by
        have := HLL.out.1
        rw [IntKind.wrap_i64]
        omega
      clear hlf hrt hL8 hm1 hLpos
      by_cases hlr : lf < rt
      · have e1 : decide ((lf : Int) < (rt : Int)) = true := decide_eq_true (by omega)
        have e1n : decide (lf < rt) = true := decide_eq_true hlr
        go_wp2_with fail
        refine (IH.out (mid - a') (by omega) a' mid l2 D4 w6 (Nat.le_refl _) HR6.out (by omega) (by omega) HQ4.out).mono ?_
        rintro e w7 ⟨rfl, D5, k1, k2, hr7, ho7⟩
        have hq6 := HQ6.out D5 k1 k2
        have HR7 := Lib.hid hr7
        have HO7 := Lib.hid (one_only HO6.out ho7)
        have HB7 := Lib.hid hq6.1
        have HL7 : Hid (Left a b d m1 b' D5) := Lib.hid fun R h1 h2 => by
          rw [HM1.out] at h1 h2
          exact HLF3.out R (hq6.2 R h1 h2).1 (hq6.2 R h1 h2).2
        clear k1 k2 hr7 ho7 hq6 HR6 HO6 HQ4 HQ5 HQ6 HQ7 HLF3
        go_wp2_with fail
        go_roundw
        case rel => exact ⟨m1, b', l2, _, ap, D5, by have := HM1.out; omega, by have := HM1.out; omega, by omega, rfl, rfl, rfl, rfl, rfl, Lib.hid ⟨HR7.out, HO7.out, by rw [HM1.out]; exact HB7.out, HL7.out⟩⟩
        case measure => (have := HM1.out; simp [intOf]; try omega)
      · have e1 : decide ((lf : Int) < (rt : Int)) = false := decide_eq_false (by omega)
        have e1n : decide (lf < rt) = false := decide_eq_false hlr
        have hposl : 0 < lf := by have := HLR.out; omega
        go_wp2_with fail
        refine (show Calls Try.prog 76 #[.slice (some ⟨g, 0, none⟩) n c, .int .i64 m1, .int .i64 b', .int .i64 l2] _ _ from IH.out (b' - m1) (by have := HM1.out; omega) m1 b' l2 D4 w6 (Nat.le_refl _) HR6.out (by have := HM1.out; omega) (by omega) (by rw [HM1.out]; exact HQ5.out)).mono ?_
        rintro e w7 ⟨rfl, D5, k1, k2, hr7, ho7⟩
        have hq7 := HQ7.out D5 (by rw [← HM1.out]; exact k1) (by rw [← HM1.out]; exact k2)
        have HR7 := Lib.hid hr7
        have HO7 := Lib.hid (one_only HO6.out ho7)
        have HB7 := Lib.hid hq7.1
        have HL7 : Hid (Left a b d a' mid D5) := Lib.hid fun R h1 h2 => HLF3.out R (hq7.2 R h1 h2).1 (hq7.2 R h1 h2).2
        clear k1 k2 hr7 ho7 hq7 HR6 HO6 HQ4 HQ5 HQ6 HQ7 HLF3
        go_wp2_with fail
        go_roundw
        case rel => exact ⟨a', mid, l2, _, ap, D5, by omega, by omega, by omega, rfl, rfl, rfl, rfl, rfl, Lib.hid ⟨HR7.out, HO7.out, HB7.out, HL7.out⟩⟩
        case measure => (simp [intOf]; try omega)
end Go.Proofs.Ytnbncjebmlicgaa
