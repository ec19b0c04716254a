/- Walk: the law ArenaDeep. -/
import Derived.Test.YtnbncjebmlicgaaArDrop
import Derived.Test.YtnbncjebmlicgaaChain
import Derived.Test.YtnbncjebmlicgaaArSameB
import Derived.Test.YtnbncjebmlicgaaArCopy
namespace Go.Proofs.Ytnbncjebmlicgaa
open Go.RowKit

/-- what lies there when j of them have been put -/
def lst (s j : Nat) : List (Nat × Nd) := if j = 0 then [(1, .prog)] else chain s j
theorem lst_put (s j : Nat) : putA (lst s j) (j + 1) (cnd s (j + 1)) = lst s (j + 1) := by
  unfold lst
  rw [if_neg (by omega : ¬ j + 1 = 0)]
  by_cases h : j = 0
  · subst h
    rw [if_pos rfl]
    exact chain_first s _
  · rw [if_neg h, chain_put]
theorem lst_len (s j : Nat) : (lst s j).length ≤ j + 1 := by
  unfold lst
  split
  · simp
  · rw [chain_len]; omega

theorem own_two (w : World) (o : Obj) (x : Nat) : Ids ((w.alloc o).alloc (.cells #[.int .u64 x] 26)) (.slice (some ⟨w.heap.size + 1, 0, none⟩) 1 1) [x] := by
  have h := (own_one (w.alloc o) x).ids
  rw [World.size_alloc] at h
  exact h

set_option linter.unusedSimpArgs false in
set_option maxRecDepth 20000 in
set_option maxHeartbeats 3200000 in
theorem ardeeplaw_any (n k : Nat) (w : World) (_ : n < 256) (hk : k < 256) :
    Calls Try.prog 3 #[.int .u8 n, .int .u8 k] w fun e w' => e = .returned (.bool true) ∧ Below w.heap.size w w' := by
  obtain ⟨m, hm⟩ : ∃ m, m = n % 20 := ⟨_, rfl⟩
  have hm20 : m < 20 := by omega
  have hmi : (n : Int).tmod 20 = (m : Int) := by rw [hm]; exact (Int.ofNat_tmod n 20).symm
  have HM := Lib.hid hm
  clear hm
  go_enter Try.func3, Try.ntmps3
  go_wp2_with fail
  refine (awake_any w).mono ?_
  rintro e w1 ⟨rfl, hb1⟩
  have HB1 := Lib.hid hb1
  clear hb1
  go_wp2_with fail
  obtain ⟨s, hs⟩ : ∃ s : Nat, s = 190 + m := ⟨_, rfl⟩
  have hsi : (190 : Int) + (m : Int) = (s : Int) := by omega
  simp only [hsi]
  have hs1 : 190 ≤ s ∧ s < 210 := by omega
  obtain ⟨hs2, hs3⟩ := hs1
  clear hsi hs hm20 hmi
  refine (arnew_any w1).mono ?_
  rintro e w2 ⟨g, b, rfl, h2, hg2, hb2', hb2⟩
  have HG := Lib.hid (And.intro (Nat.le_trans HB1.out.size hg2) (Nat.le_trans HB1.out.size hb2'))
  have HB2 := Lib.hid (btr HB1.out hb2)
  have HA2 : Hid (ArAt w2 g b (lst s 0)) := Lib.hid h2
  clear h2 hg2 hb2' hb2 HB1
  go_wp2_with fail
  go_loopw [7] (fun i wr => ∃ j : Nat, j ≤ s ∧ i = .int .i64 ((j : Int) + 1) ∧ Hid (ArAt wr g b (lst s j)) ∧ Hid (Below w.heap.size w wr)) (fun i _ => s + 1 - (intOf i).toNat)
  case atStart => exact ⟨0, by omega, rfl, HA2, HB2⟩
  case round =>
    clear HA2 HB2
    obtain ⟨j, hj, rfl, har, hbr⟩ := hrel
    by_cases hlt : j < s
    · have d1 : decide ((j : Int) + 1 ≤ (s : Int)) = true := decide_eq_true (by omega)
      obtain ⟨q, hq⟩ : ∃ q : Nat, q = if j = 0 then 0 else 1 := ⟨_, rfl⟩
      have hq1 : q ≤ 1 := by rw [hq]; split <;> omega
      have hkd : (cnd s (j + 1)).kind = 1 + q := by
        unfold cnd
        dsimp only
        rw [hq]
        by_cases h : j = 0
        · rw [if_pos h, if_pos (by omega)]
        · rw [if_neg h, if_neg (by omega)]
      have HQ := Lib.hid hq
      have HKD := Lib.hid hkd
      clear hq hkd
      by_cases hl : j + 1 < s
      · have d2 : decide ((j : Int) + 1 < (s : Int)) = true := decide_eq_true (by omega)
        have hkid : (cnd s (j + 1)).kids = [j + 1 + 1] := by unfold cnd; dsimp only; rw [if_pos (by omega)]
        have HKID := Lib.hid hkid
        clear hkid
        go_wp2_with (with_reducible refine wpList_min rfl _ _ _ rfl _ _ _ rfl rfl ?_; intro r hr; obtain ⟨rfl⟩ : r = (q : Int) := (by have h1 := hr.out; have h2 := HQ.out; by_cases h3 : j = 0 <;> simp [h3] at h1 h2 ⊢ <;> omega))
        have hbw := bal (bal (bre wr) (.cells (#[Value.int IntKind.u8 (1 + (q : Int)), Value.string ⟨#[]⟩, Value.int IntKind.i64 0, Value.int IntKind.u8 0, Value.int IntKind.u64 0, .slice (some ⟨wr.heap.size + 1, 0, none⟩) 1 1]) 29)) (.cells #[.int .u64 ((j : Int) + 1 + 1)] 26)
        have hids : Ids ((wr.alloc (.cells (#[Value.int IntKind.u8 (1 + (q : Int)), Value.string ⟨#[]⟩, Value.int IntKind.i64 0, Value.int IntKind.u8 0, Value.int IntKind.u64 0, .slice (some ⟨wr.heap.size + 1, 0, none⟩) 1 1]) 29)).alloc (.cells #[.int .u64 ((j : Int) + 1 + 1)] 26)) (.slice (some ⟨wr.heap.size + 1, 0, none⟩) 1 1) (cnd s (j + 1)).kids := by
          rw [HKID.out]
          exact own_two wr _ (j + 1 + 1)
        have hv : (Value.agg #[.int .u8 (1 + (q : Int)), .string ⟨#[]⟩, .int .i64 0, .int .u8 0, .int .u64 0, .slice (some ⟨wr.heap.size + 1, 0, none⟩) 1 1]) = NdVal (cnd s (j + 1)) (.slice (some ⟨wr.heap.size + 1, 0, none⟩) 1 1) := by
          unfold NdVal
          rw [HKD.out]
          rfl
        have HA := Lib.hid (har.out.below hbw)
        have HBW := Lib.hid (btr hbr.out hbw)
        have HIDS := Lib.hid hids
        have HV := Lib.hid hv
        generalize ((wr.alloc (.cells (#[Value.int IntKind.u8 (1 + (q : Int)), Value.string ⟨#[]⟩, Value.int IntKind.i64 0, Value.int IntKind.u8 0, Value.int IntKind.u64 0, .slice (some ⟨wr.heap.size + 1, 0, none⟩) 1 1]) 29)).alloc (.cells #[.int .u64 ((j : Int) + 1 + 1)] 26)) = W at HA HBW HIDS ⊢
        clear hbw hids hv har hbr
        refine (show Calls Try.prog 10 #[.pointer (some ⟨g, 0, none⟩), .int .u64 ((j + 1 : Nat) : Int), .agg #[.int .u8 (1 + (q : Int)), .string ⟨#[]⟩, .int .i64 0, .int .u8 0, .int .u64 0, .slice (some ⟨wr.heap.size + 1, 0, none⟩) 1 1]] W _ from by
          rw [HV.out]
          exact arput_ok g b (lst s j) (j + 1) _ (cnd s (j + 1)) W HA.out ⟨_, rfl, HIDS.out, cnd_ok s (j + 1) (by omega)⟩ (by omega) (by omega) (.inr (by have := lst_len s j; omega))).mono ?_
        rintro e w3 ⟨rfl, ha3, ho3⟩
        rw [lst_put] at ha3
        have HA3 := Lib.hid ha3
        have HB3 := Lib.hid (HBW.out.trans (ho3.below w.heap.size HBW.out.size fun i hi e => by have := HG.out.2; omega))
        clear ha3 ho3 HA HBW HIDS HV
        go_wp2_with fail
        go_roundw
        case rel => exact ⟨j + 1, by omega, by first | rfl | (simp; done) | (congr 1; omega), HA3, HB3⟩
        case measure => simp [intOf]; omega
      · have d2 : decide ((j : Int) + 1 < (s : Int)) = false := decide_eq_false (by omega)
        have hkid : (cnd s (j + 1)).kids = [] := by unfold cnd; dsimp only; rw [if_neg (by omega)]
        have HKID := Lib.hid hkid
        clear hkid
        go_wp2_with (with_reducible refine wpList_min rfl _ _ _ rfl _ _ _ rfl rfl ?_; intro r hr; obtain ⟨rfl⟩ : r = (q : Int) := (by have h1 := hr.out; have h2 := HQ.out; by_cases h3 : j = 0 <;> simp [h3] at h1 h2 ⊢ <;> omega))
        have hbw := bal (bre wr) (.cells (#[Value.int IntKind.u8 (1 + (q : Int)), Value.string ⟨#[]⟩, Value.int IntKind.i64 0, Value.int IntKind.u8 0, Value.int IntKind.u64 0, .slice none 0 0]) 29)
        have hids : Ids (wr.alloc (.cells (#[Value.int IntKind.u8 (1 + (q : Int)), Value.string ⟨#[]⟩, Value.int IntKind.i64 0, Value.int IntKind.u8 0, Value.int IntKind.u64 0, .slice none 0 0]) 29)) (.slice none 0 0) (cnd s (j + 1)).kids := by
          rw [HKID.out]
          exact (OwnIds.nil _ 0).ids
        have hv : (Value.agg #[.int .u8 (1 + (q : Int)), .string ⟨#[]⟩, .int .i64 0, .int .u8 0, .int .u64 0, .slice none 0 0]) = NdVal (cnd s (j + 1)) (.slice none 0 0) := by
          unfold NdVal
          rw [HKD.out]
          rfl
        have HA := Lib.hid (har.out.below hbw)
        have HBW := Lib.hid (btr hbr.out hbw)
        have HIDS := Lib.hid hids
        have HV := Lib.hid hv
        generalize (wr.alloc (.cells (#[Value.int IntKind.u8 (1 + (q : Int)), Value.string ⟨#[]⟩, Value.int IntKind.i64 0, Value.int IntKind.u8 0, Value.int IntKind.u64 0, .slice none 0 0]) 29)) = W at HA HBW HIDS ⊢
        clear hbw hids hv har hbr
        refine (show Calls Try.prog 10 #[.pointer (some ⟨g, 0, none⟩), .int .u64 ((j + 1 : Nat) : Int), .agg #[.int .u8 (1 + (q : Int)), .string ⟨#[]⟩, .int .i64 0, .int .u8 0, .int .u64 0, .slice none 0 0]] W _ from by
          rw [HV.out]
          exact arput_ok g b (lst s j) (j + 1) _ (cnd s (j + 1)) W HA.out ⟨_, rfl, HIDS.out, cnd_ok s (j + 1) (by omega)⟩ (by omega) (by omega) (.inr (by have := lst_len s j; omega))).mono ?_
        rintro e w3 ⟨rfl, ha3, ho3⟩
        rw [lst_put] at ha3
        have HA3 := Lib.hid ha3
        have HB3 := Lib.hid (HBW.out.trans (ho3.below w.heap.size HBW.out.size fun i hi e => by have := HG.out.2; omega))
        clear ha3 ho3 HA HBW HIDS HV
        go_wp2_with fail
        go_roundw
        case rel => exact ⟨j + 1, by omega, by first | rfl | (simp; done) | (congr 1; omega), HA3, HB3⟩
        case measure => simp [intOf]; omega
    · have d1 : decide ((j : Int) + 1 ≤ (s : Int)) = false := decide_eq_false (by omega)
      have hjs : j = s := by omega
      subst hjs
      have hl0 : lst j j = chain j j := by unfold lst; rw [if_neg (by omega)]
      rw [hl0] at har
      obtain ⟨r, hr⟩ : ∃ r, r = k % j := ⟨_, rfl⟩
      have hrj : r < j := by rw [hr]; exact Nat.mod_lt _ (by omega)
      have hri : (k : Int) % (j : Int) = (r : Int) := by rw [hr]; rfl
      have hri2 : (k : Int).tmod (j : Int) = (r : Int) := by rw [hr]; exact (Int.ofNat_tmod k j).symm
      obtain ⟨x, hx⟩ : ∃ x, x = 1 + r := ⟨_, rfl⟩
      have hxi : (1 : Int) + (r : Int) = (x : Int) := by omega
      have hx1 : 1 ≤ x := by omega
      have hx2 : x ≤ j := by omega
      have HAR := Lib.hid har.out
      have HBR := Lib.hid hbr.out
      obtain ⟨T, hT⟩ : ∃ T, T = decide (j ≤ 200) := ⟨_, rfl⟩
      have hTi : decide ((j : Int) ≤ 200) = T := by rw [hT]; exact decide_eq_decide.2 (by omega)
      have hTT : (T == T) = true := by cases T <;> rfl
      have HT := Lib.hid hT
      have hxm : ((x - 1 : Nat) : Int) = (x : Int) - 1 := by omega
      have hwl : ((j - x + 1 : Nat) : Int) = (j : Int) - (x : Int) + 1 := by omega
      have HXM := Lib.hid hxm
      have HWL := Lib.hid hwl
      clear hl0 har hbr hr hx hlt hT hxm hwl
      go_wp2_with fail
      refine (arparent_any g b (chain j j) x wr HAR.out).mono ?_
      rw [chain_par j x (by omega) hx1 hx2]
      dsimp only
      rw [HXM.out]
      rintro e w3 ⟨rfl, hb3⟩
      have HA3 := Lib.hid (HAR.out.below hb3)
      have HB3 := Lib.hid (btr HBR.out hb3)
      clear hb3 HAR HBR
      go_wp2_with fail
      refine (artree_any g b (chain j j) w3 HA3.out).mono ?_
      rw [chain_tree j (by omega) (by omega), ← HT.out]
      rintro e w4 ⟨rfl, hb4⟩
      have HA4 := Lib.hid (HA3.out.below hb4)
      have HB4 := Lib.hid (btr HB3.out hb4)
      clear hb4 HA3 HB3
      go_wp2_with fail
      refine (arabove_any g b (chain j j) x 1 w4 HA4.out (by omega)).mono ?_
      rw [chain_above j x (by omega) hx1 hx2]
      rintro e w5 ⟨rfl, hb5⟩
      have HA5 := Lib.hid (HA4.out.below hb5)
      have HB5 := Lib.hid (btr HB4.out hb5)
      clear hb5 HA4 HB4
      go_wp2_with fail
      refine (arcopy_any g b (chain j j) w5 HA5.out).mono ?_
      rintro e w6 ⟨g2, b2, rfl, hc6, hg6, hb6', hb6⟩
      have HC6 := Lib.hid hc6
      have HB6 := Lib.hid (btr HB5.out hb6)
      have HG6 := Lib.hid (Nat.le_trans HB5.out.size hb6')
      clear hb6 hc6 hg6 hb6' HA5 HB5
      go_wp2_with fail
      refine (ardrop_any g2 b2 (chain j j) x w6 HC6.out (by omega)).mono ?_
      rw [chain_walk j x (by omega) hx1 hx2, HWL.out]
      rintro e w7 ⟨rfl, -, ho7⟩
      have HB7 := Lib.hid (HB6.out.trans (ho7.below w.heap.size HB6.out.size fun i hi e => by have := HG6.out; omega))
      clear ho7 HC6 HB6
      go_wp2_with fail
      go_ret
      exact ⟨rfl, HB7.out⟩
end Go.Proofs.Ytnbncjebmlicgaa
