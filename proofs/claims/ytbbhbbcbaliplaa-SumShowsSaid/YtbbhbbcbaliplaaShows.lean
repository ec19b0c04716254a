/- SumShows, the walk. -/
import Derived.Test.YtbbhbbcbaliplaaShowsA
namespace Go.Proofs.Ytbbhbbcbaliplaa
open Go.RowKit

theorem xor_byte (x t : Nat) (hx : x < 2 ^ 8) (ht : t < 8) : bits .xor .u8 (x : Int) (2 ^ t % 256) = ((x ^^^ 2 ^ t : Nat) : Int) := by
  have h1 : (2 : Int) ^ t % 256 = ((2 ^ t : Nat) : Int) := by
    have h := Crc.pow_lt8 ht
    have e : (2 : Int) ^ t = ((2 ^ t : Nat) : Int) := by simp
    rw [e]
    generalize 2 ^ t = y at h
    omega
  rw [h1]
  exact u8_xor_nat x _ hx (Crc.pow_lt8 ht)

theorem mask_bit (mask k : Nat) : (((mask : Int) / 2 ^ k).tmod 2 == 1) = decide (mask / 2 ^ k % 2 = 1) := by
  have h1 : (mask : Int) / 2 ^ k = ((mask / 2 ^ k : Nat) : Int) := by simp
  rw [h1]
  generalize mask / 2 ^ k = c
  rw [Int.tmod_eq_emod_of_nonneg (by omega), Bool.eq_iff_iff]
  simp
  omega

/-- the state of the loop: the bytes behind k turns, in memory of the call's own -/
structure ShowRel (w W : World) (B s mask g c : Nat) (q : List UInt8) (k : Nat) (wr : World) : Prop where
  own : Own8 5 W.heap.size wr (.slice (some ⟨g, 0, none⟩) q.length c) (turns8 s mask k q)
  below : Below W.heap.size W wr

set_option maxRecDepth 10000 in
set_option maxHeartbeats 1000000 in
theorem shows_calls (v : Value) (p : List UInt8) (sat mask : Nat) (hat : sat < 65536) (_hmask : mask < 4294967296) (w : World) (hv : Bytes w v p) :
    Calls Try.prog 6 #[v, .int .u16 sat, .int .u32 mask] w fun e w' => e = .returned (.bool true) ∧ Below w.heap.size w w' := by
  obtain ⟨P, hPe⟩ : ∃ P, P = p.take (300 : Int).toNat := ⟨_, rfl⟩
  have hPl : P.length ≤ 300 := by rw [hPe]; simp; omega
  go_enter Try.func6, Try.ntmps6
  go_wp2_with fail
  refine (awake_any _).mono ?_
  rintro e w1 ⟨rfl, hb1⟩
  have hv1 := hv.below hb1
  go_wp2_with fail
  refine (cut_any _ p 300 (by omega) (by omega) _ hv1).mono ?_
  rintro e w3 ⟨v2, rfl, hown2, hb2⟩
  have hb3' := btr hb1 hb2
  have hP3 := hown2.bytes
  rw [← hPe] at hP3
  clear hPe hb1 hv1 hb2 hown2 hv
  go_wp2_with fail
  refine (make_any _).mono ?_
  rintro e w4 ⟨rfl, hb4⟩
  have hb4' := btr hb3' hb4
  have hP4 := hP3.below hb4
  clear hb4 hP3 hb3'
  obtain ⟨z, hzs, hz⟩ := zero256
  have HZ := Lib.hid (hzs.trans size_tab.symm)
  clear hzs
  have hit : (Try.prog.info? 28).map (·.size) = some tabL.length := by rw [size_tabL]; exact info_tab
  have HI := Lib.hid hit
  have hit2 : (Try.prog.info? 28).map (·.size) = some tab.size := by rw [size_tab]; exact info_tab
  have HI2 := Lib.hid hit2
  clear hit2
  have HB := Lib.hid tab_cells
  have hu := Lib.hid Try.underlying28
  clear hit
  have hbW := bal hb4' (.cells tab 28)
  have hPW := hP4.below (bal (bre _) (.cells tab 28))
  have hSW : (w4.alloc (.cells tab 28)).rangeAt w4.heap.size 0 tabL := rangeAt_new w4 tabL _ _ rfl
  have hlt : w4.heap.size < (w4.alloc (.cells tab 28)).heap.size := by simp
  have HS := Lib.hid hSW
  clear hP4 hb4' hSW
  go_wp2_with (first | (with_reducible refine wpList_store_new rfl 28 _ _ rfl z tab w4.heap.size rfl rfl rfl HI2.out HZ.out HB.out ?_) | (with_reducible refine wpList_load_mid rfl 28 _ rfl w4.heap.size 0 rfl tabL _ HS.out hu.out rfl HI.out ?_))
  clear hz HZ HB
  generalize w4.alloc (.cells tab 28) = W at *
  generalize w4.heap.size = B at *
  refine (seal_any _ P _ hPW (by omega)).mono ?_
  rintro e w5 ⟨v5, rfl, hown5, hb5⟩
  obtain ⟨q, hqe⟩ : ∃ q, q = P ++ lows (crc8 P) := ⟨_, rfl⟩
  rw [← hqe] at hown5
  have hql : q.length = P.length + 4 := by rw [hqe, List.length_append]; rfl
  have hqi : (4 : Int) ≤ q.length := by omega
  have hqj : (q.length : Int) ≤ 304 := by omega
  obtain ⟨g, c, rfl, hbg, hg5, hcq⟩ := hown5.shape (by intro h; rw [h] at hql; simp at hql)
  have HQL := Lib.hid hql
  have HQE := Lib.hid hqe
  have hmod : ((sat : Int) % (8 * (q.length : Int))) = ((sat % (8 * q.length) : Nat) : Int) := by simp
  have hsl : sat % (8 * q.length) < 8 * q.length := Nat.mod_lt _ (by omega)
  generalize sat % (8 * q.length) = s at *
  clear hql hqe
  go_wp2
  go_loopw [10, 11, 25] (fun _ _ i wr => ∃ k : Nat, k ≤ 32 ∧ i = .int .i64 k ∧ ShowRel w W B s mask g c q k wr) (fun _ _ i _ => 32 - (intOf i).toNat)
  case atStart => exact ⟨0, by omega, rfl, hown5, hb5⟩
  case round =>
    obtain ⟨k, hk, rfl, hr⟩ := hrel
    by_cases hlt32 : k < 32
    · obtain ⟨b, hbe⟩ : ∃ b, b = s + k := ⟨_, rfl⟩
      have hbi : (s : Int) + k = (b : Int) := by omega
      have hlq : (turns8 s mask k q).length = q.length := length_turns8 _ _ _ _
      by_cases hbit : b < 8 * q.length
      · by_cases hone : mask / 2 ^ k % 2 = 1
        · have hm1 : (((mask : Int) / 2 ^ k).tmod 2 == 1) = true := (mask_bit mask k).trans (by simp [hone])
          obtain ⟨hcell, hfr⟩ := hr.own.cell (b / 8) (by omega)
          have hnext : turns8 s mask (k + 1) q = turn8 (turns8 s mask k q) b := by
            simp only [turns8]; rw [← hbe, if_pos ⟨hbit, hone⟩]
          have hput : turn8 (turns8 s mask k q) b = (turns8 s mask k q).set (b / 8) ((turns8 s mask k q)[b / 8]'(by omega) ^^^ UInt8.ofNat (2 ^ (b % 8))) := by
            unfold turn8
            rw [List.getD_eq_getElem?_getD, List.getElem?_eq_getElem (by omega)]
            rfl
          have hst := hr.own.store (b / 8) ((turns8 s mask k q)[b / 8]'(by omega) ^^^ UInt8.ofNat (2 ^ (b % 8)))
          rw [← hput, ← hnext, turn8_byte _ _ (by omega)] at hst
          have HST := Lib.hid hst
          unfold B8 at hcell
          have hx := ((turns8 s mask k q)[b / 8]'(by omega)).toNat_lt
          generalize ((turns8 s mask k q)[b / 8]'(by omega)).toNat = x at *
          have hb8 : (b : Int) / 8 < q.length := by omega
          have HN := Lib.hid hnext
          have hbel := hr.below
          clear hst hput hone hnext hlq hbe
          go_wp2_with fail
          go_region
          go_wp2
          go_roundw
          case rel =>
            refine ⟨k + 1, by omega, by go_num, ?_, ?_⟩
            · rw [xor_byte x (b % 8) hx (by omega)]
              exact World.ownsRow.drew HST.out.1
            · rw [xor_byte x (b % 8) hx (by omega)]
              exact (hbel.trans HST.out.2).drew
          case measure => simp [intOf]; omega
        · have hm1 : (((mask : Int) / 2 ^ k).tmod 2 == 1) = false := (mask_bit mask k).trans (by simp [hone])
          have hnext : turns8 s mask (k + 1) q = turns8 s mask k q := by
            simp only [turns8]; rw [if_neg (fun h => hone h.2)]
          have hr1 : ShowRel w W B s mask g c q (k + 1) wr := ⟨by rw [hnext]; exact hr.own, hr.below⟩
          clear hone hnext hlq hbe
          go_wp2
          go_roundw
          case rel => exact ⟨k + 1, by omega, by go_num, hr1⟩
          case measure => simp [intOf]; omega
      · have hd : decide ((b : Int) < 8 * (q.length : Int)) = false := by simp; omega
        have hnext : turns8 s mask (k + 1) q = turns8 s mask k q := by
          simp only [turns8]; rw [if_neg (fun h => hbit (by omega))]
        have hr1 : ShowRel w W B s mask g c q (k + 1) wr := ⟨by rw [hnext]; exact hr.own, hr.below⟩
        clear hnext hlq hbe
        go_wp2
        go_roundw
        case rel => exact ⟨k + 1, by omega, by go_num, hr1⟩
        case measure => simp [intOf]; omega
    · have e32 : k = 32 := by omega
      subst e32
      obtain ⟨q', hqe'⟩ : ∃ q', q' = turns8 s mask 32 q := ⟨_, rfl⟩
      have hown := hr.own
      have hbr := hr.below
      rw [← hqe'] at hown
      have hql' : q'.length = q.length := by rw [hqe', length_turns8]
      have hQ' := hown.bytes
      have hPr := hPW.below hbr
      have HSr := Lib.hid (rangeAt_keep HS.out hlt hbr)
      have hplain := shows_plain P s mask q' (by rw [hqe', HQE.out])
      have htk : q = q.take P.length ++ lows (crc8 (q.take P.length)) := by
        have := HQE.out
        rw [this]; simp
      rw [← HQE.out] at hplain
      have HQ' := Lib.hid (hql'.trans HQL.out)
      have HP := Lib.hid hplain
      have HTK := Lib.hid htk
      clear hr hqe' hown hql' hown5 hplain htk HS hlt32
      go_wp2_with (with_reducible refine wpList_load_mid rfl 28 _ rfl B 0 rfl tabL _ HSr.out hu.out rfl HI.out ?_)
      refine (open_long _ q' P.length _ hQ' HQ'.out (by rw [HQ'.out]; omega)).mono ?_
      rintro e w6 ⟨hb6, hpost⟩
      have hQ6 := hQ'.below hb6
      have hP6 := hPr.below hb6
      have hbr6 := btr hbr hb6
      have HS6 := Lib.hid (rangeAt_keep HSr.out (Nat.lt_of_lt_of_le hlt hbr.size) hb6)
      clear hQ' hPr HSr hb6
      rcases hpost with ⟨hsame, v6, rfl, -⟩ | ⟨hdiff, rfl⟩
      · have heq : q' = q := HP.out hsame
        have HEQ := Lib.hid heq
        clear heq hsame HP HTK
        go_wp2_with (with_reducible refine wpList_load_mid rfl 28 _ rfl B 0 rfl tabL _ HS6.out hu.out rfl HI.out ?_)
        refine (seal_any _ P _ hP6 (by omega)).mono ?_
        rintro e w7 ⟨v7, rfl, hown7, hb7⟩
        go_wp2_with fail
        refine (same_any _ _ _ _ _ (hQ6.below hb7) hown7.bytes).mono ?_
        rintro e w8 ⟨rfl, n8, rfl⟩
        have ht : decide (q' = P ++ lows (crc8 P)) = true := by rw [HEQ.out, HQE.out]; simp
        rw [ht]
        have hfin := btr hbW (btr hbr6 (bdn hb7 n8))
        clear ht hown7 hb7 hQ6 hP6 HS6
        go_wp2
        go_ret
        exact ⟨rfl, hfin⟩
      · have hne : q' ≠ q := by
          intro h
          subst h
          exact hdiff HTK.out
        have HNE := Lib.hid hne
        clear hne hdiff HP HTK
        go_wp2_with (with_reducible refine wpList_load_mid rfl 28 _ rfl B 0 rfl tabL _ HS6.out hu.out rfl HI.out ?_)
        refine (seal_any _ P _ hP6 (by omega)).mono ?_
        rintro e w7 ⟨v7, rfl, hown7, hb7⟩
        go_wp2_with fail
        refine (same_any _ _ _ _ _ (hQ6.below hb7) hown7.bytes).mono ?_
        rintro e w8 ⟨rfl, n8, rfl⟩
        have ht : decide (q' = P ++ lows (crc8 P)) = false := by rw [← HQE.out]; exact decide_eq_false HNE.out
        rw [ht]
        have hfin := btr hbW (btr hbr6 (bdn hb7 n8))
        clear ht hown7 hb7 hQ6 hP6 HS6
        go_wp2
        go_ret
        exact ⟨rfl, hfin⟩
end Go.Proofs.Ytbbhbbcbaliplaa
