/- SumSeals: what is sealed is opened again; any bytes are opened just if their last four are the sum. -/
import Derived.Test.YtbbhbbcbaliplaaAwake
import Derived.Test.YtbbhbbcbaliplaaRefOpen
namespace Go.Proofs.Ytbbhbbcbaliplaa
open Go.RowKit

set_option maxRecDepth 10000 in
set_option maxHeartbeats 1000000 in
theorem seals_short (v u : Value) (p raw P R : List UInt8) (w : World) (hv : Bytes w v p) (hraw : Bytes w u raw) (hPe : P = p.take (200 : Int).toNat) (hRe : R = raw.take (20 : Int).toNat) (h4 : R.length < 4) :
    Calls Try.prog 5 #[v, u] w fun e w' => e = .returned (.bool true) ∧ Below w.heap.size w w' := by
  have hPl : P.length ≤ 200 := by rw [hPe]; simp; omega
  have hRl : R.length ≤ 20 := by rw [hRe]; simp; omega
  go_enter Try.func5, Try.ntmps5
  go_wp2_with fail
  refine (awake_any _).mono ?_
  rintro e w1 ⟨rfl, hb1⟩
  have hv1 := hv.below hb1
  have hu1 := hraw.below hb1
  go_wp2_with fail
  refine (cut_any _ p 200 (by omega) (by omega) _ hv1).mono ?_
  rintro e w2 ⟨v2, rfl, hown2, hb2⟩
  have hb2' := btr hb1 hb2
  have hP2 := hown2.bytes
  have hu2 := hu1.below hb2
  go_wp2_with fail
  refine (cut_any _ raw 20 (by omega) (by omega) _ hu2).mono ?_
  rintro e w3 ⟨v3, rfl, hown3, hb3⟩
  have hb3' := btr hb2' hb3
  have hP3 := hP2.below hb3
  have hR3 := hown3.bytes
  rw [← hPe] at hP3
  rw [← hRe] at hR3
  clear hPe hRe
  clear hb1 hv1 hu1 hb2 hP2 hu2 hb3 hown2 hown3 hv hraw hb2'
  go_wp2_with fail
  refine (make_any _).mono ?_
  rintro e w4 ⟨rfl, hb4⟩
  have hb4' := btr hb3' hb4
  have hP4 := hP3.below hb4
  have hR4 := hR3.below hb4
  clear hb4 hP3 hR3 hb3'
  obtain ⟨z, hzs, hz⟩ := zero256
  have HZ := Lib.hid (hzs.trans size_tab.symm)
  clear hzs
  have hit : (Try.prog.info? 28).map (·.size) = some tabL.length := by rw [size_tabL]; exact info_tab
  have HI := Lib.hid hit
  have hit2 : (Try.prog.info? 28).map (·.size) = some tab.size := by rw [size_tab]; exact info_tab
  have HI2 := Lib.hid hit2
  clear hit2
  have HB := Lib.hid tab_cells
  have hu := Lib.hid Try.underlying28
  clear hit
  have hbW := bal hb4' (.cells tab 28)
  have hPW := hP4.below (bal (bre _) (.cells tab 28))
  have hRW := hR4.below (bal (bre _) (.cells tab 28))
  have hSW : (w4.alloc (.cells tab 28)).rangeAt w4.heap.size 0 tabL := rangeAt_new w4 tabL _ _ rfl
  have hlt : w4.heap.size < (w4.alloc (.cells tab 28)).heap.size := by simp
  have HS := Lib.hid hSW
  clear hP4 hR4 hb4' hSW
  go_wp2_with (first | (with_reducible refine wpList_store_new rfl 28 _ _ rfl z tab w4.heap.size rfl rfl rfl HI2.out HZ.out HB.out ?_) | (with_reducible refine wpList_load_mid rfl 28 _ rfl w4.heap.size 0 rfl tabL _ HS.out hu.out rfl HI.out ?_))
  clear hz HZ HB
  generalize w4.alloc (.cells tab 28) = W at *
  generalize w4.heap.size = B at *
  refine (seal_any _ P _ hPW (by omega)).mono ?_
  rintro e w5 ⟨v5, rfl, hown5, hb5⟩
  have hQ5 := hown5.bytes
  have HS5 := Lib.hid (rangeAt_keep HS.out hlt hb5)
  go_wp2_with (with_reducible refine wpList_load_mid rfl 28 _ rfl B 0 rfl tabL _ HS5.out hu.out rfl HI.out ?_)
  refine (open_long _ _ P.length _ hQ5 (by rw [List.length_append]; rfl) (by rw [List.length_append]; show _ + 4 ≤ _; omega)).mono ?_
  rintro e w6 ⟨hb6, hpost⟩
  have htk : (P ++ lows (crc8 P)).take P.length = P := by simp
  rw [htk] at hpost
  rcases hpost with ⟨-, v6, rfl, hown6⟩ | ⟨hbad, -⟩
  case inr => exact absurd rfl hbad
  have hbW6 := btr hb5 hb6
  have HS6 := Lib.hid (rangeAt_keep HS.out hlt hbW6)
  have hX6 := hown6.bytes
  have hQ6 := hQ5.below hb6
  have hP6 := hPW.below hbW6
  have hR6 := hRW.below hbW6
  clear hown6 hown5 hQ5 hPW hRW htk HS5 HS hb6 hb5
  go_wp2_with (with_reducible refine wpList_load_mid rfl 28 _ rfl B 0 rfl tabL _ HS6.out hu.out rfl HI.out ?_)
  clear HS6
  refine (open_short _ R _ hR6 h4).mono ?_
  rintro e w7 ⟨rfl, hb7⟩
  have hQ7 := hQ6.below hb7
  have hP7 := hP6.below hb7
  have hR7 := hR6.below hb7
  have hX7 := hX6.below hb7
  clear hQ6 hP6 hR6 hX6
  obtain ⟨a, c, rfl, _, _, _, _⟩ := id hR7
  have h4i : (R.length : Int) < 4 := by omega
  have hb7 := btr hbW (btr hbW6 hb7)
  go_wp2_with fail
  refine (rseal_any _ P _ hP7 (by omega)).mono ?_
  rintro e w8 ⟨v8, rfl, hown8, hb8⟩
  have hT8 := hown8.bytes
  go_wp2_with fail
  refine (same_any _ _ _ _ _ (hQ7.below hb8) hT8).mono ?_
  rintro e w9 ⟨rfl, n9, rfl⟩
  have ht : decide (P ++ lows (crc8 P) = P ++ lows (crc8 P)) = true := by simp
  rw [ht]
  clear ht
  go_wp2_with fail
  refine (same_any _ _ P P _ (hX7.below (bdn hb8 n9)) (hP7.below (bdn hb8 n9))).mono ?_
  rintro e w10 ⟨rfl, n10, rfl⟩
  have hb10 := btr hb7 (bdn hb8 (n9 + n10))
  have ht : decide (P = P) = true := by simp
  rw [ht]
  clear ht
  clear hb8 hT8 hown8
  go_wp2
  go_ret
  exact ⟨rfl, hb10⟩

set_option maxRecDepth 10000 in
set_option maxHeartbeats 1000000 in
theorem seals_good (v u : Value) (p raw P R : List UInt8) (w : World) (hv : Bytes w v p) (hraw : Bytes w u raw) (hPe : P = p.take (200 : Int).toNat) (hRe : R = raw.take (20 : Int).toNat) (m : Nat) (hm : R.length = m + 4) (hgood : R.drop m = lows (crc8 (R.take m))) :
    Calls Try.prog 5 #[v, u] w fun e w' => e = .returned (.bool true) ∧ Below w.heap.size w w' := by
  have hPl : P.length ≤ 200 := by rw [hPe]; simp; omega
  have hRl : R.length ≤ 20 := by rw [hRe]; simp; omega
  go_enter Try.func5, Try.ntmps5
  go_wp2_with fail
  refine (awake_any _).mono ?_
  rintro e w1 ⟨rfl, hb1⟩
  have hv1 := hv.below hb1
  have hu1 := hraw.below hb1
  go_wp2_with fail
  refine (cut_any _ p 200 (by omega) (by omega) _ hv1).mono ?_
  rintro e w2 ⟨v2, rfl, hown2, hb2⟩
  have hb2' := btr hb1 hb2
  have hP2 := hown2.bytes
  have hu2 := hu1.below hb2
  go_wp2_with fail
  refine (cut_any _ raw 20 (by omega) (by omega) _ hu2).mono ?_
  rintro e w3 ⟨v3, rfl, hown3, hb3⟩
  have hb3' := btr hb2' hb3
  have hP3 := hP2.below hb3
  have hR3 := hown3.bytes
  rw [← hPe] at hP3
  rw [← hRe] at hR3
  clear hPe hRe
  clear hb1 hv1 hu1 hb2 hP2 hu2 hb3 hown2 hown3 hv hraw hb2'
  go_wp2_with fail
  refine (make_any _).mono ?_
  rintro e w4 ⟨rfl, hb4⟩
  have hb4' := btr hb3' hb4
  have hP4 := hP3.below hb4
  have hR4 := hR3.below hb4
  clear hb4 hP3 hR3 hb3'
  obtain ⟨z, hzs, hz⟩ := zero256
  have HZ := Lib.hid (hzs.trans size_tab.symm)
  clear hzs
  have hit : (Try.prog.info? 28).map (·.size) = some tabL.length := by rw [size_tabL]; exact info_tab
  have HI := Lib.hid hit
  have hit2 : (Try.prog.info? 28).map (·.size) = some tab.size := by rw [size_tab]; exact info_tab
  have HI2 := Lib.hid hit2
  clear hit2
  have HB := Lib.hid tab_cells
  have hu := Lib.hid Try.underlying28
  clear hit
  have hbW := bal hb4' (.cells tab 28)
  have hPW := hP4.below (bal (bre _) (.cells tab 28))
  have hRW := hR4.below (bal (bre _) (.cells tab 28))
  have hSW : (w4.alloc (.cells tab 28)).rangeAt w4.heap.size 0 tabL := rangeAt_new w4 tabL _ _ rfl
  have hlt : w4.heap.size < (w4.alloc (.cells tab 28)).heap.size := by simp
  have HS := Lib.hid hSW
  clear hP4 hR4 hb4' hSW
  go_wp2_with (first | (with_reducible refine wpList_store_new rfl 28 _ _ rfl z tab w4.heap.size rfl rfl rfl HI2.out HZ.out HB.out ?_) | (with_reducible refine wpList_load_mid rfl 28 _ rfl w4.heap.size 0 rfl tabL _ HS.out hu.out rfl HI.out ?_))
  clear hz HZ HB
  generalize w4.alloc (.cells tab 28) = W at *
  generalize w4.heap.size = B at *
  refine (seal_any _ P _ hPW (by omega)).mono ?_
  rintro e w5 ⟨v5, rfl, hown5, hb5⟩
  have hQ5 := hown5.bytes
  have HS5 := Lib.hid (rangeAt_keep HS.out hlt hb5)
  go_wp2_with (with_reducible refine wpList_load_mid rfl 28 _ rfl B 0 rfl tabL _ HS5.out hu.out rfl HI.out ?_)
  refine (open_long _ _ P.length _ hQ5 (by rw [List.length_append]; rfl) (by rw [List.length_append]; show _ + 4 ≤ _; omega)).mono ?_
  rintro e w6 ⟨hb6, hpost⟩
  have htk : (P ++ lows (crc8 P)).take P.length = P := by simp
  rw [htk] at hpost
  rcases hpost with ⟨-, v6, rfl, hown6⟩ | ⟨hbad, -⟩
  case inr => exact absurd rfl hbad
  have hbW6 := btr hb5 hb6
  have HS6 := Lib.hid (rangeAt_keep HS.out hlt hbW6)
  have hX6 := hown6.bytes
  have hQ6 := hQ5.below hb6
  have hP6 := hPW.below hbW6
  have hR6 := hRW.below hbW6
  clear hown6 hown5 hQ5 hPW hRW htk HS5 HS hb6 hb5
  go_wp2_with (with_reducible refine wpList_load_mid rfl 28 _ rfl B 0 rfl tabL _ HS6.out hu.out rfl HI.out ?_)
  clear HS6
  refine (open_long _ R m _ hR6 hm (by omega)).mono ?_
  rintro e w7 ⟨hb7, hpost⟩
  have hsplit : R = R.take m ++ lows (crc8 (R.take m)) := by rw [← hgood, List.take_append_drop]
  rcases hpost with ⟨-, v7, rfl, hown7⟩ | ⟨hbad, -⟩
  case inr => exact absurd hsplit hbad
  clear hsplit
  have hQ7 := hQ6.below hb7
  have hP7 := hP6.below hb7
  have hR7 := hR6.below hb7
  have hX7 := hX6.below hb7
  clear hQ6 hP6 hR6 hX6
  have hY7 := hown7.bytes
  clear hown7
  obtain ⟨a, c, rfl, _, hcap, _, _⟩ := id hR7
  have hb7 := btr hbW (btr hbW6 hb7)
  have hcm : m + 4 ≤ c := by omega
  have hR8 := hR7
  rw [hm] at hR8 ⊢
  have HM := Lib.hid hm
  have hml : (m : Int) ≤ 20 := by omega
  have hmc : (m : Int) ≤ c := by omega
  clear hm hcap
  go_wp2_with fail
  refine (ropen_long _ R m _ hR8 HM.out (by omega)).mono ?_
  rintro e w71 ⟨rfl, hb71⟩
  rw [show decide (R.drop m = lows (crc8 (R.take m))) = true from by simpa using hgood]
  have hb7 := btr hb7 hb71
  have hQ7 := hQ7.below hb71
  have hP7 := hP7.below hb71
  have hX7 := hX7.below hb71
  have hR7 : Bytes w71 (.slice a m c) (R.take m) := (hR8.below hb71).firsts m (by have := HM.out; omega)
  have hY7 := hY7.below hb71
  clear hb71 hR8
  go_wp2_with fail
  refine (rseal_any _ P _ hP7 (by omega)).mono ?_
  rintro e w8 ⟨v8, rfl, hown8, hb8⟩
  have hT8 := hown8.bytes
  go_wp2_with fail
  refine (same_any _ _ _ _ _ (hQ7.below hb8) hT8).mono ?_
  rintro e w9 ⟨rfl, n9, rfl⟩
  have ht : decide (P ++ lows (crc8 P) = P ++ lows (crc8 P)) = true := by simp
  rw [ht]
  clear ht
  go_wp2_with fail
  refine (same_any _ _ P P _ (hX7.below (bdn hb8 n9)) (hP7.below (bdn hb8 n9))).mono ?_
  rintro e w10 ⟨rfl, n10, rfl⟩
  have hb10 := btr hb7 (bdn hb8 (n9 + n10))
  have ht : decide (P = P) = true := by simp
  rw [ht]
  clear ht
  have hY9 := hY7.below (bdn hb8 (n9 + n10))
  have hR9 := hR7.below (bdn hb8 (n9 + n10))
  clear hT8 hown8
  go_wp2_with fail
  refine (same_any _ _ _ _ _ hY9 hR9).mono ?_
  rintro e w11 ⟨rfl, n11, rfl⟩
  have hb11 := btr hb7 (bdn hb8 (n9 + n10 + n11))
  have ht : decide (R.take m = R.take m) = true := by simp
  rw [ht]
  clear ht
  go_wp2
  go_ret
  exact ⟨rfl, hb11⟩

set_option maxRecDepth 10000 in
set_option maxHeartbeats 1000000 in
theorem seals_bad (v u : Value) (p raw P R : List UInt8) (w : World) (hv : Bytes w v p) (hraw : Bytes w u raw) (hPe : P = p.take (200 : Int).toNat) (hRe : R = raw.take (20 : Int).toNat) (m : Nat) (hm : R.length = m + 4) (hgood : R.drop m ≠ lows (crc8 (R.take m))) :
    Calls Try.prog 5 #[v, u] w fun e w' => e = .returned (.bool true) ∧ Below w.heap.size w w' := by
  have hPl : P.length ≤ 200 := by rw [hPe]; simp; omega
  have hRl : R.length ≤ 20 := by rw [hRe]; simp; omega
  go_enter Try.func5, Try.ntmps5
  go_wp2_with fail
  refine (awake_any _).mono ?_
  rintro e w1 ⟨rfl, hb1⟩
  have hv1 := hv.below hb1
  have hu1 := hraw.below hb1
  go_wp2_with fail
  refine (cut_any _ p 200 (by omega) (by omega) _ hv1).mono ?_
  rintro e w2 ⟨v2, rfl, hown2, hb2⟩
  have hb2' := btr hb1 hb2
  have hP2 := hown2.bytes
  have hu2 := hu1.below hb2
  go_wp2_with fail
  refine (cut_any _ raw 20 (by omega) (by omega) _ hu2).mono ?_
  rintro e w3 ⟨v3, rfl, hown3, hb3⟩
  have hb3' := btr hb2' hb3
  have hP3 := hP2.below hb3
  have hR3 := hown3.bytes
  rw [← hPe] at hP3
  rw [← hRe] at hR3
  clear hPe hRe
  clear hb1 hv1 hu1 hb2 hP2 hu2 hb3 hown2 hown3 hv hraw hb2'
  go_wp2_with fail
  refine (make_any _).mono ?_
  rintro e w4 ⟨rfl, hb4⟩
  have hb4' := btr hb3' hb4
  have hP4 := hP3.below hb4
  have hR4 := hR3.below hb4
  clear hb4 hP3 hR3 hb3'
  obtain ⟨z, hzs, hz⟩ := zero256
  have HZ := Lib.hid (hzs.trans size_tab.symm)
  clear hzs
  have hit : (Try.prog.info? 28).map (·.size) = some tabL.length := by rw [size_tabL]; exact info_tab
  have HI := Lib.hid hit
  have hit2 : (Try.prog.info? 28).map (·.size) = some tab.size := by rw [size_tab]; exact info_tab
  have HI2 := Lib.hid hit2
  clear hit2
  have HB := Lib.hid tab_cells
  have hu := Lib.hid Try.underlying28
  clear hit
  have hbW := bal hb4' (.cells tab 28)
  have hPW := hP4.below (bal (bre _) (.cells tab 28))
  have hRW := hR4.below (bal (bre _) (.cells tab 28))
  have hSW : (w4.alloc (.cells tab 28)).rangeAt w4.heap.size 0 tabL := rangeAt_new w4 tabL _ _ rfl
  have hlt : w4.heap.size < (w4.alloc (.cells tab 28)).heap.size := by simp
  have HS := Lib.hid hSW
  clear hP4 hR4 hb4' hSW
  go_wp2_with (first | (with_reducible refine wpList_store_new rfl 28 _ _ rfl z tab w4.heap.size rfl rfl rfl HI2.out HZ.out HB.out ?_) | (with_reducible refine wpList_load_mid rfl 28 _ rfl w4.heap.size 0 rfl tabL _ HS.out hu.out rfl HI.out ?_))
  clear hz HZ HB
  generalize w4.alloc (.cells tab 28) = W at *
  generalize w4.heap.size = B at *
  refine (seal_any _ P _ hPW (by omega)).mono ?_
  rintro e w5 ⟨v5, rfl, hown5, hb5⟩
  have hQ5 := hown5.bytes
  have HS5 := Lib.hid (rangeAt_keep HS.out hlt hb5)
  go_wp2_with (with_reducible refine wpList_load_mid rfl 28 _ rfl B 0 rfl tabL _ HS5.out hu.out rfl HI.out ?_)
  refine (open_long _ _ P.length _ hQ5 (by rw [List.length_append]; rfl) (by rw [List.length_append]; show _ + 4 ≤ _; omega)).mono ?_
  rintro e w6 ⟨hb6, hpost⟩
  have htk : (P ++ lows (crc8 P)).take P.length = P := by simp
  rw [htk] at hpost
  rcases hpost with ⟨-, v6, rfl, hown6⟩ | ⟨hbad, -⟩
  case inr => exact absurd rfl hbad
  have hbW6 := btr hb5 hb6
  have HS6 := Lib.hid (rangeAt_keep HS.out hlt hbW6)
  have hX6 := hown6.bytes
  have hQ6 := hQ5.below hb6
  have hP6 := hPW.below hbW6
  have hR6 := hRW.below hbW6
  clear hown6 hown5 hQ5 hPW hRW htk HS5 HS hb6 hb5
  go_wp2_with (with_reducible refine wpList_load_mid rfl 28 _ rfl B 0 rfl tabL _ HS6.out hu.out rfl HI.out ?_)
  clear HS6
  refine (open_long _ R m _ hR6 hm (by omega)).mono ?_
  rintro e w7 ⟨hb7, hpost⟩
  rcases hpost with ⟨hsplit, -⟩ | ⟨-, rfl⟩
  case inl =>
    exact absurd (List.append_cancel_left ((List.take_append_drop m R).trans hsplit)) hgood
  have hQ7 := hQ6.below hb7
  have hP7 := hP6.below hb7
  have hR7 := hR6.below hb7
  have hX7 := hX6.below hb7
  clear hQ6 hP6 hR6 hX6
  obtain ⟨a, c, rfl, _, hcap, _, _⟩ := id hR7
  have hb7 := btr hbW (btr hbW6 hb7)
  have hcm : m + 4 ≤ c := by omega
  have hR8 := hR7
  rw [hm] at hR8 ⊢
  have HM := Lib.hid hm
  have hml : (m : Int) ≤ 20 := by omega
  have hmc : (m : Int) ≤ c := by omega
  clear hm hcap
  go_wp2_with fail
  refine (ropen_long _ R m _ hR8 HM.out (by omega)).mono ?_
  rintro e w71 ⟨rfl, hb71⟩
  rw [show decide (R.drop m = lows (crc8 (R.take m))) = false from by simpa using hgood]
  have hb7 := btr hb7 hb71
  have hQ7 := hQ7.below hb71
  have hP7 := hP7.below hb71
  have hX7 := hX7.below hb71
  have hR7 := hR8.below hb71
  clear hb71 hR8
  go_wp2_with fail
  refine (rseal_any _ P _ hP7 (by omega)).mono ?_
  rintro e w8 ⟨v8, rfl, hown8, hb8⟩
  have hT8 := hown8.bytes
  go_wp2_with fail
  refine (same_any _ _ _ _ _ (hQ7.below hb8) hT8).mono ?_
  rintro e w9 ⟨rfl, n9, rfl⟩
  have ht : decide (P ++ lows (crc8 P) = P ++ lows (crc8 P)) = true := by simp
  rw [ht]
  clear ht
  go_wp2_with fail
  refine (same_any _ _ P P _ (hX7.below (bdn hb8 n9)) (hP7.below (bdn hb8 n9))).mono ?_
  rintro e w10 ⟨rfl, n10, rfl⟩
  have hb10 := btr hb7 (bdn hb8 (n9 + n10))
  have ht : decide (P = P) = true := by simp
  rw [ht]
  clear ht
  clear hb8 hT8 hown8
  go_wp2
  go_ret
  exact ⟨rfl, hb10⟩

theorem seals_calls (v u : Value) (p raw : List UInt8) (w : World) (hv : Bytes w v p) (hraw : Bytes w u raw) :
    Calls Try.prog 5 #[v, u] w fun e w' => e = .returned (.bool true) ∧ Below w.heap.size w w' := by
  obtain ⟨P, hP⟩ : ∃ P, P = p.take (200 : Int).toNat := ⟨_, rfl⟩
  obtain ⟨R, hR⟩ : ∃ R, R = raw.take (20 : Int).toNat := ⟨_, rfl⟩
  by_cases h4 : R.length < 4
  · exact seals_short v u p raw P R w hv hraw hP hR h4
  · obtain ⟨m, hm⟩ : ∃ m, R.length = m + 4 := ⟨R.length - 4, by omega⟩
    by_cases hg : R.drop m = lows (crc8 (R.take m))
    · exact seals_good v u p raw P R w hv hraw hP hR m hm hg
    · exact seals_bad v u p raw P R w hv hraw hP hR m hm hg

end Go.Proofs.Ytbbhbbcbaliplaa
