/- DiskKeeps: what is safe survives each crash; what waits and isn't kept is gone. -/
import Derived.Test.YtkonjjanoifinaaDkArgs
import Derived.Test.YtkonjjanoifinaaSame
namespace Go.Proofs.Ytkonjjanoifinaa
open Go.RowKit

def keepsD (a b : Nat) (P Q : List UInt8) : Dk := (((Dk.new 8).wrote a P).synced).wrote b Q

theorem keeps_safe (a : Nat) (P : List UInt8) : (((Dk.new 8).wrote a P).synced).safe = (List.replicate 8 blank512).set a P := rfl
theorem keeps_dnow (a b : Nat) (P Q : List UInt8) : (keepsD a b P Q).now b = Q := by
  show (if b = b then Q else _) = Q
  rw [if_pos rfl]
theorem keeps_crash (a b : Nat) (P Q : List UInt8) (keep : Bool) : (keepsD a b P Q).crashed [keep] = ⟨if keep then ((List.replicate 8 blank512).set a P).set b Q else (List.replicate 8 blank512).set a P, [], 0, false, 0⟩ := by
  cases keep <;> rfl
theorem set_getD (l : List (List UInt8)) (a i : Nat) (x : List UInt8) (hi : i < l.length) : (l.set a x).getD i [] = if a = i then x else l.getD i [] := by
  rw [List.getD_eq_getElem?_getD, List.getD_eq_getElem?_getD]
  by_cases h : a = i
  · subst h; rw [if_pos rfl, List.getElem?_set_self hi]; rfl
  · rw [if_neg h, List.getElem?_set_ne h]
theorem repl_getD (i : Nat) (hi : i < 8) : (List.replicate 8 blank512).getD i [] = blank512 := by
  rw [List.getD_eq_getElem?_getD, List.getElem?_replicate, if_pos hi]; rfl

/-- what a crash leaves of the first, of the second sector -/
def keepsA (a b : Nat) (P Q : List UInt8) (keep : Bool) : List UInt8 := if a = b ∧ keep = true then Q else P
def keepsB (a b : Nat) (P Q : List UInt8) (keep : Bool) : List UInt8 := if keep = true then Q else if a = b then P else blank512

theorem keeps_a (a b : Nat) (P Q : List UInt8) (keep : Bool) (ha : a < 8) : ((keepsD a b P Q).crashed [keep]).now a = keepsA a b P Q keep := by
  rw [keeps_crash]
  show (if keep then ((List.replicate 8 blank512).set a P).set b Q else (List.replicate 8 blank512).set a P).getD a [] = _
  unfold keepsA
  cases keep
  · simp only [Bool.false_eq_true, if_false, and_false]
    rw [set_getD _ _ _ _ (by simp; omega), if_pos rfl]
  · simp only [if_true, and_true]
    rw [set_getD _ _ _ _ (by simp; omega), set_getD _ _ _ _ (by simp; omega), if_pos rfl]
    by_cases h : a = b
    · rw [if_pos h.symm, if_pos h]
    · rw [if_neg (fun e => h e.symm), if_neg h]
theorem keeps_b (a b : Nat) (P Q : List UInt8) (keep : Bool) (hb : b < 8) : ((keepsD a b P Q).crashed [keep]).now b = keepsB a b P Q keep := by
  rw [keeps_crash]
  show (if keep then ((List.replicate 8 blank512).set a P).set b Q else (List.replicate 8 blank512).set a P).getD b [] = _
  unfold keepsB
  cases keep
  · simp only [Bool.false_eq_true, if_false]
    rw [set_getD _ _ _ _ (by simp; omega), repl_getD b hb]
  · simp only [if_true]
    rw [set_getD _ _ _ _ (by simp; omega), if_pos rfl]

set_option maxRecDepth 10000 in
set_option maxHeartbeats 6400000 in
theorem keeps_calls (v0 v1 : Value) (p q : List UInt8) (i j : Nat) (keep : Bool) (w : World) (hp : Bytes w v0 p) (hq : Bytes w v1 q) (hi : i < 256) (hj : j < 256) :
    Calls Try.prog 4 #[v0, v1, .int .u8 i, .int .u8 j, .bool keep] w fun e w' => e = .returned (.bool true) ∧ Below w.heap.size w w' := by
  go_enter Try.func4, Try.ntmps4
  go_wp2_with fail
  refine (awake_any w).mono ?_
  rintro e w1 ⟨rfl, hb1⟩
  go_wp2_with fail
  refine (new_any 8 w1 (by omega) (by omega)).mono ?_
  rintro e w2 ⟨g, F, rfl, hd2, hF2, hb2⟩
  have hF2l := hd2.lt
  have hb02 := btr hb1 hb2
  go_wp2_with fail
  refine (full_any v0 p w2 (hp.below hb02)).mono ?_
  rintro e w3 ⟨vp, rfl, ho3, hb3⟩
  have hy3 := ho3.bytes
  have ha3 := away_own ho3 hF2l
  have hd3 := hd2.below hb3
  have hb03 := btr hb02 hb3
  have hF2l3 := hd3.lt
  go_wp2_with fail
  refine (full_any v1 q w3 (hq.below hb03)).mono ?_
  rintro e w4 ⟨vq, rfl, ho4, hb4⟩
  have hz4 := ho4.bytes
  have ha4 := away_own ho4 hF2l3
  have hy4 := hy3.below hb4
  have hd4 := hd3.below hb4
  have hb04 := btr hb03 hb4
  have hPl := fullOf_length p
  have hQl := fullOf_length q
  have hPn := full_ne p
  have hQn := full_ne q
  generalize fullOf p = P at *
  generalize fullOf q = Q at *
  have hF4 : ∀ k, F k → w.heap.size ≤ k := fun k hk => Nat.le_trans hb1.size (hF2 k hk)
  clear hp hq hb1 hb2 hb02 hb03 hb3 hb4 ho3 ho4 hy3 hd2 hd3 hF2 hF2l hF2l3
  obtain ⟨a, ha⟩ : ∃ a : Nat, a = i % 8 := ⟨_, rfl⟩
  obtain ⟨b, hb⟩ : ∃ b : Nat, b = j % 8 := ⟨_, rfl⟩
  have hai : (i : Int) % 8 = a := by omega
  have hbj : (j : Int) % 8 = b := by omega
  have ha8 : a < 8 := by omega
  have hb8 : b < 8 := by omega
  have HPL := Lib.hid hPl
  have HQL := Lib.hid hQl
  clear ha hb hPl hQl
  go_wp2_with fail
  refine (write_ok g (Dk.new 8) F a vp P w4 hd4 (by simp [Dk.new]; omega) rfl hy4 HPL.out (by simp [Dk.new]) (by simp [Dk.new]) (by simp [Dk.new]) (by simp [Dk.new])).mono ?_
  rintro e w5 ⟨F5, rfl, hd5, hm5⟩
  obtain ⟨hy5, ha5⟩ := moved_bytes hm5 hy4 hPn ha3
  obtain ⟨hz5, haq5⟩ := moved_bytes hm5 hz4 hQn ha4
  have hb05 := hb04.trans (hm5.below hb04.size hF4)
  have hF5 := hm5.ge hb04.size hF4
  clear hy4 hz4 hd4 hm5 hb04 hF4 ha3 ha4
  go_wp2_with fail
  refine (sync_ok g ((Dk.new 8).wrote a P) F5 w5 hd5 rfl (by simp [Dk.new, Dk.wrote]) (by simp [Dk.new, Dk.wrote]) (by simp [Dk.new, Dk.wrote])).mono ?_
  rintro e w6 ⟨F6, rfl, hd6, hm6⟩
  obtain ⟨hy6, ha6⟩ := moved_bytes hm6 hy5 hPn ha5
  obtain ⟨hz6, haq6⟩ := moved_bytes hm6 hz5 hQn haq5
  have hb06 := hb05.trans (hm6.below hb05.size hF5)
  have hF6 := hm6.ge hb05.size hF5
  clear hy5 hz5 hd5 hm6 hb05 hF5 ha5 haq5
  go_wp2_with fail
  refine (write_ok g (((Dk.new 8).wrote a P).synced) F6 b vq Q w6 hd6 (by rw [keeps_safe]; simp; omega) rfl hz6 HQL.out (by simp [Dk.new, Dk.wrote, Dk.synced]) (by simp [Dk.new, Dk.wrote, Dk.synced]) (by simp [Dk.new, Dk.wrote, Dk.synced]) (by simp [Dk.new, Dk.wrote, Dk.synced])).mono ?_
  rintro e w7 ⟨F7, rfl, hd7, hm7⟩
  obtain ⟨hy7, ha7⟩ := moved_bytes hm7 hy6 hPn ha6
  obtain ⟨hz7, haq7⟩ := moved_bytes hm7 hz6 hQn haq6
  have hb07 := hb06.trans (hm7.below hb06.size hF6)
  clear hy6 hz6 hd6 hm7 hb06 hF6 ha6 haq6 ha7 haq7
  have hd7' : DiskAt w7 g (keepsD a b P Q) F7 := hd7
  clear hd7
  go_wp2_with fail
  have hbA := bal (bre w7) (.cells #[.bool keep] 4)
  have hkA := bools_lit1 w7 keep 4 w7.heap.size rfl
  have hd8 := hd7'.below hbA
  have hy8 := hy7.below hbA
  have hz8 := hz7.below hbA
  have hb08 := btr hb07 hbA
  obtain ⟨n7, hn7⟩ : ∃ n7, n7 = w7.heap.size := ⟨_, rfl⟩
  rw [← hn7] at hkA ⊢
  clear hbA hd7' hb07 hn7 hy7 hz7
  generalize w7.alloc (.cells #[.bool keep] 4) = w8 at *
  have hwl : (keepsD a b P Q).wait.length ≤ 1000000 := by show 1 ≤ 1000000; omega
  refine (crash_ok g _ F7 _ [keep] w8 hd8 hkA hwl).mono ?_
  rintro e w9 ⟨gc, F9, rfl, hd9, hF9, hb9⟩
  have hdd9 := hd8.below hb9
  have hy9 := hy8.below hb9
  have hz9 := hz8.below hb9
  have hb09 := btr hb08 hb9
  have hA := keeps_a a b P Q keep ha8
  have hB := keeps_b a b P Q keep hb8
  have hcl : ((keepsD a b P Q).crashed [keep]).safe.length = 8 := by rw [keeps_crash]; cases keep <;> simp
  have hcw : ((keepsD a b P Q).crashed [keep]).wait = [] := rfl
  have hdl : (keepsD a b P Q).safe.length = 8 := by show ((List.replicate 8 blank512).set a P).length = 8; simp
  have hD := keeps_dnow a b P Q
  have hdw : ((keepsD a b P Q).wait.map (·.1)).length = 1 := rfl
  generalize (keepsD a b P Q).crashed [keep] = dc at *
  generalize keepsD a b P Q = dd at *
  clear hd8 hb08 hb9 hy8 hz8 hkA hF9
  have HA := Lib.hid hA
  have HB := Lib.hid hB
  have HD := Lib.hid hD
  have HCW := Lib.hid hcw
  have HDW := Lib.hid hdw
  clear hA hB hD hcw hdw
  go_wp2_with fail
  refine (dread_ok gc dc F9 a w9 hd9 (by omega) (by rw [HCW.out]; simp)).mono ?_
  rintro e w10 ⟨x, rfl, hx10, hb10⟩
  have hxx := hx10.bytes
  rw [HA.out] at hxx
  have hd10 := hd9.below hb10
  have hdd10 := hdd9.below hb10
  have hy10 := hy9.below hb10
  have hz10 := hz9.below hb10
  have hb010 := btr hb09 hb10
  clear hx10 hd9 hdd9 hy9 hz9 hb09 hb10
  go_wp2_with fail
  refine (dread_ok gc dc F9 b w10 hd10 (by omega) (by rw [HCW.out]; simp)).mono ?_
  rintro e w11 ⟨y, rfl, hy11, hb11⟩
  have hyy := hy11.bytes
  rw [HB.out] at hyy
  have hd11 := hd10.below hb11
  have hdd11 := hdd10.below hb11
  have hp11 := hy10.below hb11
  have hq11 := hz10.below hb11
  have hx11 := hxx.below hb11
  have hb011 := btr hb010 hb11
  clear hy11 hd10 hdd10 hy10 hz10 hb010 hb11 hxx
  go_wp2_with fail
  refine (dread_ok g dd F7 b w11 hdd11 (by omega) hwl).mono ?_
  rintro e w12 ⟨z, rfl, hz12, hb12⟩
  have hzz := hz12.bytes
  rw [HD.out] at hzz
  have hd12 := hd11.below hb12
  have hdd12 := hdd11.below hb12
  have hp12 := hp11.below hb12
  have hq12 := hq11.below hb12
  have hx12 := hx11.below hb12
  have hy12 := hyy.below hb12
  have hb012 := btr hb011 hb12
  clear hz12 hd11 hdd11 hp11 hq11 hb011 hb12 hx11 hyy HA HB HD
  have hmk : Hid (blank512 = List.replicate 512 0) := Lib.hid rfl
  by_cases hab : a = b
  · subst hab
    have hke : keepsA a a P Q keep = if keep = true then Q else P := by unfold keepsA; simp
    have hkb : keepsB a a P Q keep = if keep = true then Q else P := by unfold keepsB; simp
    rw [hke] at hx12
    rw [hkb] at hy12
    clear hke hkb hai hbj
    cases keep
    · simp only [Bool.false_eq_true, if_false] at hx12 hy12
      go_upto_region 17 with (refine wpList_make8 rfl _ _ 22 5 make8 rfl 512 rfl rfl (by omega) ?_; intro w13 hm13 hb13)
      have hmade : Bytes w13 (.slice (some ⟨w12.heap.size, 0, none⟩) 512 512) blank512 := hm13.bytes
      have hd13 := hd12.below hb13
      have hdd13 := hdd12.below hb13
      have hp13 := hp12.below hb13
      have hq13 := hq12.below hb13
      have hx13 := hx12.below hb13
      have hy13 := hy12.below hb13
      have hz13 := hzz.below hb13
      have hb013 := btr hb012 hb13
      clear hm13 hb13 hd12 hdd12 hp12 hq12 hx12 hy12 hzz hb012
      generalize w12.heap.size = n12 at *
      go_wp2_with fail
      refine (same_any _ _ _ _ w13 hx13 hp13).mono ?_
      rintro e w14 ⟨rfl, k14, rfl⟩
      rw [decide_eq_true (by rfl : (_ : List UInt8) = _)]
      have hb14 := bdn (bre w13) k14
      have hd14 := hd13.below hb14
      have hdd14 := hdd13.below hb14
      have hp14 := hp13.below hb14
      have hq14 := hq13.below hb14
      have hy14 := hy13.below hb14
      have hz14 := hz13.below hb14
      have hm14 := hmade.below hb14
      have hb014 := btr hb013 hb14
      clear hb14 hd13 hdd13 hp13 hq13 hx13 hy13 hz13 hmade hb013
      generalize w13.drewN k14 = w14 at *
      go_wp2_with fail
      refine (same_any _ _ _ _ w14 hy14 hp14).mono ?_
      rintro e w15 ⟨rfl, k15, rfl⟩
      rw [decide_eq_true (by rfl : (_ : List UInt8) = _)]
      have hb15 := bdn (bre w14) k15
      have hd15 := hd14.below hb15
      have hdd15 := hdd14.below hb15
      have hq15 := hq14.below hb15
      have hz15 := hz14.below hb15
      have hb015 := btr hb014 hb15
      clear hb15 hd14 hdd14 hp14 hq14 hy14 hz14 hm14 hb014
      generalize w14.drewN k15 = w15 at *
      go_wp2_with fail
      refine (same_any _ _ _ _ w15 hz15 hq15).mono ?_
      rintro e w16 ⟨rfl, k16, rfl⟩
      rw [decide_eq_true (by rfl : (_ : List UInt8) = _)]
      have hb16 := bdn (bre w15) k16
      have hd16 := hd15.below hb16
      have hdd16 := hdd15.below hb16
      have hb016 := btr hb015 hb16
      clear hb16 hd15 hdd15 hq15 hz15 hb015
      generalize w15.drewN k16 = w16 at *
      go_wp2_with fail
      refine (waiting_any gc dc F9 w16 hd16 (by rw [HCW.out]; simp)).mono ?_
      rintro e w17 ⟨v17, rfl, ho17, hb17⟩
      have hdd17 := hdd16.below hb17
      have hb017 := btr hb016 hb17
      rw [HCW.out] at ho17
      obtain ⟨a17, c17, rfl, _⟩ := ownsRow_lies ho17
      clear ho17 hb17 hd16 hdd16 hb016
      go_wp2_with fail
      refine (waiting_any g dd F7 w17 hdd17 hwl).mono ?_
      rintro e w18 ⟨v18, rfl, ho18, hb18⟩
      have hb018 := btr hb017 hb18
      unfold OwnInts at ho18
      rw [HDW.out] at ho18
      obtain ⟨a18, c18, rfl, _⟩ := ownsRow_lies ho18
      clear ho18 hb18 hdd17 hb017
      go_wp2
      go_ret
      exact ⟨rfl, hb018⟩
    · simp only [if_true] at hx12 hy12
      go_upto_region 17 with (refine wpList_make8 rfl _ _ 22 5 make8 rfl 512 rfl rfl (by omega) ?_; intro w13 hm13 hb13)
      have hmade : Bytes w13 (.slice (some ⟨w12.heap.size, 0, none⟩) 512 512) blank512 := hm13.bytes
      have hd13 := hd12.below hb13
      have hdd13 := hdd12.below hb13
      have hp13 := hp12.below hb13
      have hq13 := hq12.below hb13
      have hx13 := hx12.below hb13
      have hy13 := hy12.below hb13
      have hz13 := hzz.below hb13
      have hb013 := btr hb012 hb13
      clear hm13 hb13 hd12 hdd12 hp12 hq12 hx12 hy12 hzz hb012
      generalize w12.heap.size = n12 at *
      go_wp2_with fail
      refine (same_any _ _ _ _ w13 hx13 hq13).mono ?_
      rintro e w14 ⟨rfl, k14, rfl⟩
      rw [decide_eq_true (by rfl : (_ : List UInt8) = _)]
      have hb14 := bdn (bre w13) k14
      have hd14 := hd13.below hb14
      have hdd14 := hdd13.below hb14
      have hp14 := hp13.below hb14
      have hq14 := hq13.below hb14
      have hy14 := hy13.below hb14
      have hz14 := hz13.below hb14
      have hm14 := hmade.below hb14
      have hb014 := btr hb013 hb14
      clear hb14 hd13 hdd13 hp13 hq13 hx13 hy13 hz13 hmade hb013
      generalize w13.drewN k14 = w14 at *
      go_wp2_with fail
      refine (same_any _ _ _ _ w14 hy14 hq14).mono ?_
      rintro e w15 ⟨rfl, k15, rfl⟩
      rw [decide_eq_true (by rfl : (_ : List UInt8) = _)]
      have hb15 := bdn (bre w14) k15
      have hd15 := hd14.below hb15
      have hdd15 := hdd14.below hb15
      have hq15 := hq14.below hb15
      have hz15 := hz14.below hb15
      have hb015 := btr hb014 hb15
      clear hb15 hd14 hdd14 hp14 hq14 hy14 hz14 hm14 hb014
      generalize w14.drewN k15 = w15 at *
      go_wp2_with fail
      refine (same_any _ _ _ _ w15 hz15 hq15).mono ?_
      rintro e w16 ⟨rfl, k16, rfl⟩
      rw [decide_eq_true (by rfl : (_ : List UInt8) = _)]
      have hb16 := bdn (bre w15) k16
      have hd16 := hd15.below hb16
      have hdd16 := hdd15.below hb16
      have hb016 := btr hb015 hb16
      clear hb16 hd15 hdd15 hq15 hz15 hb015
      generalize w15.drewN k16 = w16 at *
      go_wp2_with fail
      refine (waiting_any gc dc F9 w16 hd16 (by rw [HCW.out]; simp)).mono ?_
      rintro e w17 ⟨v17, rfl, ho17, hb17⟩
      have hdd17 := hdd16.below hb17
      have hb017 := btr hb016 hb17
      rw [HCW.out] at ho17
      obtain ⟨a17, c17, rfl, _⟩ := ownsRow_lies ho17
      clear ho17 hb17 hd16 hdd16 hb016
      go_wp2_with fail
      refine (waiting_any g dd F7 w17 hdd17 hwl).mono ?_
      rintro e w18 ⟨v18, rfl, ho18, hb18⟩
      have hb018 := btr hb017 hb18
      unfold OwnInts at ho18
      rw [HDW.out] at ho18
      obtain ⟨a18, c18, rfl, _⟩ := ownsRow_lies ho18
      clear ho18 hb18 hdd17 hb017
      go_wp2
      go_ret
      exact ⟨rfl, hb018⟩
  · have habb : ((a : Int) == b) = false := by simp; omega
    have hke : keepsA a b P Q keep = P := by unfold keepsA; rw [if_neg (fun h => hab h.1)]
    have hkb : keepsB a b P Q keep = if keep = true then Q else blank512 := by unfold keepsB; rw [if_neg hab]
    rw [hke] at hx12
    rw [hkb] at hy12
    clear hke hkb hai hbj
    cases keep
    · simp only [Bool.false_eq_true, if_false] at hy12
      go_upto_region 17 with (refine wpList_make8 rfl _ _ 22 5 make8 rfl 512 rfl rfl (by omega) ?_; intro w13 hm13 hb13)
      have hmade : Bytes w13 (.slice (some ⟨w12.heap.size, 0, none⟩) 512 512) blank512 := hm13.bytes
      have hd13 := hd12.below hb13
      have hdd13 := hdd12.below hb13
      have hp13 := hp12.below hb13
      have hq13 := hq12.below hb13
      have hx13 := hx12.below hb13
      have hy13 := hy12.below hb13
      have hz13 := hzz.below hb13
      have hb013 := btr hb012 hb13
      clear hm13 hb13 hd12 hdd12 hp12 hq12 hx12 hy12 hzz hb012
      generalize w12.heap.size = n12 at *
      go_wp2_with fail
      refine (same_any _ _ _ _ w13 hx13 hp13).mono ?_
      rintro e w14 ⟨rfl, k14, rfl⟩
      rw [decide_eq_true (by rfl : (_ : List UInt8) = _)]
      have hb14 := bdn (bre w13) k14
      have hd14 := hd13.below hb14
      have hdd14 := hdd13.below hb14
      have hp14 := hp13.below hb14
      have hq14 := hq13.below hb14
      have hy14 := hy13.below hb14
      have hz14 := hz13.below hb14
      have hm14 := hmade.below hb14
      have hb014 := btr hb013 hb14
      clear hb14 hd13 hdd13 hp13 hq13 hx13 hy13 hz13 hmade hb013
      generalize w13.drewN k14 = w14 at *
      go_wp2_with fail
      refine (same_any _ _ _ _ w14 hy14 hm14).mono ?_
      rintro e w15 ⟨rfl, k15, rfl⟩
      rw [decide_eq_true (by rfl : (_ : List UInt8) = _)]
      have hb15 := bdn (bre w14) k15
      have hd15 := hd14.below hb15
      have hdd15 := hdd14.below hb15
      have hq15 := hq14.below hb15
      have hz15 := hz14.below hb15
      have hb015 := btr hb014 hb15
      clear hb15 hd14 hdd14 hp14 hq14 hy14 hz14 hm14 hb014
      generalize w14.drewN k15 = w15 at *
      go_wp2_with fail
      refine (same_any _ _ _ _ w15 hz15 hq15).mono ?_
      rintro e w16 ⟨rfl, k16, rfl⟩
      rw [decide_eq_true (by rfl : (_ : List UInt8) = _)]
      have hb16 := bdn (bre w15) k16
      have hd16 := hd15.below hb16
      have hdd16 := hdd15.below hb16
      have hb016 := btr hb015 hb16
      clear hb16 hd15 hdd15 hq15 hz15 hb015
      generalize w15.drewN k16 = w16 at *
      go_wp2_with fail
      refine (waiting_any gc dc F9 w16 hd16 (by rw [HCW.out]; simp)).mono ?_
      rintro e w17 ⟨v17, rfl, ho17, hb17⟩
      have hdd17 := hdd16.below hb17
      have hb017 := btr hb016 hb17
      rw [HCW.out] at ho17
      obtain ⟨a17, c17, rfl, _⟩ := ownsRow_lies ho17
      clear ho17 hb17 hd16 hdd16 hb016
      go_wp2_with fail
      refine (waiting_any g dd F7 w17 hdd17 hwl).mono ?_
      rintro e w18 ⟨v18, rfl, ho18, hb18⟩
      have hb018 := btr hb017 hb18
      unfold OwnInts at ho18
      rw [HDW.out] at ho18
      obtain ⟨a18, c18, rfl, _⟩ := ownsRow_lies ho18
      clear ho18 hb18 hdd17 hb017
      go_wp2
      go_ret
      exact ⟨rfl, hb018⟩
    · simp only [if_true] at hy12
      go_upto_region 17 with (refine wpList_make8 rfl _ _ 22 5 make8 rfl 512 rfl rfl (by omega) ?_; intro w13 hm13 hb13)
      have hmade : Bytes w13 (.slice (some ⟨w12.heap.size, 0, none⟩) 512 512) blank512 := hm13.bytes
      have hd13 := hd12.below hb13
      have hdd13 := hdd12.below hb13
      have hp13 := hp12.below hb13
      have hq13 := hq12.below hb13
      have hx13 := hx12.below hb13
      have hy13 := hy12.below hb13
      have hz13 := hzz.below hb13
      have hb013 := btr hb012 hb13
      clear hm13 hb13 hd12 hdd12 hp12 hq12 hx12 hy12 hzz hb012
      generalize w12.heap.size = n12 at *
      go_wp2_with fail
      refine (same_any _ _ _ _ w13 hx13 hp13).mono ?_
      rintro e w14 ⟨rfl, k14, rfl⟩
      rw [decide_eq_true (by rfl : (_ : List UInt8) = _)]
      have hb14 := bdn (bre w13) k14
      have hd14 := hd13.below hb14
      have hdd14 := hdd13.below hb14
      have hp14 := hp13.below hb14
      have hq14 := hq13.below hb14
      have hy14 := hy13.below hb14
      have hz14 := hz13.below hb14
      have hm14 := hmade.below hb14
      have hb014 := btr hb013 hb14
      clear hb14 hd13 hdd13 hp13 hq13 hx13 hy13 hz13 hmade hb013
      generalize w13.drewN k14 = w14 at *
      go_wp2_with fail
      refine (same_any _ _ _ _ w14 hy14 hq14).mono ?_
      rintro e w15 ⟨rfl, k15, rfl⟩
      rw [decide_eq_true (by rfl : (_ : List UInt8) = _)]
      have hb15 := bdn (bre w14) k15
      have hd15 := hd14.below hb15
      have hdd15 := hdd14.below hb15
      have hq15 := hq14.below hb15
      have hz15 := hz14.below hb15
      have hb015 := btr hb014 hb15
      clear hb15 hd14 hdd14 hp14 hq14 hy14 hz14 hm14 hb014
      generalize w14.drewN k15 = w15 at *
      go_wp2_with fail
      refine (same_any _ _ _ _ w15 hz15 hq15).mono ?_
      rintro e w16 ⟨rfl, k16, rfl⟩
      rw [decide_eq_true (by rfl : (_ : List UInt8) = _)]
      have hb16 := bdn (bre w15) k16
      have hd16 := hd15.below hb16
      have hdd16 := hdd15.below hb16
      have hb016 := btr hb015 hb16
      clear hb16 hd15 hdd15 hq15 hz15 hb015
      generalize w15.drewN k16 = w16 at *
      go_wp2_with fail
      refine (waiting_any gc dc F9 w16 hd16 (by rw [HCW.out]; simp)).mono ?_
      rintro e w17 ⟨v17, rfl, ho17, hb17⟩
      have hdd17 := hdd16.below hb17
      have hb017 := btr hb016 hb17
      rw [HCW.out] at ho17
      obtain ⟨a17, c17, rfl, _⟩ := ownsRow_lies ho17
      clear ho17 hb17 hd16 hdd16 hb016
      go_wp2_with fail
      refine (waiting_any g dd F7 w17 hdd17 hwl).mono ?_
      rintro e w18 ⟨v18, rfl, ho18, hb18⟩
      have hb018 := btr hb017 hb18
      unfold OwnInts at ho18
      rw [HDW.out] at ho18
      obtain ⟨a18, c18, rfl, _⟩ := ownsRow_lies ho18
      clear ho18 hb18 hdd17 hb017
      go_wp2
      go_ret
      exact ⟨rfl, hb018⟩
end Go.Proofs.Ytkonjjanoifinaa
