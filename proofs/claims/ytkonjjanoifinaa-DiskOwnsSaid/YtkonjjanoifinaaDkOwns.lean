/- DiskOwns: what was handed in, and what is told, is nobody else's; copies go their own ways. -/
import Derived.Test.YtkonjjanoifinaaDkRotE
import Derived.Test.YtkonjjanoifinaaSame
namespace Go.Proofs.Ytkonjjanoifinaa
open Go.RowKit

def ownsD (k : Nat) (P : List UInt8) : Dk := (Dk.new 4).wrote k P
def ownsC (k : Nat) (P : List UInt8) : Dk := (((ownsD k P).copied.rotted k 0 1 1).wrote k blank512).synced

theorem set_getD' (l : List (List UInt8)) (a : Nat) (x : List UInt8) (ha : a < l.length) : (l.set a x).getD a [] = x := by
  rw [List.getD_eq_getElem?_getD, List.getElem?_set_self ha]; rfl
theorem full_full (p : List UInt8) : fullOf (fullOf p) = fullOf p := by
  have h := fullOf_length p
  generalize fullOf p = q at h
  unfold fullOf
  rw [List.take_append_of_le_length (by rw [List.length_take]; omega)]
  rw [List.take_of_length_le (by rw [List.length_take]; omega)]
  exact List.take_of_length_le (by omega)

theorem B8_add (b : UInt8) (n : Nat) : Value.int .u8 (((b.toNat : Nat) + (n : Int)) % 256) = B8 (b + UInt8.ofNat n) := by
  unfold B8
  congr 1
  rw [UInt8.toNat_add, UInt8.toNat_ofNat']
  omega

theorem away_own' {w : World} {v : Value} {p : List UInt8} {F : Nat → Prop} (hv : Bytes w v p) (hne : p ≠ []) (hF : ∀ k, F k → w.heap.size ≤ k) : Away v F := away_new hv hne hF

theorem owns_d (k : Nat) (P : List UInt8) : (ownsD k P).now k = P := by
  show (if k = k then P else _) = P
  rw [if_pos rfl]

theorem owns_c (k : Nat) (P : List UInt8) (hk : k < 4) : (ownsC k P).now k = blank512 := by
  show ((syncOf ((List.replicate 4 blank512).set k (turnOf ((List.replicate 4 blank512).getD k []) 0 1 1)) ([(rotW k 0 1 1 (k, P)), (k, blank512)])).getD k []) = _
  unfold rotW
  rw [if_pos rfl]
  show (((List.set (List.replicate 4 blank512) k _).set k _).set k blank512).getD k [] = _
  rw [set_getD' _ _ _ (by simp; exact hk)]

set_option maxRecDepth 10000 in
set_option maxHeartbeats 6400000 in
theorem owns_calls (v0 : Value) (p : List UInt8) (i : Nat) (w : World) (hp : Bytes w v0 p) (hi : i < 256) :
    Calls Try.prog 6 #[v0, .int .u8 i] w fun e w' => e = .returned (.bool true) ∧ Below w.heap.size w w' := by
  go_enter Try.func6, Try.ntmps6
  go_wp2_with fail
  refine (awake_any w).mono ?_
  rintro e w1 ⟨rfl, hb1⟩
  go_wp2_with fail
  refine (full_any v0 p w1 (hp.below hb1)).mono ?_
  rintro e w2 ⟨vp, rfl, ho2, hb2⟩
  have hy2 := ho2.bytes
  have hb02 := btr hb1 hb2
  have hp2 := hp.below hb02
  go_wp2_with fail
  have hPl := fullOf_length p
  have hPn := full_ne p
  generalize hPP : fullOf p = P at *
  refine (full_any vp P w2 hy2).mono ?_
  rintro e w3 ⟨vm, rfl, ho3, hb3⟩
  rw [show fullOf P = P by rw [← hPP]; exact full_full p] at ho3
  have hy3 := hy2.below hb3
  have hy2' := hy2
  have hb02' := hb02.size
  have hb03 := btr hb02 hb3
  obtain ⟨gm, cm, rfl, hgm, hgm2, hcm⟩ := Own8.shape ho3 hPn
  rw [hPl] at ho3 hcm ⊢
  clear hp hp2 hb1 hb2 hb3 hy2 ho2 hb02 hPP
  go_wp2_with fail
  refine (new_any 4 w3 (by omega) (by omega)).mono ?_
  rintro e w4 ⟨g, F, rfl, hd4, hF4, hb4⟩
  have hb04 := btr hb03 hb4
  have hy4 := hy3.below hb4
  have hm4 := ho3.kept (Nat.le_refl _) hb4
  have hF4' : ∀ k, F k → w.heap.size ≤ k := fun k hk => Nat.le_trans hb03.size (hF4 k hk)
  have ham : ¬ F gm := fun h => by have := hF4 gm h; omega
  have hap : Away vp F := away_new hy3 hPn hF4
  obtain ⟨k, hk⟩ : ∃ k : Nat, k = i % 4 := ⟨_, rfl⟩
  have hki : (i : Int) % 4 = k := by omega
  have hk4 : k < 4 := by omega
  have hmb4 := hm4.bytes
  have HPL := Lib.hid hPl
  have hvm : Away vp (fun k => k = gm) := away_new hy2' hPn (fun k e => by rw [e]; exact hgm)
  have hgm4 : gm < w4.heap.size := Nat.lt_of_lt_of_le hgm2 hb4.size
  have hgm0 : w.heap.size ≤ gm := Nat.le_trans hb02' hgm
  clear hk hb03 hb4 hy3 ho3 hPl hy2'
  go_wp2_with fail
  refine (write_ok g (Dk.new 4) F k _ P w4 hd4 (by simp [Dk.new]; omega) rfl hmb4 HPL.out (by simp [Dk.new]) (by simp [Dk.new]) (by simp [Dk.new]) (by simp [Dk.new])).mono ?_
  rintro e w5 ⟨F5, rfl, hd5, hm5⟩
  obtain ⟨hy5, hap5⟩ := moved_bytes hm5 hy4 hPn hap
  have hm5' : Own8 5 w2.heap.size w5 (.slice (some ⟨gm, 0, none⟩) 512 cm) P := by
    unfold Own8 at hm4 ⊢
    exact own_only hm4 hm5.only fun q hq e => by cases hq; exact ham e
  have ham5 : ¬ F5 gm := fun h => by
    rcases hm5.fresh gm h with h | h
    · exact ham h
    · omega
  have hb05 := hb04.trans (hm5.below hb04.size hF4')
  have hF5 := hm5.ge hb04.size hF4'
  have hd5' : DiskAt w5 g (ownsD k P) F5 := hd5
  clear hd5 hd4 hmb4 hm4 hy4 hap ham hb04 hF4 hF4' hm5
  go_wp2_with fail
  go_loopw [9, 35] (fun _ j wr => ∃ (q : Nat) (l : List UInt8), j = .int .i64 q ∧ q ≤ 512 ∧ Hid (l.length = 512) ∧ Hid (Own8 5 w2.heap.size wr (.slice (some ⟨gm, 0, none⟩) 512 cm) l) ∧ Hid (Only w5 wr (fun k => k = gm))) (fun _ j _ => 512 - (intOf j).toNat)
  case atStart => exact ⟨0, P, rfl, by omega, HPL, Lib.hid hm5', Lib.hid (Only.refl _ _)⟩
  case round =>
    obtain ⟨q, l, rfl, hq, HLL, HOW, HON⟩ := hrel
    by_cases hlt : q < 512
    · obtain ⟨hcell, hfr⟩ := Own8.cell HOW.out q (by rw [HLL.out]; exact hlt)
      generalize l[q]'(by rw [HLL.out]; exact hlt) = b at *
      unfold B8 at hcell
      go_wp2_with fail
      rw [show Value.int .u8 (((b.toNat : Nat) + (1 : Int)) % 256) = B8 (b + UInt8.ofNat 1) from B8_add b 1]
      have hst := Own8.store HOW.out q (b + UInt8.ofNat 1)
      have hlen : (l.set q (b + UInt8.ofNat 1)).length = 512 := by rw [List.length_set]; exact HLL.out
      have hon : Only w5 _ (fun k => k = gm) := HON.out.trans (Only.setCell wr ⟨gm, q, none⟩ (B8 (b + UInt8.ofNat 1))) fun _ _ h => h
      go_roundw
      case rel => exact ⟨q + 1, _, by go_num, by omega, Lib.hid hlen, Lib.hid hst.1, Lib.hid hon⟩
      case measure => first | (simp [intOf]; done) | (simp [intOf]; omega)
    · have e : q = 512 := by omega
      subst e
      clear hlt
      have hd6 := hd5'.only HON.out fun k hk e => by rw [e] at hk; exact ham5 hk
      have hy6 : Bytes wr vp P := hy5.only HON.out fun g o n c _ e h => hvm g o n c e h
      have hb06 := hb05.trans (HON.out.below w.heap.size hb05.size fun k hk (e : k = gm) => by rw [e] at hk; omega)
      clear HOW HON HLL hd5' hm5' hy5 hvm ham5 hb05
      generalize wr = w6 at *
      go_wp2_with fail
      refine (dread_ok g (ownsD k P) F5 k w6 hd6 (by show k < ((List.replicate 4 blank512)).length; simp; exact hk4) (by show 1 ≤ 1000000; omega)).mono ?_
      rintro e w7 ⟨v7, rfl, ho7, hb7⟩
      rw [owns_d] at ho7
      obtain ⟨gq, cq, rfl, hgq, hgq2, hcq⟩ := Own8.shape ho7 hPn
      rw [HPL.out] at ho7 hcq ⊢
      have hd7 := hd6.below hb7
      have hy7 := hy6.below hb7
      have hF7 : ¬ F5 gq := fun h => by have := hd6.lt gq h; omega
      have hvq : Away vp (fun k => k = gq) := away_own' hy6 hPn (fun k e => by rw [e]; exact hgq)
      have hb07 := btr hb06 hb7
      have hgq0 : w.heap.size ≤ gq := Nat.le_trans hb06.size hgq
      clear hd6 hy6 hb06 hb7 hgq
      go_wp2_with fail
      go_loopw [12, 53] (fun _ j wr => ∃ (q : Nat) (l : List UInt8), j = .int .i64 q ∧ q ≤ 512 ∧ Hid (l.length = 512) ∧ Hid (Own8 5 w6.heap.size wr (.slice (some ⟨gq, 0, none⟩) 512 cq) l) ∧ Hid (Only w7 wr (fun k => k = gq))) (fun _ j _ => 512 - (intOf j).toNat)
      case atStart => exact ⟨0, P, rfl, by omega, HPL, Lib.hid ho7, Lib.hid (Only.refl _ _)⟩
      case round =>
        obtain ⟨q, l, rfl, hq, HLL, HOW, HON⟩ := hrel
        by_cases hlt : q < 512
        · obtain ⟨hcell, hfr⟩ := Own8.cell HOW.out q (by rw [HLL.out]; exact hlt)
          generalize l[q]'(by rw [HLL.out]; exact hlt) = b at *
          unfold B8 at hcell
          go_wp2_with fail
          rw [show Value.int .u8 (((b.toNat : Nat) + (2 : Int)) % 256) = B8 (b + UInt8.ofNat 2) from B8_add b 2]
          have hst := Own8.store HOW.out q (b + UInt8.ofNat 2)
          have hlen : (l.set q (b + UInt8.ofNat 2)).length = 512 := by rw [List.length_set]; exact HLL.out
          have hon : Only w7 _ (fun k => k = gq) := HON.out.trans (Only.setCell wr ⟨gq, q, none⟩ (B8 (b + UInt8.ofNat 2))) fun _ _ h => h
          go_roundw
          case rel => exact ⟨q + 1, _, by go_num, by omega, Lib.hid hlen, Lib.hid hst.1, Lib.hid hon⟩
          case measure => first | (simp [intOf]; done) | (simp [intOf]; omega)
        · have e : q = 512 := by omega
          subst e
          clear hlt
          have hd8 := hd7.only HON.out fun k hk e => by rw [e] at hk; exact hF7 hk
          have hy8 : Bytes wr vp P := hy7.only HON.out fun g o n c _ e h => hvq g o n c e h
          have hb08 := hb07.trans (HON.out.below w.heap.size hb07.size fun k hk (e : k = gq) => by rw [e] at hk; omega)
          clear HOW HON HLL hd7 hy7 hvq hF7 hb07 ho7
          generalize wr = w8 at *
          go_wp2_with fail
          refine (copy_ok g (ownsD k P) F5 w8 hd8 (by show 1 ≤ 1000000; omega)).mono ?_
          rintro e w9 ⟨gc, Fc, rfl, hc9, hF9, hb9⟩
          have hd9 := hd8.below hb9
          have hy9 := hy8.below hb9
          have hap9 : ∀ k, F5 k → ¬ Fc k := fun k h h' => by have := hd8.lt k h; have := hF9 k h'; omega
          have hav9 : Away vp Fc := away_own' hy8 hPn hF9
          have hb09 := btr hb08 hb9
          have hF09 : ∀ k, Fc k → w.heap.size ≤ k := fun k hk => Nat.le_trans hb08.size (hF9 k hk)
          clear hd8 hy8 hF9 hb9 hb08
          go_wp2_with fail
          refine (rot_ok gc (ownsD k P).copied Fc k 0 1 1 w9 hc9 (by show k < ((List.replicate 4 blank512)).length; simp; exact hk4) (by omega) (by omega) (by omega) (by show 1 ≤ 1000000; omega)).mono ?_
          rintro e w10 ⟨rfl, hc10, hm10⟩
          obtain ⟨hd10, hap10⟩ := moved_disk hm10 hd9 hap9
          obtain ⟨hy10, hav10⟩ := moved_bytes hm10 hy9 hPn hav9
          have hb010 := hb09.trans (hm10.below hb09.size hF09)
          clear hd9 hy9 hap9 hav9 hm10 hb09
          go_wp2_with (refine wpList_make8 rfl _ _ 22 5 make8 rfl 512 rfl rfl (by omega) ?_; intro w11 hm11 hb11)
          have hmade : Bytes w11 (.slice (some ⟨w10.heap.size, 0, none⟩) 512 512) blank512 := hm11.bytes
          have hd11 := hd10.below hb11
          have hc11 := hc10.below hb11
          have hy11 := hy10.below hb11
          have hb011 := btr hb010 hb11
          have hF10 : ∀ k, Fc k → w10.heap.size ≤ w10.heap.size ∧ k < w10.heap.size := fun k hk => ⟨Nat.le_refl _, hc10.lt k hk⟩
          have han11 : Away (.slice (some ⟨w10.heap.size, 0, none⟩) 512 512) Fc := fun g o n c e hf => by
            cases e
            have := (hF10 _ hf).2; omega
          have hcl : ((ownsD k P).copied.rotted k 0 1 1).safe.length = 4 := by show (List.set _ _ _).length = 4; rw [List.length_set]; rfl
          clear hd10 hc10 hy10 hb010 hb11 hm11 hF10
          generalize w10.heap.size = n10 at *
          refine (write_ok gc ((ownsD k P).copied.rotted k 0 1 1) Fc k _ blank512 w11 hc11 (by rw [hcl]; exact hk4) rfl hmade (by simp [blank512]) (by show (-9223372036854775808 : Int) < 0; omega) (by show (0 : Int) ≤ 9223372036854775807; omega) (by show 0 ≤ 1000000; omega) (by show 1 ≤ 1000000; omega)).mono ?_
          rintro e w12 ⟨F12, rfl, hc12, hm12⟩
          obtain ⟨hd12, hap12⟩ := moved_disk hm12 hd11 hap10
          obtain ⟨hy12, hav12⟩ := moved_bytes hm12 hy11 hPn hav10
          have hb012 := hb011.trans (hm12.below hb011.size hF09)
          have hF012 := hm12.ge hb011.size hF09
          clear hd11 hc11 hy11 hm12 hb011 hF09 hmade han11 hap10 hav10
          go_wp2_with fail
          refine (sync_ok gc (((ownsD k P).copied.rotted k 0 1 1).wrote k blank512) F12 w12 hc12 rfl (by show (-9223372036854775808 : Int) < 0; omega) (by show (0 : Int) ≤ 9223372036854775807; omega) (by show 2 ≤ 1000000; omega)).mono ?_
          rintro e w13 ⟨F13, rfl, hc13, hm13⟩
          obtain ⟨hd13, hap13⟩ := moved_disk hm13 hd12 hap12
          obtain ⟨hy13, hav13⟩ := moved_bytes hm13 hy12 hPn hav12
          have hb013 := hb012.trans (hm13.below hb012.size hF012)
          have hc13' : DiskAt w13 gc (ownsC k P) F13 := hc13
          have hCl : (ownsC k P).safe.length = 4 := by show (syncOf _ _).length = 4; rw [syncOf_length]; exact hcl
          clear hd12 hc12 hy12 hm13 hb012 hF012 hap12 hav12 hc13 hap13 hav13
          go_wp2_with fail
          refine (dread_ok g (ownsD k P) F5 k w13 hd13 (by show k < ((List.replicate 4 blank512)).length; simp; exact hk4) (by show 1 ≤ 1000000; omega)).mono ?_
          rintro e w14 ⟨v14, rfl, ho14, hb14⟩
          rw [owns_d] at ho14
          have hx14 := ho14.bytes
          have hc14 := hc13'.below hb14
          have hy14 := hy13.below hb14
          have hb014 := btr hb013 hb14
          clear hc13' hy13 hb013 hb14 ho14 hd13
          go_wp2_with fail
          refine (same_any _ _ _ _ w14 hx14 hy14).mono ?_
          rintro e w15 ⟨rfl, k15, rfl⟩
          rw [decide_eq_true (by rfl : (_ : List UInt8) = _)]
          have hb15 := bdn (bre w14) k15
          have hc15 := hc14.below hb15
          have hb015 := btr hb014 hb15
          clear hc14 hx14 hy14 hb014 hb15
          generalize w14.drewN k15 = w15 at *
          go_wp2_with fail
          refine (blank_ok gc (ownsC k P) F13 k w15 hc15 (by rw [hCl]; exact hk4) (by show 0 ≤ 1000000; omega)).mono ?_
          rintro e w16 ⟨rfl, hb16⟩
          rw [owns_c k P hk4, decide_eq_true (by rfl : (_ : List UInt8) = _)]
          have hb016 := btr hb015 hb16
          clear hCl hcl
          go_wp2
          go_ret
          exact ⟨rfl, hb016⟩
end Go.Proofs.Ytkonjjanoifinaa
