/- DiskLimits: behind a limit just so many writes and syncs are done. -/
import Derived.Test.YtkonjjanoifinaaDkKeeps
namespace Go.Proofs.Ytkonjjanoifinaa
open Go.RowKit

/-- a disk of four sectors behind m things, k of which could be done -/
structure LimD (k m : Nat) (d : Dk) : Prop where
  four : d.safe.length = 4
  bound : d.bound = true
  left : d.left = ((k - m : Nat) : Int)
  wait : d.wait.length ≤ m
  count : d.count ≤ m

theorem LimD.may {k m : Nat} {d : Dk} (h : LimD k m d) : d.may = decide (m < k) := by
  unfold Dk.may
  rw [h.bound, h.left]
  by_cases hm : m < k
  · have : (((k - m : Nat) : Int) == 0) = false := by simp; omega
    rw [this]; simp [hm]
  · have : (((k - m : Nat) : Int) == 0) = true := by simp; omega
    rw [this]; simp [hm]
theorem LimD.wrote {k m : Nat} {d : Dk} (h : LimD k m d) (hm : m < k) (i : Nat) (p : List UInt8) : LimD k (m + 1) (d.wrote i p) :=
  ⟨h.four, h.bound, by unfold Dk.wrote; simp only [h.bound, if_true, h.left]; omega, by unfold Dk.wrote; simp; exact h.wait, by unfold Dk.wrote; simp; exact h.count⟩
theorem LimD.synced {k m : Nat} {d : Dk} (h : LimD k m d) (hm : m < k) : LimD k (m + 1) d.synced :=
  ⟨by unfold Dk.synced; simp only; rw [syncOf_length, h.four], h.bound, by unfold Dk.synced; simp only [h.bound, if_true, h.left]; omega, by unfold Dk.synced; simp, by have := h.count; unfold Dk.synced; simp only; omega⟩
theorem LimD.off {k m : Nat} {d : Dk} (h : LimD k m d) (hm : ¬ m < k) : LimD k (m + 1) d :=
  ⟨h.four, h.bound, by rw [h.left]; omega, by have := h.wait; omega, by have := h.count; omega⟩

theorem bools_nil (w : World) : Bools w (.slice none 0 0) [] := ⟨none, 0, rfl, by simp, Nat.le_refl _, fun _ => rfl, .inl rfl⟩

set_option maxRecDepth 10000 in
set_option maxHeartbeats 6400000 in
theorem limits_calls (n more : Nat) (v : Value) (p : List UInt8) (w : World) (hp : Bytes w v p) (hn : n < 256) (hmo : more < 256) :
    Calls Try.prog 3 #[.int .u8 n, .int .u8 more, v] w fun e w' => e = .returned (.bool true) ∧ Below w.heap.size w w' := by
  go_enter Try.func3, Try.ntmps3
  go_wp2_with fail
  refine (awake_any w).mono ?_
  rintro e w1 ⟨rfl, hb1⟩
  go_wp2_with fail
  refine (new_any 4 w1 (by omega) (by omega)).mono ?_
  rintro e w2 ⟨g, F, rfl, hd2, hF2, hb2⟩
  have hF2l := hd2.lt
  have hb02 := btr hb1 hb2
  go_wp2_with fail
  refine (full_any v p w2 (hp.below hb02)).mono ?_
  rintro e w3 ⟨vp, rfl, ho3, hb3⟩
  have hy3 := ho3.bytes
  have ha3 := away_own ho3 hF2l
  have hd3 := hd2.below hb3
  have hb03 := btr hb02 hb3
  have hPl := fullOf_length p
  have hPn := full_ne p
  generalize fullOf p = P at *
  have hF3 : ∀ k, F k → w.heap.size ≤ k := fun k hk => Nat.le_trans hb1.size (hF2 k hk)
  have HPL := Lib.hid hPl
  clear hp hb1 hb2 hb02 hb3 ho3 hd2 hF2 hF2l hPl
  obtain ⟨k, hk⟩ : ∃ k : Nat, k = n % 20 := ⟨_, rfl⟩
  have hkn : (n : Int) % 20 = k := by omega
  have hk20 : k < 20 := by omega
  obtain ⟨t, ht⟩ : ∃ t : Nat, t = more % 5 := ⟨_, rfl⟩
  have htn : (more : Int) % 5 = t := by omega
  have ht5 : t < 5 := by omega
  clear hk ht
  go_wp2_with fail
  refine (limit_any g _ F k w3 hd3).mono ?_
  rintro e w4 ⟨rfl, hd4, hm4⟩
  obtain ⟨hy4, ha4⟩ := moved_bytes hm4 hy3 hPn ha3
  have hb04 := hb03.trans (hm4.below hb03.size hF3)
  have hL : LimD k 0 ⟨(Dk.new 4).safe, (Dk.new 4).wait, (Dk.new 4).count, decide (0 ≤ (k : Int)), k⟩ := ⟨by simp [Dk.new], by simp, by simp, by simp [Dk.new], by simp [Dk.new]⟩
  generalize (⟨(Dk.new 4).safe, (Dk.new 4).wait, (Dk.new 4).count, decide (0 ≤ (k : Int)), k⟩ : Dk) = d0 at *
  have HD0 := Lib.hid hd4
  have HY0 := Lib.hid hy4
  have HA0 := Lib.hid ha4
  have HF0 := Lib.hid hF3
  have HL0 := Lib.hid hL
  clear hm4 hy3 hd3 hb03 hd4 hy4 ha4 hF3 ha3 hL
  go_wp2
  clear hkn htn
  go_loopw [10, 11, 35] (fun _ _ i wr => ∃ (m : Nat) (d : Dk) (G : Nat → Prop), i = .int .i64 m ∧ m ≤ k + 1 + t ∧ Hid (LimD k m d) ∧ Hid (DiskAt wr g d G) ∧ Hid (Bytes wr vp P) ∧ Hid (Away vp G) ∧ Hid (∀ q, G q → w.heap.size ≤ q) ∧ Below w.heap.size w wr) (fun _ _ i _ => k + 1 + t - (intOf i).toNat)
  case atStart => exact ⟨0, d0, F, rfl, by omega, HL0, HD0, HY0, HA0, HF0, hb04⟩
  case round =>
    obtain ⟨m, d, G, rfl, hm, HL, HD, HY, HA, HF, hb⟩ := hrel
    by_cases hlt : m < k + 1 + t
    · have hl := HL.out
      have hw1 := hl.wait
      have hc1 := hl.count
      have hl0 : -9223372036854775808 < d.left := by rw [hl.left]; omega
      have hl1 : d.left ≤ 9223372036854775807 := by rw [hl.left]; omega
      have hmay := hl.may
      have h4 := hl.four
      have HMAY := Lib.hid hmay
      have H4 := Lib.hid h4
      clear hmay hl h4
      by_cases h3 : m % 3 = 2
      · have h3b : ((m : Int) % 3 == 2) = true := by simp; omega
        by_cases hmk : m < k
        · have hd1 : decide ((m : Int) < k) = true := by simp; omega
          have hs := sync_ok g d G wr HD.out (by rw [HMAY.out]; simp [hmk]) hl0 hl1 (by omega)
          have HS := Lib.hid hs
          clear hs
          go_wp2_with (go_at_call 13; refine HS.out.mono ?_; rintro e w5 ⟨G5, rfl, hd5, hm5⟩)
          obtain ⟨hy5, ha5⟩ := moved_bytes hm5 HY.out hPn HA.out
          go_roundw
          case rel => exact ⟨m + 1, d.synced, G5, by go_num, by omega, Lib.hid (HL.out.synced hmk), Lib.hid hd5, Lib.hid hy5, Lib.hid ha5, Lib.hid (hm5.ge hb.size HF.out), hb.trans (hm5.below hb.size HF.out)⟩
          case measure => first | (simp [intOf]; done) | (simp [intOf]; omega)
        · have hd1 : decide ((m : Int) < k) = false := by simp; omega
          have hs := sync_off g d G wr HD.out (by rw [HMAY.out]; simp; omega) hl0 hl1
          have HS := Lib.hid hs
          clear hs
          go_wp2_with (go_at_call 13; refine HS.out.mono ?_; rintro e w5 ⟨rfl, hd5, hm5⟩)
          obtain ⟨hy5, ha5⟩ := moved_bytes hm5 HY.out hPn HA.out
          go_roundw
          case rel => exact ⟨m + 1, d, G, by go_num, by omega, Lib.hid (HL.out.off hmk), Lib.hid hd5, Lib.hid hy5, Lib.hid ha5, Lib.hid (hm5.ge hb.size HF.out), hb.trans (hm5.below hb.size HF.out)⟩
          case measure => first | (simp [intOf]; done) | (simp [intOf]; omega)
      · have h3b : ((m : Int) % 3 == 2) = false := by simp; omega
        have h4b : (m : Int) % 4 = ((m % 4 : Nat) : Int) := by omega
        by_cases hmk : m < k
        · have hd1 : decide ((m : Int) < k) = true := by simp; omega
          have hs := write_ok g d G (m % 4) vp P wr HD.out (by rw [H4.out]; omega) (by rw [HMAY.out]; simp [hmk]) HY.out HPL.out hl0 hl1 (by omega) (by omega)
          rw [← h4b] at hs
          have HS := Lib.hid hs
          clear hs h4b
          go_wp2_with (go_at_call 14; refine HS.out.mono ?_; rintro e w5 ⟨G5, rfl, hd5, hm5⟩)
          obtain ⟨hy5, ha5⟩ := moved_bytes hm5 HY.out hPn HA.out
          go_roundw
          case rel => exact ⟨m + 1, _, G5, by go_num, by omega, Lib.hid (HL.out.wrote hmk _ _), Lib.hid hd5, Lib.hid hy5, Lib.hid ha5, Lib.hid (hm5.ge hb.size HF.out), hb.trans (hm5.below hb.size HF.out)⟩
          case measure => first | (simp [intOf]; done) | (simp [intOf]; omega)
        · have hd1 : decide ((m : Int) < k) = false := by simp; omega
          have hs := write_off g d G (m % 4) vp P wr HD.out (by rw [H4.out]; omega) (by rw [HMAY.out]; simp; omega) HY.out HPL.out hl0 hl1
          rw [← h4b] at hs
          have HS := Lib.hid hs
          clear hs h4b
          go_wp2_with (go_at_call 14; refine HS.out.mono ?_; rintro e w5 ⟨rfl, hd5, hm5⟩)
          obtain ⟨hy5, ha5⟩ := moved_bytes hm5 HY.out hPn HA.out
          go_roundw
          case rel => exact ⟨m + 1, d, G, by go_num, by omega, Lib.hid (HL.out.off hmk), Lib.hid hd5, Lib.hid hy5, Lib.hid ha5, Lib.hid (hm5.ge hb.size HF.out), hb.trans (hm5.below hb.size HF.out)⟩
          case measure => first | (simp [intOf]; done) | (simp [intOf]; omega)
    · have e : m = k + 1 + t := by omega
      subst e
      have hl := HL.out
      have hoff : d.may = false := by rw [hl.may]; simp; omega
      have hw1 := hl.wait
      have hc1 := hl.count
      have h4 := hl.four
      have hl0 : -9223372036854775808 < d.left := by rw [hl.left]; omega
      have hl1 : d.left ≤ 9223372036854775807 := by rw [hl.left]; omega
      have hGl := HD.out.lt
      go_wp2_with fail
      refine (crash_ok g d G _ [] wr HD.out (bools_nil wr) (by omega)).mono ?_
      rintro e w5 ⟨gc, Fc, rfl, hdc5, hFc, hb5⟩
      have hcs : (d.crashed []).safe.length = 4 := by show (crashOf [] 0 d.wait d.safe).length = 4; rw [crashOf_length, h4]
      have hd5 := HD.out.below hb5
      have hy5 := HY.out.below hb5
      have hb05 := btr hb hb5
      have hcx : ∀ q, Fc q → ¬ G q := fun q h1 h2 => by have := hFc q h1; have := hGl q h2; omega
      have hav5 : Away vp Fc := away_new HY.out hPn hFc
      have hFc' : ∀ q, Fc q → w.heap.size ≤ q := fun q h => Nat.le_trans hb.size (hFc q h)
      have hcw : (d.crashed []).wait = [] := rfl
      have hcc : (d.crashed []).count = 0 := rfl
      have hcl : (d.crashed []).left = 0 := rfl
      have hcm : (d.crashed []).may = true := rfl
      have hGl5 := hd5.lt
      have hcl5 := hdc5.lt
      generalize d.crashed [] = dc at *
      go_wp2_with fail
      refine (copy_ok g d G w5 hd5 (by omega)).mono ?_
      rintro e w6 ⟨gx, Fx, rfl, hdx6, hFx, hb6⟩
      have hxs : d.copied.safe.length = 4 := h4
      have hxm : d.copied.may = true := rfl
      have hxl : d.copied.left = 0 := rfl
      have hxc : d.copied.count = 0 := rfl
      have hxw : d.copied.wait.length ≤ 1000000 := by show d.wait.length ≤ _; omega
      have hd6 := hd5.below hb6
      have hdc6 := hdc5.below hb6
      have hy6 := hy5.below hb6
      have hb06 := btr hb05 hb6
      have hxG : ∀ q, Fx q → ¬ G q := fun q h1 h2 => by have := hFx q h1; have := hGl5 q h2; omega
      have hxC : ∀ q, Fx q → ¬ Fc q := fun q h1 h2 => by have := hFx q h1; have := hcl5 q h2; omega
      have hav6 : Away vp Fx := away_new hy5 hPn hFx
      have hFx' : ∀ q, Fx q → w.heap.size ≤ q := fun q h => Nat.le_trans hb05.size (hFx q h)
      generalize d.copied = dx at *
      clear hd5 hdc5 hy5 hb05 hb6 hb5 hFc hFx hGl hGl5 hcl5
      have HHL := Lib.hid hl
      have HOFF := Lib.hid hoff
      have HCW := Lib.hid hcw
      have HCC := Lib.hid hcc
      have HCL := Lib.hid hcl
      have HCM := Lib.hid hcm
      have HXM := Lib.hid hxm
      have HXL := Lib.hid hxl
      have HXC := Lib.hid hxc
      have H4 := Lib.hid h4
      have HCS := Lib.hid hcs
      have HXS := Lib.hid hxs
      clear hl hoff hcw hcc hcl hcm hxm hxl hxc h4 hcs hxs
      go_wp2_with fail
      refine (write_ok gc dc Fc 0 vp P w6 hdc6 (by rw [HCS.out]; omega) HCM.out hy6 HPL.out (by rw [HCL.out]; omega) (by rw [HCL.out]; omega) (by rw [HCC.out]; omega) (by rw [HCW.out]; simp)).mono ?_
      rintro e w7 ⟨Fc7, rfl, hdc7, hm7⟩
      obtain ⟨hy7, _⟩ := moved_bytes hm7 hy6 hPn hav5
      obtain ⟨hd7, _⟩ := moved_disk hm7 hd6 (fun q h1 h2 => hcx q h2 h1)
      obtain ⟨hdx7, _⟩ := moved_disk hm7 hdx6 hxC
      have hb07 := hb06.trans (hm7.below hb06.size hFc')
      clear hdc7 hm7 hy6 hd6 hdx6 hdc6 hb06
      go_wp2_with fail
      refine (write_ok gx dx Fx 0 vp P w7 hdx7 (by rw [HXS.out]; omega) HXM.out hy7 HPL.out (by rw [HXL.out]; omega) (by rw [HXL.out]; omega) (by rw [HXC.out]; omega) hxw).mono ?_
      rintro e w8 ⟨Fx8, rfl, hdx8, hm8⟩
      obtain ⟨hy8, _⟩ := moved_bytes hm8 hy7 hPn hav6
      obtain ⟨hd8, _⟩ := moved_disk hm8 hd7 (fun q h1 h2 => hxG q h2 h1)
      have hb08 := hb07.trans (hm8.below hb07.size hFx')
      clear hdx8 hm8 hy7 hd7 hdx7 hb07
      go_wp2_with fail
      refine (write_off g d G 0 vp P w8 hd8 (by rw [H4.out]; omega) HOFF.out hy8 HPL.out hl0 hl1).mono ?_
      rintro e w9 ⟨rfl, hd9, hm9⟩
      obtain ⟨hy9, ha9⟩ := moved_bytes hm9 hy8 hPn HA.out
      have hb09 := hb08.trans (hm9.below hb08.size HF.out)
      clear hm9 hy8 hd8 hb08
      go_wp2_with fail
      refine (write_index g d G 9 vp P w9 hd9 hy9 HPL.out (by rw [H4.out]; omega)).mono ?_
      rintro e w10 ⟨rfl, rfl⟩
      go_wp2_with fail
      refine (write_arg g d G 0 _ [] w10 hd9 (Own8.nil 5 0 _).bytes (by simp)).mono ?_
      rintro e w11 ⟨rfl, rfl⟩
      go_wp2_with fail
      refine (limit_any g d G (-1) w11 hd9).mono ?_
      rintro e w12 ⟨rfl, hd12, hm12⟩
      obtain ⟨hy12, ha12⟩ := moved_bytes hm12 hy9 hPn ha9
      have hb012 := hb09.trans (hm12.below hb09.size HF.out)
      clear hm12 hy9 hd9 hb09
      have hbd : decide (0 ≤ (-1 : Int)) = false := by decide
      rw [hbd] at hd12
      clear hbd
      go_wp2_with fail
      refine (write_ok g _ G 0 vp P w12 hd12 (by show 0 < d.safe.length; rw [H4.out]; omega) rfl hy12 HPL.out (by show _ < (-1 : Int); omega) (by show (-1 : Int) ≤ _; omega) (by show d.count ≤ _; omega) (by show d.wait.length ≤ _; omega)).mono ?_
      rintro e w13 ⟨G13, rfl, hd13, hm13⟩
      have hb013 := hb012.trans (hm13.below hb012.size HF.out)
      have hF13 := hm13.ge hb012.size HF.out
      clear hm13 hy12 hd12 hb012
      go_wp2_with fail
      refine (sync_ok g _ G13 w13 hd13 rfl (by show _ < (-1 : Int); omega) (by show (-1 : Int) ≤ _; omega) (by show (d.wait ++ [(0, P)]).length ≤ _; simp; omega)).mono ?_
      rintro e w14 ⟨G14, rfl, hd14, hm14⟩
      go_wp2
      go_ret
      exact ⟨rfl, hb013.trans (hm14.below hb013.size hF13)⟩
end Go.Proofs.Ytkonjjanoifinaa
