/- Walk of the law: ReelArgs. -/
import Derived.Test.YtacfkhnajdneeaaDoorRlAwake
import Derived.Test.YtacfkhnajdneeaaDoorRlMore
namespace Go.Proofs.YtacfkhnajdneeaaDoor
open Go.RowKit

theorem new_len (N : Nat) : (Dk.new N).safe.length = N := by show (List.replicate N (List.replicate 512 (0 : UInt8))).length = N; exact List.length_replicate

set_option maxRecDepth 20000 in
set_option maxHeartbeats 3200000 in
theorem args_calls (s h : Nat) (v : Value) (p : List UInt8) (hh : h < 256) (w : World) (hv : Bytes w v p) :
    Calls Tryd.prog 7 #[.int .u8 s, .int .u8 h, v] w fun e w' => e = .returned (.bool true) ∧ Below w.heap.size w w' := by
  obtain ⟨a, c, rfl, -, -, -, -⟩ := id hv
  have HV := Lib.hid hv
  obtain ⟨L, hL⟩ : ∃ L, L = p.length := ⟨_, rfl⟩
  rw [← hL] at HV ⊢
  obtain ⟨N, hN⟩ : ∃ N, N = 1 + s % 8 := ⟨_, rfl⟩
  obtain ⟨M, hM⟩ : ∃ M, M = s % 8 := ⟨_, rfl⟩
  have e1 : (s : Int) % 8 = (M : Int) := by omega
  have e2 : (1 : Int) + (M : Int) = (N : Int) := by omega
  have hN8 : 1 ≤ N ∧ N ≤ 8 := by omega
  have HNN := Lib.hid hN8
  have hM8 : M ≤ 7 := by omega
  clear hv hL hN hM hN8
  go_enter Tryd.func7, Tryd.ntmps7
  go_wp2_with fail
  refine (awake_any w).mono ?_
  rintro e w1 ⟨rfl, hb1⟩
  have HB1 := Lib.hid hb1
  clear hb1
  go_wp2_with fail
  refine (new_any N w1 HNN.out.1 (by have := HNN.out; omega)).mono ?_
  rintro e w2 ⟨gd, F, rfl, hd2, hf2, hb2⟩
  have HD2 := Lib.hid hd2
  have HF2 := Lib.hid hf2
  have HB2 := Lib.hid (btr HB1.out hb2)
  clear hd2 hf2 hb2 e1 e2
  obtain ⟨R, hR⟩ : ∃ R, R = decide (4 ≤ N ∧ h < 2) := ⟨_, rfl⟩
  have HRR := Lib.hid hR
  obtain ⟨B4, hB4⟩ : ∃ R, R = decide (4 ≤ N) := ⟨_, rfl⟩
  obtain ⟨B2, hB2⟩ : ∃ R, R = decide (h < 2) := ⟨_, rfl⟩
  have hRB : (B4 && B2) = R := by rw [hB4, hB2, hR, Bool.decide_and]
  have d1 : decide ((4 : Int) ≤ (N : Int)) = B4 := by rw [hB4]; exact decide_eq_decide.2 (by omega)
  have d2 : decide (4 ≤ N) = B4 := hB4.symm
  have d3 : decide ((h : Int) < 2) = B2 := by rw [hB2]; exact decide_eq_decide.2 (by omega)
  have d4 : decide (h < 2) = B2 := hB2.symm
  have HOPEN : Hid (Calls Tryd.prog 20 #[.pointer (some ⟨gd, 0, none⟩), .agg #[.int .u32 1, .int .u8 h, .int .u32 0]] w2 fun e w' => Below w2.heap.size w2 w' ∧
      (R = false → e = .returned (.tuple #[.pointer none, .int .i64 0, .int .i64 1])) ∧
      (R = true → ∃ g G r z, e = .returned (.tuple #[.pointer (some ⟨g, 0, none⟩), .int .i64 0, .int .i64 0]) ∧ RlIn w' g gd r G ∧ (∀ k, G k → w2.heap.size ≤ k) ∧ Live z r (Dk.new N) [] 0 ∧ z.n ≤ 3)) := Lib.hid (by
    by_cases hh1 : 1 < h
    · refine (ropen_no _ ⟨1, h, 0⟩ w2 hh (.inr ⟨gd, rfl, hh1⟩)).mono ?_
      rintro e w' ⟨rfl, hb⟩
      exact ⟨hb, fun _ => rfl, fun hc => by rw [hR] at hc; have := of_decide_eq_true hc; omega⟩
    · by_cases h4 : 4 ≤ N
      · refine (open_new_any gd N F ⟨1, h, 0⟩ ⟨(show (1 : Nat) < 4294967296 by decide), hh, (show (0 : Nat) < 4294967296 by decide)⟩ w2 HD2.out h4 (by have := HNN.out; omega) (by show h ≤ 1; omega) (show (0 : Nat) < 4294967295 by decide)).mono ?_
        rintro e w' ⟨hb, g, G, r, z, rfl, h1, h2, h3, h5, -, -, -⟩
        refine ⟨hb, fun hc => ?_, fun _ => ⟨g, G, r, z, rfl, h1, h2, h3, ?_⟩⟩
        · rw [hR] at hc
          have := of_decide_eq_false hc
          omega
        · rw [h5]
          unfold Cr.from
          have := HNN.out
          rw [if_neg (by omega)]
          show (N - 2) / 2 ≤ 3
          omega
      · refine (ropen_any gd (Dk.new N) F ⟨1, h, 0⟩ ⟨(show (1 : Nat) < 4294967296 by decide), hh, (show (0 : Nat) < 4294967296 by decide)⟩ w2 HD2.out (by show h ≤ 1; omega) (Nat.zero_le _)).mono ?_
        rintro e w' ⟨hb, h1, -⟩
        exact ⟨hb, fun _ => h1 (by rw [new_len]; omega), fun hc => by rw [hR] at hc; have := of_decide_eq_true hc; omega⟩)
  clear hR hB4 hB2
  go_wp2_with fail
  refine HOPEN.out.mono ?_
  rintro e w3 ⟨hb3, hno, hyes⟩
  have HB3 := Lib.hid (btr HB2.out hb3)
  have HD3 := Lib.hid (HD2.out.below hb3)
  clear hb3 HB2 HD2 HOPEN
  cases hRc : R with
  | false =>
    have he := hno hRc
    subst he
    rw [hRc] at hRB
    clear hno hyes
    go_upto_region 6 with fail
    go_cut [13] from 37 to 42 (fun t w' => t = .bool false ∧ w' = w3)
    case first =>
      cases B4 with
      | false =>
        go_wp2_with fail
        go_meet
        exact ⟨rfl, rfl⟩
      | true =>
        have hB2f : B2 = false := by simpa using hRB
        subst hB2f
        go_wp2_with fail
        go_meet
        exact ⟨rfl, rfl⟩
    case rest =>
      obtain ⟨rfl, hwc⟩ := hcut
      have hwc' := hwc.symm
      subst hwc'
      clear hwc d1 d2 d3 d4 hRB
      go_wp2_with fail
      refine (first_any w3).mono ?_
      rintro e w4 ⟨rfl, hb4⟩
      have HB4 := Lib.hid (btr HB3.out hb4)
      clear hb4 HB3 HD3
      go_wp2_with fail
      refine (ropen_no (.pointer none) Cr.first w4 (by decide) (.inl rfl)).mono ?_
      rintro e w5 ⟨rfl, hb5⟩
      have HB5 := Lib.hid (btr HB4.out hb5)
      clear hb5 HB4
      go_wp2_with fail
      refine (cut_any _ p 9 (by decide) (by decide) w5 (HV.out.below HB5.out)).mono ?_
      rintro e w6 ⟨v6, rfl, ho6, hb6⟩
      have HB6 := Lib.hid (btr HB5.out hb6)
      obtain ⟨a6, n6, c6, rfl⟩ := Own8.isSlice ho6
      clear ho6 hb6 HB5
      go_wp2_with fail
      refine (rappend_nil a6 n6 c6 w6).mono ?_
      rintro e w7 ⟨rfl, hw⟩
      have hw' := hw.symm
      subst hw'
      clear hw
      go_wp2_with fail
      refine (rsync_nil w6).mono ?_
      rintro e w7 ⟨rfl, hw⟩
      have hw' := hw.symm
      subst hw'
      clear hw
      go_wp2_with fail
      refine (rrecords_nil w6).mono ?_
      rintro e w7 ⟨rfl, hw⟩
      have hw' := hw.symm
      subst hw'
      clear hw
      go_wp2_with fail
      refine (rcount_nil w6).mono ?_
      rintro e w7 ⟨rfl, hw⟩
      have hw' := hw.symm
      subst hw'
      clear hw
      go_wp2_with fail
      refine (rserial_nil w6).mono ?_
      rintro e w7 ⟨rfl, hw⟩
      have hw' := hw.symm
      subst hw'
      clear hw
      go_wp2_with fail
      refine (rsize_nil w6).mono ?_
      rintro e w7 ⟨rfl, hw⟩
      have hw' := hw.symm
      subst hw'
      clear hw
      go_wp2_with fail
      refine (rroom_nil w6).mono ?_
      rintro e w7 ⟨rfl, hw⟩
      have hw' := hw.symm
      subst hw'
      clear hw
      go_wp2_with fail
      go_ret
      exact ⟨rfl, HB6.out⟩
  | true =>
    obtain ⟨g, G, r, z, he, hr3, hg3, hl3, hz3⟩ := hyes hRc
    subst he
    have HR3 := Lib.hid hr3
    have HL3 := Lib.hid hl3
    rw [hRc] at hRB
    have hBB : B4 = true ∧ B2 = true := by simpa using hRB
    obtain ⟨hBa, hBb⟩ := hBB
    subst hBa
    subst hBb
    clear hno hyes hr3 hl3 hg3 hRB
    go_upto_region 6 with fail
    go_cut [13] from 37 to 42 (fun t w' => t = .bool true ∧ w' = w3)
    case first =>
      go_wp2_with fail
      go_meet
      exact ⟨rfl, rfl⟩
    case rest =>
      obtain ⟨rfl, hwc⟩ := hcut
      have hwc' := hwc.symm
      subst hwc'
      clear hwc d1 d2 d3 d4
      go_wp2_with fail
      refine (first_any w3).mono ?_
      rintro e w4 ⟨rfl, hb4⟩
      have HB4 := Lib.hid (btr HB3.out hb4)
      have HX4 := Lib.hid (And.intro (HD3.out.below hb4) (HR3.out.below hb4))
      clear hb4 HB3 HD3
      go_wp2_with fail
      refine (ropen_no (.pointer none) Cr.first w4 (by decide) (.inl rfl)).mono ?_
      rintro e w5 ⟨rfl, hb5⟩
      have HB5 := Lib.hid (btr HB4.out hb5)
      have HX5 := Lib.hid (And.intro (HX4.out.1.below hb5) (HX4.out.2.below hb5))
      clear HX4
      clear hb5 HB4
      go_wp2_with fail
      refine (cut_any _ p 9 (by decide) (by decide) w5 (HV.out.below HB5.out)).mono ?_
      rintro e w6 ⟨v6, rfl, ho6, hb6⟩
      have HB6 := Lib.hid (btr HB5.out hb6)
      have HX6 := Lib.hid (And.intro (HX5.out.1.below hb6) (HX5.out.2.below hb6))
      clear HX5
      obtain ⟨a6, n6, c6, rfl⟩ := Own8.isSlice ho6
      clear ho6 hb6 HB5
      go_wp2_with fail
      refine (rappend_nil a6 n6 c6 w6).mono ?_
      rintro e w7 ⟨rfl, hw⟩
      have hw' := hw.symm
      subst hw'
      clear hw
      go_wp2_with fail
      refine (rsync_nil w6).mono ?_
      rintro e w7 ⟨rfl, hw⟩
      have hw' := hw.symm
      subst hw'
      clear hw
      go_wp2_with fail
      refine (rrecords_nil w6).mono ?_
      rintro e w7 ⟨rfl, hw⟩
      have hw' := hw.symm
      subst hw'
      clear hw
      go_wp2_with fail
      refine (rcount_nil w6).mono ?_
      rintro e w7 ⟨rfl, hw⟩
      have hw' := hw.symm
      subst hw'
      clear hw
      go_wp2_with fail
      refine (rserial_nil w6).mono ?_
      rintro e w7 ⟨rfl, hw⟩
      have hw' := hw.symm
      subst hw'
      clear hw
      go_wp2_with fail
      refine (rsize_nil w6).mono ?_
      rintro e w7 ⟨rfl, hw⟩
      have hw' := hw.symm
      subst hw'
      clear hw
      go_wp2_with fail
      refine (rroom_nil w6).mono ?_
      rintro e w7 ⟨rfl, hw⟩
      have hw' := hw.symm
      subst hw'
      clear hw
      go_upto_region 13 with fail
      obtain ⟨w7, hrun7, ho7, hb7⟩ : ∃ w', (Instr.makeSlice 23 (.int .i64 65537) (.int .i64 65537)).run Tryd.prog w6 = .ok (.slice (some ⟨w6.heap.size, 0, none⟩) 65537 65537) w' ∧ Own8 5 w6.heap.size w' (.slice (some ⟨w6.heap.size, 0, none⟩) 65537 65537) (List.replicate 65537 0) ∧ Below w6.heap.size w6 w' := run_make8k (P := Tryd.prog) w6 mk8R .i64 65537 (by decide)
      have HB7 := Lib.hid (btr HB6.out hb7)
      have HX7 := Lib.hid (And.intro (HX6.out.1.below hb7) (HX6.out.2.below hb7))
      have HP7 := Lib.hid ((Rec8.of_own ho7).low (Nat.zero_le _))
      have hl7 : (List.replicate 65537 (0 : UInt8)).length = 65537 := List.length_replicate
      generalize hz7 : List.replicate 65537 (0 : UInt8) = zs7 at *
      have HZ7 := Lib.hid hl7
      clear ho7 hb7 HB6 HX6 hz7 hl7
      go_wp2_with fail
      clear hrun7
      refine (live_append_long z g gd r (Dk.new N) F G [] 0 _ zs7 w7 HL3.out HX7.out.1 HX7.out.2 HP7.out (by rw [HZ7.out]; decide) (by rw [HZ7.out]; decide) (Nat.zero_le _) (Nat.zero_le _) (Nat.zero_le _)).mono ?_
      rintro e w8 ⟨rfl, hb8⟩
      have HB8 := Lib.hid (btr HB7.out hb8)
      have HX8 := Lib.hid (And.intro (HX7.out.1.below hb8) (HX7.out.2.below hb8))
      clear hb8 HB7 HX7 HP7 HZ7
      obtain ⟨w9, hrun9, ho9, hb9⟩ : ∃ w', (Instr.makeSlice 23 (.int .i64 3000) (.int .i64 3000)).run Tryd.prog w8 = .ok (.slice (some ⟨w8.heap.size, 0, none⟩) 3000 3000) w' ∧ Own8 5 w8.heap.size w' (.slice (some ⟨w8.heap.size, 0, none⟩) 3000 3000) (List.replicate 3000 0) ∧ Below w8.heap.size w8 w' := run_make8k (P := Tryd.prog) w8 mk8R .i64 3000 (by decide)
      have HB9 := Lib.hid (btr HB8.out hb9)
      have HX9 := Lib.hid (And.intro (HX8.out.1.below hb9) (HX8.out.2.below hb9))
      have HP9 := Lib.hid ((Rec8.of_own ho9).low (Nat.zero_le _))
      have hl9 : (List.replicate 3000 (0 : UInt8)).length = 3000 := List.length_replicate
      generalize hz9 : List.replicate 3000 (0 : UInt8) = zs9 at *
      have HZ9 := Lib.hid hl9
      clear ho9 hb9 HB8 HX8 hz9 hl9
      go_wp2_with fail
      clear hrun9
      refine (live_append_any z g gd r (Dk.new N) F G [] 0 _ zs9 w9 HL3.out HX9.out.1 HX9.out.2 HP9.out (by rw [HZ9.out]; decide) (Nat.zero_le _) (Nat.zero_le _) (Nat.zero_le _)).mono ?_
      rintro e w10 ⟨h10, -⟩
      obtain ⟨he, hb10⟩ := h10 (by
        have h1 : (layAll ([] ++ [zs9])).length = (layOne zs9).length := by rw [List.nil_append, layAll_one]
        have h2 : zs9.length < (layOne zs9).length := by
          unfold layOne
          rw [List.length_append]
          have := (Vi.varint_length zs9.length)
          omega
        rw [h1]
        have := HZ9.out
        omega)
      subst he
      have HB10 := Lib.hid (btr HB9.out hb10)
      have HX10 := Lib.hid (HX9.out.2.below hb10)
      clear hb10 HB9 HX9 HP9 HZ9 h10
      go_wp2_with fail
      refine (rcount_in HX10.out).mono ?_
      rintro e w11 ⟨rfl, hw⟩
      have hw' := hw.symm
      subst hw'
      clear hw
      have hls : r.ls.length = 0 := by rw [HL3.out.ls]; rfl
      rw [hls]
      clear hls
      go_wp2_with fail
      go_ret
      exact ⟨rfl, HB10.out⟩
end Go.Proofs.YtacfkhnajdneeaaDoor
