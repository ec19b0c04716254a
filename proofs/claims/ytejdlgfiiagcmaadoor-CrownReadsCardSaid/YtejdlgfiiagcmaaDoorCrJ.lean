/- CrownFormats, the walk. -/
import Derived.Test.YtejdlgfiiagcmaaDoorCrI
import Derived.Test.YtejdlgfiiagcmaaDoorPreA
namespace Go.Proofs.YtejdlgfiiagcmaaDoor
open Go.RowKit

/-- two sectors written, whatever they are -/
def two (n : Nat) (p q : List UInt8) : Dk := if 1 < n then ((Dk.new n).wrote 0 (fullOf p)).wrote 1 (fullOf q) else (Dk.new n).wrote 0 (fullOf p)

theorem two_facts (n : Nat) (p q : List UInt8) : (two n p q).safe.length = n ∧ (two n p q).bound = false ∧ (two n p q).left = 0 ∧ (two n p q).count ≤ 2 ∧ (two n p q).wait.length ≤ 2 := by
  unfold two
  split
  · exact ⟨List.length_replicate, rfl, rfl, Nat.le_refl _, Nat.le_refl _⟩
  · exact ⟨List.length_replicate, rfl, rfl, by show 0 + 1 ≤ 2; omega, by show 1 ≤ 2; omega⟩

theorem fmt_now0 (d : Dk) : (fmtK 2 d).now 0 = blank512 := by
  have h1 : (fmtK 1 d).now 0 = blank512 := by
    show (if d.now 0 = blank512 then d else d.wrote 0 blank512).now 0 = blank512
    split
    · assumption
    · unfold Dk.now Dk.wrote
      simp only
      rw [lastOf_append]
      show lastOf [(0, blank512)] 0 _ = _
      unfold lastOf
      simp
  show (if (fmtK 1 d).now 1 = blank512 then fmtK 1 d else (fmtK 1 d).wrote 1 blank512).now 0 = blank512
  split
  · exact h1
  · unfold Dk.now at h1 ⊢
    unfold Dk.wrote
    simp only
    rw [lastOf_append]
    show lastOf [(1, blank512)] 0 _ = _
    rw [h1]
    unfold lastOf
    simp

theorem sync_now (j : Nat) : ∀ (ws : List (Nat × List UInt8)) (safe : List (List UInt8)), j < safe.length → (syncOf safe ws).getD j [] = lastOf ws j (safe.getD j []) := by
  intro ws
  induction ws with
  | nil => intro safe _; rfl
  | cons x ws ih =>
    intro safe hj
    have h := ih (safe.set x.1 x.2) (by rw [List.length_set]; exact hj)
    have h2 : (safe.set x.1 x.2).getD j [] = if x.1 = j then x.2 else safe.getD j [] := by
      rw [List.getD_eq_getElem?_getD, List.getD_eq_getElem?_getD]
      by_cases e : x.1 = j
      · rw [if_pos e, e, List.getElem?_set_self hj]; rfl
      · rw [if_neg e, List.getElem?_set_ne e]
    rw [h2] at h
    exact h

theorem synced_now (d : Dk) (j : Nat) (hj : j < d.safe.length) : d.synced.now j = d.now j := by
  rw [now_quiet _ (show d.synced.wait = [] from rfl)]
  exact sync_now j d.wait d.safe hj

theorem read_first (b : Nat → List UInt8) (h0 : b 0 = blank512) (h1 : b 1 = seal8 Cr.first.page.raw) : readOf b = (Cr.first, 0, 0) := by
  have a0 : atOf (b 0) 0 = (.zero, false, 0) := by rw [h0]; exact atOf_blank 0
  have a1 : atOf (b 1) 1 = (Cr.first, true, 0) := by rw [h1]; exact atOf_crown Cr.first Cr.first_ok (by decide)
  have s1 : scan b 1 = (.zero, false) := by
    have h := scan_succ b 0
    rw [a0] at h
    exact h.trans (if_neg (by simp))
  have s2 : scan b 2 = (Cr.first, true) := by
    have h := scan_succ b 1
    rw [a1, s1] at h
    exact h.trans (if_pos (by simp))
  unfold readOf
  rw [a0, a1, s2, if_neg (by simp), if_neg (by simp)]
  exact if_pos rfl

theorem formatted_facts (d : Dk) (hs : 4 ≤ d.safe.length) (hb : d.bound = false) (hl : d.left = 0) :
    d.formatted.now 0 = blank512 ∧ readOf d.formatted.now = (Cr.first, 0, 0) ∧ d.formatted.safe.length = d.safe.length ∧ d.formatted.wait = [] := by
  obtain ⟨-, -, -, -, -, e6⟩ := fmtK_easy d hb (by rw [hl]; decide) (by rw [hl]; decide) 2
  have hl2 : 2 ≤ (fmtK 2 d).safe.length := by rw [e6]; omega
  have h0 : d.formatted.now 0 = blank512 := by
    unfold Dk.formatted
    rw [crowned_now _ _ hl2, if_neg (by decide), synced_now _ _ (by omega)]
    exact fmt_now0 d
  have h1 : d.formatted.now 1 = seal8 Cr.first.page.raw := by
    unfold Dk.formatted
    rw [crowned_now _ _ hl2, if_pos (by decide)]
  refine ⟨h0, read_first _ h0 h1, ?_, rfl⟩
  unfold Dk.formatted
  rw [crowned_length, e6]

set_option maxRecDepth 20000 in
set_option maxHeartbeats 3200000 in
theorem formats_calls (vp vq : Value) (p q : List UInt8) (s : Nat) (w : World) (hp : Bytes w vp p) (hq : Bytes w vq q) :
    Calls Tryd.prog 5 #[vp, vq, .int .u8 s] w fun e w' => e = .returned (.bool true) ∧ Below w.heap.size w w' := by
  obtain ⟨r, hr⟩ : ∃ r, r = s % 9 := ⟨_, rfl⟩
  have hr9 : r < 9 := by omega
  have hmod : (s : Int) % 9 = (r : Int) := by omega
  obtain ⟨n, hn⟩ : ∃ n, n = 1 + r := ⟨_, rfl⟩
  have hadd : (1 : Int) + (r : Int) = (n : Int) := by omega
  have hn1 : 1 ≤ n := by omega
  have hn9 : n ≤ 9 := by omega
  have HN1 := Lib.hid hn1
  have HN9 := Lib.hid hn9
  obtain ⟨tf1, tf2, tf3, tf4, tf5⟩ := two_facts n p q
  have TF1 := Lib.hid tf1
  have TF2 := Lib.hid tf2
  have TF3 := Lib.hid tf3
  have TF4 := Lib.hid tf4
  have TF5 := Lib.hid tf5
  have HP := Lib.hid hp
  have HQ := Lib.hid hq
  clear hr hn hn1 hn9 tf1 tf2 tf3 tf4 tf5 hp hq
  go_enter Tryd.func5, Tryd.ntmps5
  go_wp2_with fail
  refine (awake_any w).mono ?_
  rintro e w1 ⟨rfl, hb1⟩
  have HB1 := Lib.hid hb1
  clear hb1
  go_wp2_with fail
  refine (new_any n w1 HN1.out (by have := HN9.out; omega)).mono ?_
  rintro e w2 ⟨g, F2, rfl, hd2, hF2, hb2⟩
  have HD2 := Lib.hid hd2
  have HF2 : Hid (∀ k, F2 k → w.heap.size ≤ k) := Lib.hid (fun k hk => Nat.le_trans HB1.out.size (hF2 k hk))
  have HB2 := Lib.hid (btr HB1.out hb2)
  clear hd2 hF2 hb2 HB1
  go_wp2_with fail
  refine (full_any vp p w2 (HP.out.below HB2.out)).mono ?_
  rintro e w3 ⟨v3, rfl, ho3, hb3⟩
  have HD3 := Lib.hid (HD2.out.below hb3)
  have HB3 := Lib.hid (btr HB2.out hb3)
  have HO3 := Lib.hid ho3.bytes
  clear ho3 hb3 HD2 HB2
  go_wp2_with fail
  refine (write_ok g (Dk.new n) F2 0 v3 (fullOf p) w3 HD3.out (by show 0 < (List.replicate n blank512).length; rw [List.length_replicate]; exact HN1.out) rfl HO3.out (fullOf_length p) (by show (-9223372036854775808 : Int) < 0; decide) (by show (0 : Int) ≤ 9223372036854775807; decide) (by show 0 ≤ 1000000; decide) (by show 0 ≤ 1000000; decide)).mono ?_
  rintro e w4 ⟨F4, rfl, hd4, hm4⟩
  have HD4 := Lib.hid hd4
  have HF4 := Lib.hid (hm4.ge HB3.out.size HF2.out)
  have HB4 := Lib.hid (HB3.out.trans (hm4.below HB3.out.size HF2.out))
  clear hd4 hm4 HD3 HB3 HO3 HF2
  by_cases hn1 : 1 < n
  rotate_left
  · have hk1 : decide ((1 : Int) < n) = false := decide_eq_false (by omega)
    have htw : two n p q = (Dk.new n).wrote 0 (fullOf p) := by unfold two; rw [if_neg hn1]
    have hd6 := HD4.out
    rw [← htw] at hd6
    have HD6 := Lib.hid hd6
    have hl4 : (two n p q).safe.length < 4 := by rw [TF1.out]; omega
    have HL4 := Lib.hid hl4
    have hk4 : decide ((n : Int) < 4) = true := decide_eq_true (by omega)
    clear hd6 htw hl4 HD4 hn1
    go_wp2_with fail
    refine (cformat_small g (two n p q) F4 w4 HD6.out HL4.out).mono ?_
    rintro e wf ⟨rfl, hwf⟩
    have hwf' := hwf.symm
    subst hwf'
    clear hwf
    go_wp2_with fail
    refine (cread_nil w4).mono ?_
    rintro e wn1 ⟨rfl, hbn1⟩
    have hvz : CrVal Cr.zero = .agg #[.int .u32 0, .int .u8 0, .int .u32 0] := rfl
    rw [hvz]
    have HBn1 := Lib.hid hbn1
    clear hbn1 hvz
    go_upto_region 11 with fail
    have hbn2 := bal HBn1.out (.cells #[.int .u32 0, .int .u8 0, .int .u32 0] 24)
    generalize wn1.alloc (.cells #[.int .u32 0, .int .u8 0, .int .u32 0] 24) = wn2 at *
    have HBn2 := Lib.hid hbn2
    clear hbn2 HBn1
    go_wp2_with fail
    refine (cformat_nil wn2).mono ?_
    rintro e wn3 ⟨rfl, hwn3⟩
    have hwn3' := hwn3.symm
    subst hwn3'
    clear hwn3
    go_wp2_with fail
    refine (first_any wn2).mono ?_
    rintro e wn4 ⟨rfl, hbn4⟩
    have HBn4 := Lib.hid (btr HBn2.out hbn4)
    clear hbn4 HBn2
    go_wp2_with fail
    refine (cwrite_nil Cr.first wn4 (by decide)).mono ?_
    rintro e wn5 ⟨rfl, hbn5⟩
    have hbn := btr HBn4.out hbn5
    have HDn := Lib.hid (HD6.out.below hbn)
    have HBn := Lib.hid (HB4.out.trans (hbn.mono HB4.out.size))
    clear hbn hbn5 HBn4
    go_wp2_with fail
    refine (cread_small g (two n p q) F4 wn5 HDn.out HL4.out).mono ?_
    rintro e wr ⟨rfl, hbr⟩
    have hvz : CrVal Cr.zero = .agg #[.int .u32 0, .int .u8 0, .int .u32 0] := rfl
    rw [hvz]
    have HBr := Lib.hid (HBn.out.trans (hbr.mono HBn.out.size))
    clear hbr hvz
    go_upto_region 14 with fail
    have HBe := Lib.hid (HBr.out.trans ((bal (bre wr) (.cells #[.int .u32 0, .int .u8 0, .int .u32 0] 24)).mono HBr.out.size))
    generalize wr.alloc (.cells #[.int .u32 0, .int .u8 0, .int .u32 0] 24) = we at *
    go_wp2_with fail
    go_ret
    exact ⟨rfl, HBe.out⟩
  have hk1 : decide ((1 : Int) < n) = true := decide_eq_true (by omega)
  go_wp2_with fail
  refine (full_any vq q w4 (HQ.out.below HB4.out)).mono ?_
  rintro e w5 ⟨v5, rfl, ho5, hb5⟩
  have HD5 := Lib.hid (HD4.out.below hb5)
  have HB5 := Lib.hid (btr HB4.out hb5)
  have HO5 := Lib.hid ho5.bytes
  clear ho5 hb5 HD4 HB4
  go_wp2_with fail
  refine (write_ok g ((Dk.new n).wrote 0 (fullOf p)) F4 1 v5 (fullOf q) w5 HD5.out (by show 1 < (List.replicate n blank512).length; rw [List.length_replicate]; exact hn1) rfl HO5.out (fullOf_length q) (by show (-9223372036854775808 : Int) < 0; decide) (by show (0 : Int) ≤ 9223372036854775807; decide) (by show 0 + 1 ≤ 1000000; decide) (by show 1 ≤ 1000000; decide)).mono ?_
  rintro e w6 ⟨F6, rfl, hd6, hm6⟩
  have htw : two n p q = ((Dk.new n).wrote 0 (fullOf p)).wrote 1 (fullOf q) := by unfold two; rw [if_pos hn1]
  rw [← htw] at hd6
  have HD6 := Lib.hid hd6
  have HF6 := Lib.hid (hm6.ge HB5.out.size HF4.out)
  have HB6 := Lib.hid (HB5.out.trans (hm6.below HB5.out.size HF4.out))
  clear hd6 hm6 htw HD5 HB5 HO5 HF4
  by_cases h4 : n < 4
  · have hl4 : (two n p q).safe.length < 4 := by rw [TF1.out]; exact h4
    have HL4 := Lib.hid hl4
    have hk4 : decide ((n : Int) < 4) = true := decide_eq_true (by omega)
    clear hl4 h4 hn1
    go_wp2_with fail
    refine (cformat_small g (two n p q) F6 w6 HD6.out HL4.out).mono ?_
    rintro e wf ⟨rfl, hwf⟩
    have hwf' := hwf.symm
    subst hwf'
    clear hwf
    go_wp2_with fail
    refine (cread_nil w6).mono ?_
    rintro e wn1 ⟨rfl, hbn1⟩
    have hvz : CrVal Cr.zero = .agg #[.int .u32 0, .int .u8 0, .int .u32 0] := rfl
    rw [hvz]
    have HBn1 := Lib.hid hbn1
    clear hbn1 hvz
    go_upto_region 11 with fail
    have hbn2 := bal HBn1.out (.cells #[.int .u32 0, .int .u8 0, .int .u32 0] 24)
    generalize wn1.alloc (.cells #[.int .u32 0, .int .u8 0, .int .u32 0] 24) = wn2 at *
    have HBn2 := Lib.hid hbn2
    clear hbn2 HBn1
    go_wp2_with fail
    refine (cformat_nil wn2).mono ?_
    rintro e wn3 ⟨rfl, hwn3⟩
    have hwn3' := hwn3.symm
    subst hwn3'
    clear hwn3
    go_wp2_with fail
    refine (first_any wn2).mono ?_
    rintro e wn4 ⟨rfl, hbn4⟩
    have HBn4 := Lib.hid (btr HBn2.out hbn4)
    clear hbn4 HBn2
    go_wp2_with fail
    refine (cwrite_nil Cr.first wn4 (by decide)).mono ?_
    rintro e wn5 ⟨rfl, hbn5⟩
    have hbn := btr HBn4.out hbn5
    have HDn := Lib.hid (HD6.out.below hbn)
    have HBn := Lib.hid (HB6.out.trans (hbn.mono HB6.out.size))
    clear hbn hbn5 HBn4
    go_wp2_with fail
    refine (cread_small g (two n p q) F6 wn5 HDn.out HL4.out).mono ?_
    rintro e wr ⟨rfl, hbr⟩
    have hvz : CrVal Cr.zero = .agg #[.int .u32 0, .int .u8 0, .int .u32 0] := rfl
    rw [hvz]
    have HBr := Lib.hid (HBn.out.trans (hbr.mono HBn.out.size))
    clear hbr hvz
    go_upto_region 14 with fail
    have HBe := Lib.hid (HBr.out.trans ((bal (bre wr) (.cells #[.int .u32 0, .int .u8 0, .int .u32 0] 24)).mono HBr.out.size))
    generalize wr.alloc (.cells #[.int .u32 0, .int .u8 0, .int .u32 0] 24) = we at *
    go_wp2_with fail
    go_ret
    exact ⟨rfl, HBe.out⟩
  go_wp2_with fail
  obtain ⟨ff1, ff2, ff3, ff4⟩ := formatted_facts (two n p q) (by rw [TF1.out]; omega) TF2.out TF3.out
  have FF1 := Lib.hid ff1
  have FF2 := Lib.hid ff2
  have FF3 := Lib.hid ff3
  have FF4 := Lib.hid ff4
  clear ff1 ff2 ff3 ff4
  refine (cformat_ok g (two n p q) F6 w6 HD6.out (by rw [TF1.out]; omega) TF2.out (by rw [TF3.out]; decide) (by rw [TF3.out]; decide) (by have := TF4.out; omega) (by have := TF5.out; omega)).mono ?_
  rintro e w7 ⟨F7, rfl, hd7, hm7⟩
  have HD7 := Lib.hid hd7
  have HB7 := Lib.hid (HB6.out.trans (hm7.below HB6.out.size HF6.out))
  clear hd7 hm7 HD6
  go_wp2_with fail
  refine (cread_nil w7).mono ?_
  rintro e wn1 ⟨rfl, hbn1⟩
  have hvz : CrVal Cr.zero = .agg #[.int .u32 0, .int .u8 0, .int .u32 0] := rfl
  rw [hvz]
  have HBn1 := Lib.hid hbn1
  clear hbn1 hvz
  go_upto_region 11 with fail
  have hbn2 := bal HBn1.out (.cells #[.int .u32 0, .int .u8 0, .int .u32 0] 24)
  generalize wn1.alloc (.cells #[.int .u32 0, .int .u8 0, .int .u32 0] 24) = wn2 at *
  have HBn2 := Lib.hid hbn2
  clear hbn2 HBn1
  go_wp2_with fail
  refine (cformat_nil wn2).mono ?_
  rintro e wn3 ⟨rfl, hwn3⟩
  have hwn3' := hwn3.symm
  subst hwn3'
  clear hwn3
  go_wp2_with fail
  refine (first_any wn2).mono ?_
  rintro e wn4 ⟨rfl, hbn4⟩
  have HBn4 := Lib.hid (btr HBn2.out hbn4)
  clear hbn4 HBn2
  go_wp2_with fail
  refine (cwrite_nil Cr.first wn4 (by decide)).mono ?_
  rintro e wn5 ⟨rfl, hbn5⟩
  have hbn := btr HBn4.out hbn5
  have HDn := Lib.hid (HD7.out.below hbn)
  have HBn := Lib.hid (HB7.out.trans (hbn.mono HB7.out.size))
  clear hbn hbn5 HBn4
  go_wp2_with fail
  refine (cread_ok g (two n p q).formatted F7 wn5 HDn.out (by rw [FF3.out, TF1.out]; omega) (by rw [FF4.out]; exact Nat.zero_le _)).mono ?_
  rintro e wr ⟨rfl, hbr⟩
  rw [FF2.out]
  have HDr := Lib.hid (HDn.out.below hbr)
  have HBr := Lib.hid (HBn.out.trans (hbr.mono HBn.out.size))
  have hvf : CrVal Cr.first = .agg #[.int .u32 1, .int .u8 0, .int .u32 0] := rfl
  rw [hvf]
  clear hbr hvf HDn HBn
  have hk4 : decide ((n : Int) < 4) = false := decide_eq_false (by omega)
  go_upto_region 16 with fail
  have hb8 := bal (bre wr) (.cells #[.int .u32 1, .int .u8 0, .int .u32 0] 24)
  have hr8 : Row3 _ wr.heap.size Cr.first := heap_alloc_new wr (.cells #[.int .u32 1, .int .u8 0, .int .u32 0] 24)
  generalize wr.alloc (.cells #[.int .u32 1, .int .u8 0, .int .u32 0] 24) = w8 at *
  obtain ⟨n15, hn15⟩ : ∃ n, n = wr.heap.size := ⟨_, rfl⟩
  rw [← hn15] at hr8 ⊢
  have HD8 := Lib.hid (HDr.out.below hb8)
  have HB8 := Lib.hid (HBr.out.trans (hb8.mono HBr.out.size))
  have HSB : Hid (∀ w', Below w8.heap.size w8 w' → (w'.cell? ⟨n15, 0, none⟩ = some (.int .u32 1) ∧ w'.cell? ⟨n15, 1, none⟩ = some (.int .u8 0) ∧ w'.cell? ⟨n15, 2, none⟩ = some (.int .u32 0))) := Lib.hid (fun w' hb => ⟨(hr8.below hb).c0, (hr8.below hb).c1, (hr8.below hb).c2⟩)
  have hs0 := HSB.out w8 (bre w8)
  have HFIRST : Hid (∀ w', Calls Tryd.prog 18 #[] w' fun e w'' => e = .returned (.agg #[.int .u32 1, .int .u8 0, .int .u32 0]) ∧ Below w'.heap.size w' w'') := Lib.hid (fun w' => first_any w')
  have HBLK : Hid (∀ w', Below w8.heap.size w8 w' → Calls Tryd.prog 21 #[.pointer (some ⟨g, 0, none⟩), .int .i64 0] w' fun e w'' => e = .returned (.bool true) ∧ Below w'.heap.size w' w'') := Lib.hid (fun w' hb => (blank_ok g _ F7 0 w' (HD8.out.below hb) (by rw [FF3.out, TF1.out]; omega) (by rw [FF4.out]; exact Nat.zero_le _)).mono (fun e w2 h => ⟨by rw [h.1, FF1.out, decide_eq_true rfl], h.2⟩))
  have HWT : Hid (∀ w', Below w8.heap.size w8 w' → Calls Tryd.prog 22 #[.pointer (some ⟨g, 0, none⟩)] w' fun e w'' => ∃ (a : Option Addr) (c : Nat), e = .returned (.slice a 0 c) ∧ Below w'.heap.size w' w'') := Lib.hid (fun w' hb => (waiting_any g _ F7 w' (HD8.out.below hb) (by rw [FF4.out]; exact Nat.zero_le _)).mono (fun e w2 h => by
    obtain ⟨v, h1, h2, h3⟩ := h
    rw [FF4.out] at h2
    rcases h2.2 with ⟨h', -⟩ | ⟨gg, cap, cur, h', -⟩
    · exact ⟨none, 0, by rw [h1, h'], h3⟩
    · exact ⟨_, cap, by rw [h1, h']; rfl, h3⟩))
  have HWA : Hid (∀ w', Calls Tryd.prog 20 #[.pointer (some ⟨g, 0, none⟩), .agg #[.int .u32 2, .int .u8 2, .int .u32 0]] w' fun e w'' => e = .returned (.int .i64 1) ∧ Below w'.heap.size w' w'') := Lib.hid (fun w' => cwrite_arg g ⟨2, 2, 0⟩ w' (by decide))
  clear hb8 hr8 hn15 HDr HBr
  go_region_held3 (fun w' => (w'.cell? ⟨n15, 0, none⟩ = some (.int .u32 1) ∧ w'.cell? ⟨n15, 1, none⟩ = some (.int .u8 0) ∧ w'.cell? ⟨n15, 2, none⟩ = some (.int .u32 0))) (first | exact hs0 | (with_reducible exact HSB.out _ hbb4) | (with_reducible exact HSB.out _ hbb3) | (with_reducible exact HSB.out _ hbb2) | (with_reducible exact HSB.out _ hbb1) | exact HSB.out _ (bdr (bre w8))) (first | (go_at_call 18; refine (HFIRST.out _).mono ?_; rintro e wa1 ⟨rfl, hba1⟩; have hbb1 := btr (bdr (bre w8)) hba1) | (go_at_call 21; refine (HBLK.out _ hbb1).mono ?_; rintro e wa2 ⟨rfl, hba2⟩; have hbb2 := btr hbb1 hba2) | (go_at_call 22; refine (HWT.out _ hbb2).mono ?_; rintro e wa3 ⟨aw, cw, rfl, hba3⟩; have hbb3 := btr hbb2 hba3) | (go_at_call 20; refine (HWA.out _).mono ?_; rintro e wa4 ⟨rfl, hba4⟩; have hbb4 := btr hbb3 hba4))
  have HFIN := Lib.hid (HB8.out.trans (hbb4.mono HB8.out.size))
  clear hs0 HSB HFIRST HBLK HWT HWA hbb1 hbb2 hbb3 hbb4 hba1 hba2 hba3 hba4
  go_wp2_with fail
  go_ret
  exact ⟨rfl, HFIN.out⟩
end Go.Proofs.YtejdlgfiiagcmaaDoor
