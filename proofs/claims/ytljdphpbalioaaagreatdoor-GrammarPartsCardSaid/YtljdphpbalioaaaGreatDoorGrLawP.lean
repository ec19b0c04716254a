/- Walk: the law of parts. -/
import Derived.Test.YtljdphpbalioaaaGreatDoorGrLawA
import Derived.Test.YtljdphpbalioaaaGreatDoorGpL
namespace Go.Proofs.YtljdphpbalioaaaGreatDoor
open Go.RowKit

theorem extract_mk8 (l : Bs) (k : Nat) : (mk8 l).extract 0 k = mk8 (l.take k) := by
  apply ByteArray.ext
  rw [ByteArray.data_extract]
  show l.toArray.extract 0 k = (l.take k).toArray
  simp
theorem indexByte_no : ∀ {l : Bs} {c : UInt8}, Lib.indexByte l c < 0 → ∀ b ∈ l, b ≠ c
  | [], c, _, b, hb => nomatch hb
  | x :: l, c, h, b, hb => by
    rw [Lib.indexByte] at h
    by_cases hx : (x == c) = true
    · rw [if_pos hx] at h; exact absurd h (by decide)
    rw [if_neg hx] at h
    have h2 : Lib.indexByte l c < 0 := by
      by_cases h3 : (Lib.indexByte l c == -1) = true
      · have := beq_iff_eq.1 h3; omega
      · rw [if_neg h3] at h; omega
    rcases List.mem_cons.1 hb with rfl | hb
    · intro e; exact hx (by rw [e]; exact beq_self_eq_true _)
    · exact indexByte_no h2 b hb
theorem mk8_sz (a : Bs) : (mk8 a).size = a.length := by show a.toArray.size = _; simp
theorem mk8_add (a b : Bs) : mk8 a ++ mk8 b = mk8 (a ++ b) := by
  apply ByteArray.ext
  rw [ByteArray.data_append]
  show a.toArray ++ b.toArray = (a ++ b).toArray
  simp

set_option maxRecDepth 100000 in
set_option maxHeartbeats 3200000 in
theorem parts_calls (s : ByteArray) (hs : s.size ≤ 9223372036854775807) (c : Nat) (hc0 : c < 65536) (w : World) (ht : Tb w.heap.size w) (hm : MlAt w) :
    Calls Tryz.prog 3 #[.string s, .int .u16 c] w fun e w' => e = .returned (.bool true) ∧ Below w.heap.size w w' := by
  have HT := Lib.hid ht
  have HM := Lib.hid hm
  have HC0 := Lib.hid hc0
  clear hc0
  obtain ⟨l, hl⟩ : ∃ l : Bs, firstOf s 800 = mk8 l := ⟨(firstOf s 800).data.toList, by cases (firstOf s 800); rename_i d; cases d; rfl⟩
  have hlen : l.length ≤ 800 := by
    have := first_size s 800
    rw [hl, mk8_sz] at this
    exact this
  have HL := Lib.hid hl
  have HLEN := Lib.hid hlen
  clear ht hm hl hlen
  go_enter Tryz.func3, Tryz.ntmps3
  go_wp2_with fail
  refine (awake_any w HT.out).mono ?_
  rintro e w1 ⟨rfl, hb1⟩
  have HB1 := Lib.hid hb1
  have HT1 := Lib.hid (tb_on HT.out hb1)
  have HM1 := Lib.hid (HM.out.below hb1)
  clear hb1 HT HM
  go_wp2_with fail
  refine (text_any s 800 w1 hs (by decide)).mono ?_
  rintro e w2 ⟨rfl, hw⟩
  have hw' := hw.symm
  subst hw'
  rw [HL.out]
  clear hw HL hs
  go_wp2_with fail
  refine (parse_text l w1 HT1.out).mono ?_
  rintro e w2 ⟨hb2, h⟩
  have HB2 := Lib.hid (btr HB1.out hb2)
  have HT2 := Lib.hid (tb_on HT1.out hb2)
  have HM2 := Lib.hid (HM1.out.below hb2)
  clear hb2 HB1 HT1 HM1
  rcases h with ⟨h1, rfl⟩ | ⟨h1, ga, ba, rfl, har⟩
  · have e1 : (((parsed l).1 : Int) != 0) = true := by
      rw [bne_iff_ne]
      omega
    generalize (parsed l).1 = E at *
    unfold retP
    go_wp2_with fail
    go_ret
    exact ⟨rfl, HB2.out⟩
  have HAR := Lib.hid har
  have HP := Lib.hid h1
  unfold retP
  clear har h1
  by_cases hc : Lib.contains l lastB = true
  · go_wp2_with fail
    refine (contains_last l w2 HM2.out (by have := HLEN.out; omega)).mono ?_
    rintro e w' ⟨rfl, hw⟩
    have hw' := hw.symm
    subst hw'
    rw [hc]
    clear hw
    go_wp2_with fail
    go_ret
    exact ⟨rfl, HB2.out⟩
  have hc' : Lib.contains l lastB = false := by
    cases h : Lib.contains l lastB with
    | true => exact absurd h hc
    | false => rfl
  have HC := Lib.hid (index_infix (s := l) (sub := lastB) (by unfold Lib.contains at hc'; have := of_decide_eq_false hc'; omega))
  clear hc
  by_cases hd : decide (0 ≤ Lib.indexByte l 35) = true
  · go_wp2_with fail
    refine (contains_last l w2 HM2.out (by have := HLEN.out; omega)).mono ?_
    rintro e w' ⟨rfl, hw⟩
    have hw' := hw.symm
    subst hw'
    rw [hc']
    clear hw
    go_wp2_with fail
    refine (contains_hash l w2).mono ?_
    rintro e w' ⟨rfl, hw⟩
    have hw' := hw.symm
    subst hw'
    rw [hd]
    clear hw
    go_wp2_with fail
    go_ret
    exact ⟨rfl, HB2.out⟩
  have hd' : decide (0 ≤ Lib.indexByte l 35) = false := by
    cases h : decide (0 ≤ Lib.indexByte l 35) with
    | true => exact absurd h hd
    | false => rfl
  have HNO : Hid (∀ b ∈ l, b.toNat ≠ 35) := Lib.hid fun b hb e => indexByte_no (c := 35) (by have := of_decide_eq_false hd'; omega) b hb (UInt8.toNat_inj.1 e)
  clear hd
  have HPL := Lib.hid (parsed_last HLEN.out HNO.out HC.out HP.out)
  have s1 : (mk8 l ++ (⟨#[10, 109, 111, 100, 117, 108, 101, 32, 108, 97, 115, 116, 95, 111, 102, 95, 97, 108, 108, 32, 123, 32, 102, 117, 110, 99, 32, 102, 40, 41, 32, 105, 110, 116, 32, 123, 32, 114, 101, 116, 117, 114, 110, 32, 49, 59, 32, 125, 32, 125]⟩ : ByteArray)).size ≤ 900 := by rw [ByteArray.size_append, mk8_sz]; have := HLEN.out; show l.length + 50 ≤ 900; omega
  have HE : Hid (mk8 l ++ (⟨#[10, 109, 111, 100, 117, 108, 101, 32, 108, 97, 115, 116, 95, 111, 102, 95, 97, 108, 108, 32, 123, 32, 102, 117, 110, 99, 32, 102, 40, 41, 32, 105, 110, 116, 32, 123, 32, 114, 101, 116, 117, 114, 110, 32, 49, 59, 32, 125, 32, 125]⟩ : ByteArray) = mk8 (l ++ 10 :: tailB)) := Lib.hid (mk8_add l (10 :: tailB))
  go_wp2_with fail
  refine (contains_last l w2 HM2.out (by have := HLEN.out; omega)).mono ?_
  rintro e w' ⟨rfl, hw⟩
  have hw' := hw.symm
  subst hw'
  rw [hc']
  clear hw
  go_wp2_with fail
  refine (contains_hash l w2).mono ?_
  rintro e w' ⟨rfl, hw⟩
  have hw' := hw.symm
  subst hw'
  rw [hd']
  clear hw
  go_upto_region 7 with fail
  obtain ⟨S, hS⟩ : ∃ S, S = mk8 l := ⟨_, rfl⟩
  rw [← hS] at s1 HE ⊢
  have z0 : S.size ≤ 800 := by rw [hS, mk8_sz]; exact HLEN.out
  have HS := Lib.hid hS
  clear hS
  go_wp2_with fail
  rw [HE.out]
  clear s1 HE hc' hd' HC HM2
  refine (parse_text (l ++ 10 :: tailB) w2 HT2.out).mono ?_
  rintro e w3 ⟨hb3, h⟩
  have HB3 := Lib.hid (btr HB2.out hb3)
  have HT3 := Lib.hid (tb_on HT2.out hb3)
  have HA3 := Lib.hid (HAR.out.below hb3)
  clear hb3 HB2 HT2 HAR
  rcases h with ⟨h1, -⟩ | ⟨-, gb, bb, rfl, har⟩
  · exact absurd HPL.out.1 h1
  have HR3 := Lib.hid har
  clear har
  unfold retP
  have hf := HA3.out.few
  have hq := HPL.out.2
  obtain ⟨n, hn⟩ : ∃ n, n = (parsed l).2.length := ⟨_, rfl⟩
  have HLA := Lib.hid (fun w h => arlen_any ga ba (parsed l).2 w h)
  have HLB := Lib.hid (fun w h => arlen_any gb bb (parsed (l ++ 10 :: tailB)).2 w h)
  rw [hq] at HLB
  rw [← hn] at HLA HLB hf
  have e5 : wrap64 ((n : Int) + 5) = ((n + 5 : Nat) : Int) := by unfold wrap64; omega
  have e6 : ((((n + 5 : Nat) : Int)) != ((n + 5 : Nat) : Int)) = false := by simp
  clear hq hn
  go_wp2_with fail
  refine (HLB.out w3 HR3.out).mono ?_
  rintro e w' ⟨rfl, hw⟩
  have hw' := hw.symm
  subst hw'
  clear hw
  go_wp2_with fail
  refine (HLA.out w3 HA3.out).mono ?_
  rintro e w' ⟨rfl, hw⟩
  have hw' := hw.symm
  subst hw'
  clear hw
  have e7 : (((n : Int) + 5) != ((n + 5 : Nat) : Int)) = false := by simp
  have e8 : ((((n + 5 : Nat) : Int)) != (n : Int) + 5) = false := by simp
  go_upto_region 10 with fail
  have zs : S.size = l.length := by rw [HS.out, mk8_sz]
  have HF := Lib.hid (fun k => show S.extract 0 k = mk8 (l.take k) by rw [HS.out, extract_mk8])
  obtain ⟨N, hN⟩ : ∃ N, N = l.length := ⟨_, rfl⟩
  have zn : N ≤ 800 := by rw [hN]; exact HLEN.out
  rw [← hN] at zs
  have HN := Lib.hid hN
  obtain ⟨k, hk⟩ : ∃ k, k = c % (N + 1) := ⟨_, rfl⟩
  have k1 : wrap64 ((N : Int) + 1) = ((N + 1 : Nat) : Int) := by unfold wrap64; omega
  have k2 : ((wrap64 (c : Int)).tmod ((N : Int) + 1)) = (k : Int) := by
    have e : wrap64 (c : Int) = (c : Int) := by have := HC0.out; unfold wrap64; omega
    rw [e, hk]
    rfl
  have k3 : (k : Int) ≤ N := by have := Nat.mod_lt c (show 0 < N + 1 by omega); omega
  have k4 : (0 : Int) ≤ (k : Int) := by omega
  clear hN hk e7 e8 e5 e6 hf
  go_wp2_with fail
  have hex : S.extract 0 k = mk8 (l.take k) := HF.out k
  first | rw [hex] | (simp only [Int.toNat_natCast]; rw [hex])
  obtain ⟨f, hf⟩ : ∃ f, f = l.take k := ⟨_, rfl⟩
  rw [← hf]
  have hfl : f.length ≤ 800 := by rw [hf, List.length_take]; have := HLEN.out; omega
  have HNF : Hid (f.count 123 ≠ f.count 125 → (parsed f).1 = 20) := Lib.hid fun h => braces_bad (fun b hb => HNO.out b (by rw [hf] at hb; exact List.mem_of_mem_take hb)) (by omega) h
  have HFL := Lib.hid hfl
  clear hex hf hfl k1 k2 k3 k4 zs zn
  refine (parse_text f w3 HT3.out).mono ?_
  rintro e w4 ⟨hb4, h⟩
  have HB4 := Lib.hid (btr HB3.out hb4)
  clear hb4 HB3 HT3
  obtain ⟨pv, hpv⟩ : ∃ p, e = .returned (.tuple #[.pointer p, .int .i64 ((parsed f).1 : Nat)]) := by
    rcases h with ⟨-, rfl⟩ | ⟨h0, ga, ba, rfl, -⟩
    · exact ⟨_, rfl⟩
    · rw [h0]; exact ⟨_, rfl⟩
  subst hpv
  clear h
  obtain ⟨E, hE⟩ : ∃ E, E = (parsed f).1 := ⟨_, rfl⟩
  rw [← hE] at HNF ⊢
  clear hE
  go_wp2_with fail
  refine (count_any f 123 w4).mono ?_
  rintro e w' ⟨rfl, hw⟩
  have hw' := hw.symm
  subst hw'
  clear hw
  go_wp2_with fail
  refine (count_any f 125 w4).mono ?_
  rintro e w' ⟨rfl, hw⟩
  have hw' := hw.symm
  subst hw'
  clear hw
  rw [show Lib.countByte f 123 = f.count 123 from rfl, show Lib.countByte f 125 = f.count 125 from rfl]
  obtain ⟨x, hx⟩ : ∃ x, x = f.count 123 := ⟨_, rfl⟩
  obtain ⟨y, hy⟩ : ∃ y, y = f.count 125 := ⟨_, rfl⟩
  rw [← hx, ← hy] at HNF ⊢
  clear hx hy
  by_cases hxy : x = y
  · have q1 : ((x : Int) == (y : Int)) = true := by rw [hxy]; exact beq_self_eq_true _
    clear hxy
    go_wp2_with fail
    go_ret
    exact ⟨rfl, HB4.out⟩
  · have q1 : ((x : Int) == (y : Int)) = false := beq_eq_false_iff_ne.2 (by omega)
    have hE := HNF.out hxy
    subst hE
    clear hxy
    go_wp2_with fail
    go_ret
    exact ⟨rfl, HB4.out⟩
end Go.Proofs.YtljdphpbalioaaaGreatDoor
