/- Walk: the law of lines that are read. -/
import Derived.Test.YtminfdlhbecnhaaDoorOpRTxt
namespace Go.Proofs.YtminfdlhbecnhaaDoor
open Go.RowKit

def firstOf (s : ByteArray) (k : Nat) : ByteArray := s.extract 0 (min s.size k)
theorem first_size (s : ByteArray) (k : Nat) : (firstOf s k).size ≤ k := by
  unfold firstOf
  rw [ByteArray.size_extract]
  omega

set_option maxRecDepth 10000 in
theorem first_any (s : ByteArray) (k : Nat) (w : World) (hs : s.size ≤ 9223372036854775807) (hk : k ≤ 1000000) :
    Calls Tryd.prog 16 #[.string s, .int .i64 k] w fun e w' => e = .returned (.string (firstOf s k)) ∧ w' = w := by
  go_enter Tryd.func16, Tryd.ntmps16
  go_wp2_with (with_reducible refine wpList_min rfl _ _ _ rfl _ _ _ rfl rfl ?_; intro r hr; have hr2 : 0 ≤ r ∧ r ≤ (s.size : Int) := (by have := hr.out; split at this <;> omega); have hr3 : r.toNat = min s.size k := (by have := hr.out; split at this <;> omega))
  go_ret
  refine ⟨?_, rfl⟩
  unfold firstOf
  rw [← hr3]
  rfl

/-- the letters that are wanted -/
def wantOf (c1 c2 c3 : Bool) : List UInt8 := (if c1 then [65] else []) ++ (if c2 then [66] else []) ++ (if c3 then [78] else [])
/-- the line -/
def lineOf (k a b : Nat) (nm : ByteArray) (c1 c2 c3 : Bool) : ByteArray := catIf (catIf (catIf (mk8 (wordOf k)) c1 (mk8 (Lib.decDigits a))) c2 (mk8 (Lib.decDigits b))) c3 nm

theorem cat_size (x : ByteArray) (q : Bool) (y : ByteArray) : (catIf x q y).size ≤ x.size + 1 + y.size := by
  unfold catIf
  cases q
  · simp; omega
  · rw [if_pos rfl, ByteArray.size_append, ByteArray.size_append]; show x.size + (1 + y.size) ≤ _; omega

theorem want_has (c1 c2 c3 : Bool) : hasB (wantOf c1 c2 c3) 65 = c1 ∧ hasB (wantOf c1 c2 c3) 66 = c2 ∧ hasB (wantOf c1 c2 c3) 78 = c3 := by
  cases c1 <;> cases c2 <;> cases c3 <;> decide

theorem line_right {k a b : Nat} {nm : ByteArray} {c1 c2 c3 : Bool} (h1 : 1 ≤ k) (h2 : k ≤ 14) (ha : a < 18446744073709551616) (hb : b < 18446744073709551616) (hp : wantOf c1 c2 c3 = partsOf k) (q1 : c1 = true → 0 < a) (q2 : c2 = true → 0 < b) (q3 : c3 = true → nameB nm = true) :
    LineOf (lineOf k a b nm c1 c2 c3).data.toList k (if c1 then a else 0) (if c2 then b else 0) (if c3 then nm else ⟨#[]⟩) := by
  obtain ⟨e1, e2, e3, -, -⟩ := has_parts k h1 h2
  obtain ⟨g1, g2, g3⟩ := want_has c1 c2 c3
  rw [← hp, g1] at e1
  rw [← hp, g2] at e2
  rw [← hp, g3] at e3
  have hn0 : c3 = true → nm.size ≠ 0 := fun h hz => by
    have := q3 h
    rw [name_size hz] at this
    cases this
  have d1 : decide ((if c1 then a else 0) ≠ 0) = c1 := by
    cases c1
    · rfl
    · exact decide_eq_true (by have := q1 rfl; simp; omega)
  have d2 : decide ((if c2 then b else 0) ≠ 0) = c2 := by
    cases c2
    · rfl
    · exact decide_eq_true (by have := q2 rfl; simp; omega)
  have d3 : decide ((if c3 then nm else (⟨#[]⟩ : ByteArray)).size ≠ 0) = c3 := by
    cases c3
    · rfl
    · exact decide_eq_true (by simpa using hn0 rfl)
  have d4 : (decide ((if c3 then nm else (⟨#[]⟩ : ByteArray)).size = 0) || nameB (if c3 then nm else ⟨#[]⟩)) = true := by
    cases c3
    · rfl
    · rw [if_pos rfl, q3 rfl, Bool.or_true]
  have hright : rightB k (if c1 then a else 0) (if c2 then b else 0) (if c3 then nm else ⟨#[]⟩) = true := by
    unfold rightB
    rw [decide_eq_true h1, decide_eq_true h2, d1, d2, d3, d4, ← e1, ← e2, ← e3]
    simp
  refine ⟨hright, by split <;> omega, by split <;> omega, ?_⟩
  have hc := txt_cat hright
  have hq : (lineOf k a b nm c1 c2 c3) = mk8 (txtOf k (if c1 then a else 0) (if c2 then b else 0) (if c3 then nm else ⟨#[]⟩)) := by
    rw [hc]
    unfold lineOf
    rw [d1, d2, d3]
    cases c1 <;> cases c2 <;> cases c3 <;> rfl
  rw [hq]
  rfl

set_option linter.unusedSimpArgs false in
set_option maxRecDepth 100000 in
set_option maxHeartbeats 3200000 in
theorem reads_calls (k a b : Nat) (nm : ByteArray) (h : Nat) (ha : a < 4294967296) (hb : b < 4294967296) (hs : nm.size ≤ 9223372036854775807) (hh : h < 256) (w : World) (ht : Tabs w) (hv : RdVars w) :
    Calls Tryd.prog 6 #[.int .u8 k, .int .u32 a, .int .u32 b, .string nm, .int .u8 h] w fun e w' => e = .returned (.bool true) ∧ Below w.heap.size w w' := by
  have HT := Lib.hid ht
  have HV := Lib.hid hv
  obtain ⟨r, hr⟩ : ∃ r, r = k % 14 := ⟨_, rfl⟩
  have hri : (k : Int) % 14 = r := by omega
  have hr14 : r < 14 := by omega
  obtain ⟨kk, hkk⟩ : ∃ kk, kk = r + 1 := ⟨_, rfl⟩
  have hwr : IntKind.u8.wrap (1 + (r : Int)) = (kk : Int) := by rw [IntKind.wrap_u8]; omega
  have hk1 : 1 ≤ kk := by omega
  have hk14 : kk ≤ 14 := by omega
  have HTX := Lib.hid (fun w' => first_any nm 70 w' hs (by omega))
  have hsz := first_size nm 70
  clear ht hv hr hs hkk
  go_enter Tryd.func6, Tryd.ntmps6
  go_wp2_with fail
  refine (awake_any w HT.out).mono ?_
  rintro e w1 ⟨rfl, hb1⟩
  have HB1 := Lib.hid hb1
  clear hb1
  go_wp2_with fail
  refine (HTX.out w1).mono ?_
  rintro e w2 ⟨rfl, hw⟩
  have hw' := hw.symm
  subst hw'
  clear hw HTX
  generalize firstOf nm 70 = n7 at *
  go_wp2_with fail
  refine (parts_any kk (by omega) w1).mono ?_
  rintro e w2 ⟨rfl, hb2⟩
  have HB2 := Lib.hid (btr HB1.out hb2)
  rw [strV_mk, strV_mk]
  clear hb2 HB1 hri hwr hr14
  obtain ⟨-, -, -, -, hpl⟩ := has_parts kk hk1 hk14
  have hwl := word_len kk
  have ztw : (mk8 (wordOf kk)).size ≤ 13 := by rw [← str_len]; exact hwl
  generalize htw : mk8 (wordOf kk) = tw at *
  generalize htp : mk8 (partsOf kk) = tp at *
  have HTW := Lib.hid htw
  have HTP := Lib.hid htp
  clear htw htp hpl hwl
  have HDA := Lib.hid (rdec_any a (by omega))
  have HDB := Lib.hid (rdec_any b (by omega))
  have za := dec_size a (by omega)
  have zb := dec_size b (by omega)
  generalize hta : mk8 (Lib.decDigits a) = ta at *
  generalize htb : mk8 (Lib.decDigits b) = tb at *
  have HTA := Lib.hid hta
  have HTB := Lib.hid htb
  have hwa : IntKind.u64.wrap (a : Int) = (a : Int) := by rw [IntKind.wrap_u64]; omega
  have hwb : IntKind.u64.wrap (b : Int) = (b : Int) := by rw [IntKind.wrap_u64]; omega
  obtain ⟨h2, hh2⟩ : ∃ q, q = h / 2 := ⟨_, rfl⟩
  obtain ⟨h4, hh4⟩ : ∃ q, q = h / 4 := ⟨_, rfl⟩
  obtain ⟨m1, hm1⟩ : ∃ q, q = h % 2 := ⟨_, rfl⟩
  obtain ⟨m2, hm2⟩ : ∃ q, q = h2 % 2 := ⟨_, rfl⟩
  obtain ⟨m4, hm4⟩ : ∃ q, q = h4 % 2 := ⟨_, rfl⟩
  have g2 : IntKind.u8.wrap ((h : Int) / 2) = (h2 : Int) := by rw [IntKind.wrap_u8]; omega
  have g4 : IntKind.u8.wrap ((h : Int) / 4) = (h4 : Int) := by rw [IntKind.wrap_u8]; omega
  have HG : Hid ((h : Int) % 2 = m1 ∧ (h2 : Int) % 2 = m2 ∧ (h4 : Int) % 2 = m4) := Lib.hid ⟨by omega, by omega, by omega⟩
  have HG2 := Lib.hid g2
  have HG4 := Lib.hid g4
  have HM : Hid ((m1 = 0 ∨ m1 = 1) ∧ (m2 = 0 ∨ m2 = 1) ∧ (m4 = 0 ∨ m4 = 1)) := Lib.hid ⟨by omega, by omega, by omega⟩
  obtain ⟨c1, hc1⟩ : ∃ q, q = decide (m1 = 1) := ⟨_, rfl⟩
  obtain ⟨c2, hc2⟩ : ∃ q, q = decide (m2 = 1) := ⟨_, rfl⟩
  obtain ⟨c3, hc3⟩ : ∃ q, q = decide (m4 = 1) := ⟨_, rfl⟩
  have HC1 := Lib.hid hc1
  have HC2 := Lib.hid hc2
  have HC3 := Lib.hid hc3
  clear hta htb hh2 hh4 hm1 hm2 hm4 hc1 hc2 hc3 g2 g4 hh
  have e1 := HG.out.1
  go_upto_if 33 with fail
  go_cut [13, 14] from 31 to 41 (fun l t w' => l = .string (catIf tw c1 ta) ∧ t = .string (mk8 (wantOf c1 false false)) ∧ w' = w2)
  case first =>
    have ho := HM.out.1
    have HX := HC1
    have s1 : (tw ++ (⟨#[32]⟩ : ByteArray)).size ≤ 14 := by rw [ByteArray.size_append]; show tw.size + 1 ≤ 14; omega
    rcases ho with rfl | rfl
    · have hc : c1 = false := HX.out
      subst hc
      go_wp2_with fail
      go_meet
      case rel => exact ⟨rfl, rfl, rfl⟩
    · have hc : c1 = true := HX.out
      subst hc
      go_wp2_with fail
      refine (HDA.out w2).mono ?_
      rintro e w3 ⟨rfl, hw⟩
      have hw' := hw.symm
      subst hw'
      clear hw
      go_wp2_with fail
      go_meet
      case rel => exact ⟨by unfold catIf; rw [if_pos rfl, ByteArray.append_assoc], by rfl, rfl⟩
  case rest =>
    obtain ⟨rfl, rfl, hwc⟩ := hcut
    have hwc' := hwc.symm
    subst hwc'
    clear hwc
    have zx : (catIf tw c1 ta).size ≤ 34 := by
      have := cat_size tw c1 ta
      omega
    generalize hx1 : catIf tw c1 ta = x1 at *
    have HX1 := Lib.hid hx1
    clear hx1
    have zt : (mk8 (wantOf c1 false false)).size ≤ 3 := by cases c1 <;> decide
    have ht1 : mk8 (wantOf c1 false false) ++ (⟨#[66]⟩ : ByteArray) = mk8 (wantOf c1 true false) := by cases c1 <;> rfl
    have ht2 : mk8 (wantOf c1 false false) = mk8 (wantOf c1 false false) := rfl
    have HT1 := Lib.hid ht1
    clear ht1 ht2
    generalize htt : mk8 (wantOf c1 false false) = t1 at *
    have HTT := Lib.hid htt
    clear htt
    have g2 := HG2.out
    have e2 := HG.out.2.1
    go_upto_if 45 with fail
    go_cut [13, 14] from 42 to 53 (fun l t w' => l = .string (catIf x1 c2 tb) ∧ t = .string (mk8 (wantOf c1 c2 false)) ∧ w' = w2)
    case first =>
      have ho := HM.out.2.1
      have HX := HC2
      have s1 : (x1 ++ (⟨#[32]⟩ : ByteArray)).size ≤ 35 := by rw [ByteArray.size_append]; show x1.size + 1 ≤ 35; omega
      rcases ho with rfl | rfl
      · have hc : c2 = false := HX.out
        subst hc
        go_wp2_with fail
        go_meet
        case rel => exact ⟨rfl, by rw [← HTT.out], rfl⟩
      · have hc : c2 = true := HX.out
        subst hc
        go_wp2_with fail
        refine (HDB.out w2).mono ?_
        rintro e w3 ⟨rfl, hw⟩
        have hw' := hw.symm
        subst hw'
        clear hw
        go_wp2_with fail
        go_meet
        case rel => exact ⟨by unfold catIf; rw [if_pos rfl, ByteArray.append_assoc], by rw [HT1.out], rfl⟩
    case rest =>
      obtain ⟨rfl, rfl, hwc⟩ := hcut
      have hwc' := hwc.symm
      subst hwc'
      clear hwc
      have zy : (catIf x1 c2 tb).size ≤ 55 := by
        have := cat_size x1 c2 tb
        omega
      generalize hx2 : catIf x1 c2 tb = x2 at *
      have HX2 := Lib.hid hx2
      clear hx2
      have zt2 : (mk8 (wantOf c1 c2 false)).size ≤ 3 := by cases c1 <;> cases c2 <;> decide
      have ht1 : mk8 (wantOf c1 c2 false) ++ (⟨#[78]⟩ : ByteArray) = mk8 (wantOf c1 c2 true) := by cases c1 <;> cases c2 <;> rfl
      have HT2 := Lib.hid ht1
      clear ht1
      generalize htt : mk8 (wantOf c1 c2 false) = t2 at *
      have HTT2 := Lib.hid htt
      clear htt
      have g4 := HG4.out
      have e4 := HG.out.2.2
      go_upto_if 57 with fail
      go_cut [13, 14] from 54 to 63 (fun l t w' => l = .string (catIf x2 c3 n7) ∧ t = .string (mk8 (wantOf c1 c2 c3)) ∧ w' = w2)
      case first =>
        have ho := HM.out.2.2
        have HX := HC3
        have s1 : (x2 ++ (⟨#[32]⟩ : ByteArray)).size ≤ 56 := by rw [ByteArray.size_append]; show x2.size + 1 ≤ 56; omega
        rcases ho with rfl | rfl
        · have hc : c3 = false := HX.out
          subst hc
          go_wp2_with fail
          go_meet
          case rel => exact ⟨rfl, by rw [← HTT2.out], rfl⟩
        · have hc : c3 = true := HX.out
          subst hc
          go_wp2_with fail
          go_meet
          case rel => exact ⟨by unfold catIf; rw [if_pos rfl, ByteArray.append_assoc], by rw [HT2.out], rfl⟩
      case rest =>
        obtain ⟨rfl, rfl, hwc⟩ := hcut
        have hwc' := hwc.symm
        subst hwc'
        clear hwc
        have zz : (catIf x2 c3 n7).size ≤ 127 := by
          have := cat_size x2 c3 n7
          omega
        have hln : catIf x2 c3 n7 = lineOf kk a b n7 c1 c2 c3 := by
          unfold lineOf
          rw [HTW.out, HTA.out, HTB.out, HX1.out, HX2.out]
        obtain ⟨LN, hLN⟩ : ∃ LN, LN = catIf x2 c3 n7 := ⟨_, rfl⟩
        rw [← hLN] at zz hln ⊢
        have HLN := Lib.hid hln
        obtain ⟨WT, hWT⟩ : ∃ WT, WT = mk8 (wantOf c1 c2 c3) := ⟨_, rfl⟩
        rw [← hWT]
        have HWT := Lib.hid hWT
        have HVR := Lib.hid (HV.out.below HB2.out)
        have HTR := Lib.hid (HT.out.below HB2.out)
        clear hLN hWT hln HX1 HX2 HTT HTT2 HT1 HT2 HTW HTA HTB HDA HDB g2 g4 e1 e2 e4 zt zt2 zx zy za zb ztw hwa hwb
        go_wp2_with fail
        refine (read_any LN (by omega) w2 HTR.out HVR.out).mono ?_
        rintro e w3 ⟨hsay, hb3⟩
        have HB3 := Lib.hid (btr HB2.out hb3)
        obtain ⟨k1, a1, b1, nm1, er, rfl, hs1⟩ : ∃ (k1 a1 b1 : Nat) (nm1 : ByteArray) (er : Int), e = .returned (.tuple #[.agg #[.int .u8 k1, .int .u64 a1, .int .u64 b1, .string nm1], .int .i64 er]) ∧
            ((er = 0 ∧ LineOf LN.data.toList k1 a1 b1 nm1) ∨ (er = 20 ∧ k1 = 0 ∧ ∀ k a b nm, ¬ LineOf LN.data.toList k a b nm)) := by
          rcases hsay with ⟨k1, a1, b1, nm1, h1, h2⟩ | ⟨h1, h2⟩
          · exact ⟨k1, a1, b1, nm1, 0, h2, .inl ⟨rfl, h1⟩⟩
          · exact ⟨0, 0, 0, ByteArray.empty, 20, h2, .inr ⟨rfl, rfl, h1⟩⟩
        have HS1 := Lib.hid hs1
        clear hsay hb3 HB2 HVR HTR hs1
        go_upto_region 14 with fail
        have hb4 := bal (bre w3) (.cells #[.int .u8 k1, .int .u64 a1, .int .u64 b1, .string nm1] 36)
        have hr4 := heap_alloc_new w3 (.cells #[.int .u8 k1, .int .u64 a1, .int .u64 b1, .string nm1] 36)
        generalize w3.alloc (.cells #[.int .u8 k1, .int .u64 a1, .int .u64 b1, .string nm1] 36) = w4 at *
        obtain ⟨n4, hn4⟩ : ∃ n, n = w3.heap.size := ⟨_, rfl⟩
        rw [← hn4] at hr4 ⊢
        have HR4 := Lib.hid hr4
        have HB4 := Lib.hid (btr HB3.out hb4)
        clear hr4 hb4 hn4 HB3
        go_cut [17] from 69 to 100 (fun t w' => ∃ rt : Bool, t = .bool rt ∧ Hid (rt = true → wantOf c1 c2 c3 = partsOf kk ∧ (c1 = true → 0 < a) ∧ (c2 = true → 0 < b) ∧ (c3 = true → nameB n7 = true)) ∧ Hid (Below w4.heap.size w4 w'))
        case first =>
          have g2 := HG2.out
          have g4 := HG4.out
          obtain ⟨e1, e2, e4⟩ := HG.out
          obtain ⟨o1, o2, o3⟩ := HM.out
          have HN7 := Lib.hid (rname_any n7 w4 (by omega))
          by_cases hp : wantOf c1 c2 c3 = partsOf kk
          rotate_left
          · have dp : (WT.toList == tp.toList) = false := by
              rw [HWT.out, ← HTP.out, mk8_toList, mk8_toList]
              exact beq_false_of_ne hp
            clear o1 o2 o3 hp
            go_wp2_with fail
            go_meet
            case rel => exact ⟨false, rfl, Lib.hid (fun h => by cases h), Lib.hid (bre w4)⟩
          have HP := Lib.hid hp
          have dp : (WT.toList == tp.toList) = true := by
            rw [HWT.out, ← HTP.out, mk8_toList, mk8_toList, hp]
            simp
          clear hp
          rcases o1 with rfl | rfl
          · have F1 : Hid (c1 = true → 0 < a) := Lib.hid (fun h => by have := HC1.out; rw [h] at this; cases this)
            rcases o2 with rfl | rfl
            · have F2 : Hid (c2 = true → 0 < b) := Lib.hid (fun h => by have := HC2.out; rw [h] at this; cases this)
              rcases o3 with rfl | rfl
              · go_wp2_with fail
                go_meet
                case rel => exact ⟨true, rfl, Lib.hid (fun _ => ⟨HP.out, F1.out, F2.out, fun h => by have := HC3.out; rw [h] at this; cases this⟩), Lib.hid (bre w4)⟩
              · go_wp2_with fail
                refine HN7.out.mono ?_
                rintro e w5 ⟨rfl, hb5⟩
                have HB5 := Lib.hid hb5
                clear hb5
                go_wp2_with fail
                go_meet
                case rel => exact ⟨nameB n7, rfl, Lib.hid (fun h => ⟨HP.out, F1.out, F2.out, fun _ => h⟩), HB5⟩
            · by_cases hb0 : 0 < b
              · have F2 : Hid (c2 = true → 0 < b) := Lib.hid (fun _ => hb0)
                have db : decide ((0 : Int) < b) = true := decide_eq_true (by omega)
                have dbn : decide (0 < b) = true := decide_eq_true hb0
                clear hb0
                rcases o3 with rfl | rfl
                · go_wp2_with fail
                  go_meet
                  case rel => exact ⟨true, rfl, Lib.hid (fun _ => ⟨HP.out, F1.out, F2.out, fun h => by have := HC3.out; rw [h] at this; cases this⟩), Lib.hid (bre w4)⟩
                · go_wp2_with fail
                  refine HN7.out.mono ?_
                  rintro e w5 ⟨rfl, hb5⟩
                  have HB5 := Lib.hid hb5
                  clear hb5
                  go_wp2_with fail
                  go_meet
                  case rel => exact ⟨nameB n7, rfl, Lib.hid (fun h => ⟨HP.out, F1.out, F2.out, fun _ => h⟩), HB5⟩
              · have db : decide ((0 : Int) < b) = false := decide_eq_false (by omega)
                have dbn : decide (0 < b) = false := decide_eq_false hb0
                clear hb0 o3
                go_wp2_with fail
                go_meet
                case rel => exact ⟨false, rfl, Lib.hid (fun h => by cases h), Lib.hid (bre w4)⟩
          · by_cases ha0 : 0 < a
            · have F1 : Hid (c1 = true → 0 < a) := Lib.hid (fun _ => ha0)
              have da : decide ((0 : Int) < a) = true := decide_eq_true (by omega)
              have dan : decide (0 < a) = true := decide_eq_true ha0
              clear ha0
              rcases o2 with rfl | rfl
              · have F2 : Hid (c2 = true → 0 < b) := Lib.hid (fun h => by have := HC2.out; rw [h] at this; cases this)
                rcases o3 with rfl | rfl
                · go_wp2_with fail
                  go_meet
                  case rel => exact ⟨true, rfl, Lib.hid (fun _ => ⟨HP.out, F1.out, F2.out, fun h => by have := HC3.out; rw [h] at this; cases this⟩), Lib.hid (bre w4)⟩
                · go_wp2_with fail
                  refine HN7.out.mono ?_
                  rintro e w5 ⟨rfl, hb5⟩
                  have HB5 := Lib.hid hb5
                  clear hb5
                  go_wp2_with fail
                  go_meet
                  case rel => exact ⟨nameB n7, rfl, Lib.hid (fun h => ⟨HP.out, F1.out, F2.out, fun _ => h⟩), HB5⟩
              · by_cases hb0 : 0 < b
                · have F2 : Hid (c2 = true → 0 < b) := Lib.hid (fun _ => hb0)
                  have db : decide ((0 : Int) < b) = true := decide_eq_true (by omega)
                  have dbn : decide (0 < b) = true := decide_eq_true hb0
                  clear hb0
                  rcases o3 with rfl | rfl
                  · go_wp2_with fail
                    go_meet
                    case rel => exact ⟨true, rfl, Lib.hid (fun _ => ⟨HP.out, F1.out, F2.out, fun h => by have := HC3.out; rw [h] at this; cases this⟩), Lib.hid (bre w4)⟩
                  · go_wp2_with fail
                    refine HN7.out.mono ?_
                    rintro e w5 ⟨rfl, hb5⟩
                    have HB5 := Lib.hid hb5
                    clear hb5
                    go_wp2_with fail
                    go_meet
                    case rel => exact ⟨nameB n7, rfl, Lib.hid (fun h => ⟨HP.out, F1.out, F2.out, fun _ => h⟩), HB5⟩
                · have db : decide ((0 : Int) < b) = false := decide_eq_false (by omega)
                  have dbn : decide (0 < b) = false := decide_eq_false hb0
                  clear hb0 o3
                  go_wp2_with fail
                  go_meet
                  case rel => exact ⟨false, rfl, Lib.hid (fun h => by cases h), Lib.hid (bre w4)⟩
            · have da : decide ((0 : Int) < a) = false := decide_eq_false (by omega)
              have dan : decide (0 < a) = false := decide_eq_false ha0
              clear ha0 o2 o3
              go_wp2_with fail
              go_meet
              case rel => exact ⟨false, rfl, Lib.hid (fun h => by cases h), Lib.hid (bre w4)⟩
        case rest =>
          obtain ⟨rt, rfl, HRT, HB5⟩ := hcut
          have HB6 := Lib.hid (btr HB4.out HB5.out)
          have hr := (HB5.out.block n4 (Array.getElem?_eq_some_iff.1 HR4.out).1).trans HR4.out
          have HR6 := Lib.hid hr
          clear hr HB4 HB5 HR4 HG HG2 HG4 HM HC1 HC2 HC3 HWT
          cases rt with
          | true =>
            obtain ⟨q0, q1, q2, q3⟩ := HRT.out rfl
            have hl := line_right (k := kk) (a := a) (b := b) (nm := n7) (c1 := c1) (c2 := c2) (c3 := c3) hk1 hk14 (by omega) (by omega) q0 q1 q2 q3
            rw [← HLN.out] at hl
            rcases HS1.out with ⟨he, hl1⟩ | ⟨-, -, hno⟩
            rotate_left
            · exact absurd hl (hno _ _ _ _)
            obtain ⟨rfl, -, -, -⟩ := txt_inj hl1.1 hl.1 (hl1.2.2.2.trans hl.2.2.2.symm)
            subst he
            have HRB := Lib.hid hl1.1
            have ha1 := hl1.2.1
            have hb1 := hl1.2.2.1
            have HTXT : Hid (mk8 (txtOf k1 a1 b1 nm1) = LN) := Lib.hid (by rw [hl1.2.2.2]; rfl)
            have hr := HR6.out
            have d0 := cell_of_row wc n4 0 _ _ _ hr
            have d1 := cell_of_row wc n4 1 _ _ _ hr
            have d2 := cell_of_row wc n4 2 _ _ _ hr
            have d3 := cell_of_row wc n4 3 _ _ _ hr
            clear hr HS1 HRT HLN q0 q1 q2 q3 hl hl1
            go_wp2_with fail
            refine (own_any k1 a1 b1 nm1 wc).mono ?_
            rintro e x1 ⟨rfl, hx1⟩
            have HX1 := Lib.hid (btr HB6.out hx1)
            clear hx1
            go_wp2_with fail
            refine (rtextop_any k1 a1 b1 nm1 HRB.out (by omega) (by omega) x1).mono ?_
            rintro e x2 ⟨rfl, hx2⟩
            have HX2 := Lib.hid (btr HX1.out hx2)
            rw [HTXT.out]
            clear hx2
            go_wp2_with fail
            go_ret
            exact ⟨rfl, HX2.out⟩
          | false =>
            rcases HS1.out with ⟨he, hl1⟩ | ⟨he, -, -⟩
            · subst he
              have HRB := Lib.hid hl1.1
              have hn64 := right_name hl1.1
              have hk1b : k1 ≤ 14 := (right_parts hl1.1).2.1
              have ha1 := hl1.2.1
              have hb1 := hl1.2.2.1
              have HTXT : Hid (mk8 (txtOf k1 a1 b1 nm1) = LN) := Lib.hid (by rw [hl1.2.2.2]; rfl)
              have hr := HR6.out
              have d0 := cell_of_row wc n4 0 _ _ _ hr
              have d1 := cell_of_row wc n4 1 _ _ _ hr
              have d2 := cell_of_row wc n4 2 _ _ _ hr
              have d3 := cell_of_row wc n4 3 _ _ _ hr
              clear hr HS1 HRT HLN hl1
              go_wp2_with fail
              refine (own_any k1 a1 b1 nm1 wc).mono ?_
              rintro e y1 ⟨rfl, hy1⟩
              have HY1 := Lib.hid (btr HB6.out hy1)
              have HRY1 := Lib.hid ((hy1.block n4 (Array.getElem?_eq_some_iff.1 HR6.out).1).trans HR6.out)
              clear hy1 d0 d1 d2 d3
              go_wp2_with fail
              refine (rright_any k1 a1 b1 nm1 (by omega) (by omega) y1).mono ?_
              rintro e y2 ⟨rfl, hy2⟩
              have HY2 := Lib.hid (btr HY1.out hy2)
              have hr := (hy2.block n4 (Array.getElem?_eq_some_iff.1 HRY1.out).1).trans HRY1.out
              rw [HRB.out]
              have d0 := cell_of_row y2 n4 0 _ _ _ hr
              have d1 := cell_of_row y2 n4 1 _ _ _ hr
              have d2 := cell_of_row y2 n4 2 _ _ _ hr
              have d3 := cell_of_row y2 n4 3 _ _ _ hr
              clear hr hy2 HRY1 HY1 HR6 HB6
              go_wp2_with fail
              refine (own_any k1 a1 b1 nm1 y2).mono ?_
              rintro e x1 ⟨rfl, hx1⟩
              have HX1 := Lib.hid (btr HY2.out hx1)
              clear hx1
              go_wp2_with fail
              refine (rtextop_any k1 a1 b1 nm1 HRB.out (by omega) (by omega) x1).mono ?_
              rintro e x2 ⟨rfl, hx2⟩
              have HX2 := Lib.hid (btr HX1.out hx2)
              rw [HTXT.out]
              clear hx2
              go_wp2_with fail
              go_ret
              exact ⟨rfl, HX2.out⟩
            · subst he
              clear HS1 HRT HLN
              go_wp2_with fail
              go_ret
              exact ⟨rfl, HB6.out⟩
end Go.Proofs.YtminfdlhbecnhaaDoor
