/- Walk: the law ArenaForms. -/
import Derived.Test.YtnbncjebmlicgaaArLayF
import Derived.Test.YtnbncjebmlicgaaArParse
import Derived.Test.YtnbncjebmlicgaaArRbytes
import Derived.Test.YtnbncjebmlicgaaArRequal
import Derived.Test.YtnbncjebmlicgaaArRowsW
import Derived.Laws.BitsAllLaws
namespace Go.Proofs.Ytnbncjebmlicgaa
open Go.RowKit

theorem xor_u8 (x y : Nat) (hx : x < 256) (hy : y < 256) : bits .xor .u8 (x : Int) (y : Int) = ((x ^^^ y : Nat) : Int) := u8_xor_nat x y hx hy
theorem xor_B8 (x : UInt8) (y : Nat) (hy : y < 256) : B8 (x ^^^ UInt8.ofNat y) = .int .u8 (((x.toNat ^^^ y : Nat)) : Int) := by
  unfold B8
  rw [UInt8.toNat_xor, UInt8.toNat_ofNat_of_lt' hy]
theorem layAr_pos (l : List (Nat × Nd)) : 0 < (layAr l).length := by
  unfold layAr
  rw [List.length_append]
  have := (Vi.varint_length l.length).1
  omega

set_option linter.unusedSimpArgs false in
set_option maxRecDepth 100000 in
set_option maxHeartbeats 12800000 in
theorem arforms_any (v1 vr0 : Value) (r1 : List (Nat × Nd)) (raw0 : List UInt8) (at' turn : Nat) (hat : at' < 65536) (htu : turn < 256) (w : World) (h1 : RowsIn w v1 r1) (h2 : Bytes w vr0 raw0) :
    Calls Try.prog 7 #[v1, vr0, .int .u16 at', .int .u8 turn] w fun e w' => e = .returned (.bool true) ∧ Below w.heap.size w w' := by
  have H1 := Lib.hid h1
  have H2 := Lib.hid h2
  obtain ⟨a1, c1, rfl, -⟩ := id h1
  obtain ⟨a2, c2, rfl, -⟩ := id h2
  clear h1 h2
  go_enter Try.func7, Try.ntmps7
  go_wp2_with fail
  refine (awake_any w).mono ?_
  rintro e w1 ⟨rfl, hb1⟩
  have HB1 := Lib.hid hb1
  clear hb1
  go_wp2_with fail
  refine (cut_any _ raw0 60 (by decide) (by decide) w1 (H2.out.below HB1.out)).mono ?_
  rintro e w2 ⟨v2, rfl, ho2, hb2⟩
  obtain ⟨raw, hraw⟩ : ∃ q, q = raw0.take (60 : Int).toNat := ⟨_, rfl⟩
  rw [← hraw] at ho2
  have hrl : raw.length ≤ 60 := by rw [hraw, List.length_take]; omega
  obtain ⟨ra, rc, rfl, -⟩ := id ho2.bytes
  obtain ⟨RL, hRL⟩ : ∃ q, q = raw.length := ⟨_, rfl⟩
  have HR2 := Lib.hid ho2.bytes
  rw [← hRL] at HR2 hrl ⊢
  have HRL := Lib.hid hRL
  have HB2 := Lib.hid (btr HB1.out hb2)
  clear hraw ho2 hb2 hRL
  go_wp2_with fail
  refine (layf_any _ r1 w2 (H1.out.below HB2.out)).mono ?_
  rintro e w3 ⟨g, b, xv, l, rfl, hl3, hs3⟩
  have hlen := hl3.len
  have hasc := hl3.ar.ascF hs3
  have hsl := slim_lay hs3 (by omega)
  have hpar : ∀ r, parseAr (layAr l ++ r) = if r = [] then some l else none := fun r => parse_lay hasc (by omega) r
  obtain ⟨P, hP⟩ : ∃ q, q = layAr l := ⟨_, rfl⟩
  have hpos := layAr_pos l
  rw [← hP] at hsl hpar hpos
  have HPAR := Lib.hid hpar
  have HASC := Lib.hid hasc
  have HPL := Lib.hid hsl
  have HP := Lib.hid hP
  have HB3 := Lib.hid (btr HB2.out hl3.bel)
  have HL3 := Lib.hid hl3
  have HR3 := Lib.hid (HR2.out.below hl3.bel)
  clear hl3 hs3 hasc hpar hP HR2 HB2 HB1 H1 H2
  go_wp2_with fail
  refine (arbytes_any g b l w3 HL3.out.ar HASC.out (by rw [← HP.out]; have := HPL.out; omega)).mono ?_
  rintro e w4 ⟨v4, rfl, ho4, hb4⟩
  rw [← HP.out] at ho4
  obtain ⟨pa, pc, rfl, -⟩ := id ho4.bytes
  obtain ⟨PL, hPL⟩ : ∃ q, q = P.length := ⟨_, rfl⟩
  have HP4 := Lib.hid ho4.bytes
  rw [← hPL] at HP4 hpos hsl ⊢
  have HPLe := Lib.hid hPL
  have HB4 := Lib.hid (btr HB3.out hb4)
  have HL4 := Lib.hid (HL3.out.below hb4)
  have HR4 := Lib.hid (HR3.out.below hb4)
  clear ho4 hb4 hPL HB3 HL3 HR3
  go_wp2_with fail
  refine (arparse_any _ P w4 HP4.out (by have := HPL.out; omega)).mono ?_
  rintro e w5 ⟨hb5, h5⟩
  have hpp : parseAr P = some l := by have := HPAR.out []; rwa [List.append_nil, if_pos rfl] at this
  obtain ⟨g2, b2, rfl, ha5⟩ : ∃ g b, e = .returned (.tuple #[.pointer (some ⟨g, 0, none⟩), .int .i64 0]) ∧ ArAt w5 g b l := by
    rcases h5 with ⟨l', g, b, h, he, ha⟩ | ⟨h, -⟩
    · rw [hpp] at h
      cases h
      exact ⟨g, b, he, ha⟩
    · rw [hpp] at h
      cases h
  have HA5 := Lib.hid ha5
  have HB5 := Lib.hid (btr HB4.out hb5)
  have HL5 := Lib.hid (HL4.out.below hb5)
  have HR5 := Lib.hid (HR4.out.below hb5)
  have HP5 := Lib.hid (HP4.out.below hb5)
  clear ha5 hb5 h5 hpp HB4 HL4 HR4 HP4
  go_wp2_with fail
  refine (rbytes_any _ l w5 (HL5.out.rows.base (Nat.zero_le _)) HASC.out (by rw [← HP.out]; have := HPL.out; omega) (by omega)).mono ?_
  rintro e w6 ⟨v6, rfl, ho6, hb6⟩
  rw [← HP.out] at ho6
  have HQ6 := Lib.hid ho6.bytes
  have HA6 := Lib.hid (HA5.out.below hb6)
  have HB6 := Lib.hid (btr HB5.out hb6)
  have HL6 := Lib.hid (HL5.out.below hb6)
  have HR6 := Lib.hid (HR5.out.below hb6)
  have HP6 := Lib.hid (HP5.out.below hb6)
  clear ho6 hb6 HB5 HL5 HR5 HP5 HA5
  go_wp2_with fail
  refine (same_any _ _ P P w6 HP6.out HQ6.out).mono ?_
  rintro e w7 ⟨rfl, n7, hw7⟩
  rw [decide_eq_true rfl]
  have hb7 : Below w6.heap.size w6 w7 := by rw [hw7]; exact bdn (bre _) n7
  have HA7 := Lib.hid (HA6.out.below hb7)
  have HB7 := Lib.hid (btr HB6.out hb7)
  have HL7 := Lib.hid (HL6.out.below hb7)
  have HR7 := Lib.hid (HR6.out.below hb7)
  have HP7 := Lib.hid (HP6.out.below hb7)
  clear hb7 hw7 HB6 HL6 HR6 HP6 HA6 HQ6
  go_wp2_with fail
  have hself := (eqA_iff HL7.out.ar.asc HL7.out.ar.asc).2 rfl
  refine (arsame_any g b g2 b2 l l w7 HL7.out.ar HA7.out).mono ?_
  rw [hself]
  rintro e w8 ⟨rfl, hb8⟩
  have HA8 := Lib.hid (HA7.out.below hb8)
  have HB8 := Lib.hid (btr HB7.out hb8)
  have HL8 := Lib.hid (HL7.out.below hb8)
  have HR8 := Lib.hid (HR7.out.below hb8)
  have HP8 := Lib.hid (HP7.out.below hb8)
  clear hb8 hself HB7 HL7 HR7 HP7 HA7
  go_wp2_with fail
  refine (arrows_any g2 b2 l w8 HA8.out).mono ?_
  rintro e w9 ⟨v9, rfl, hx9, hb9⟩
  have HX9 := Lib.hid hx9
  have HB9 := Lib.hid (btr HB8.out hb9)
  have HL9 := Lib.hid (HL8.out.below hb9)
  have HR9 := Lib.hid (HR8.out.below hb9)
  have HP9 := Lib.hid (HP8.out.below hb9)
  clear hx9 hb9 HB8 HL8 HR8 HP8 HA8
  go_wp2_with fail
  refine (requal_any _ _ l l true (by simp) w9 (HX9.out.base (Nat.zero_le _)) (HL9.out.rows.base (Nat.zero_le _)) (by omega)).mono ?_
  rintro e w10 ⟨rfl, hb10⟩
  have HB10 := Lib.hid (btr HB9.out hb10)
  have HR10 := Lib.hid (HR9.out.below hb10)
  have HP10 := Lib.hid (HP9.out.below hb10)
  clear hb10 HB9 HL9 HR9 HP9 HX9
  go_wp2_with fail
  have hrl1 := rows_lit1 w10 (.slice pa PL pc) P 55 w10.heap.size rfl HP10.out
  have hb11 := bal (bre w10) (.cells #[.slice pa PL pc] 55)
  generalize w10.alloc (.cells #[.slice pa PL pc] 55) = w11 at *
  have hfl : [P].flatten = P := by simp
  refine (join_any _ [P] w11 hrl1 (by rw [hfl]; have := HPL.out; omega)).mono ?_
  rintro e w12 ⟨v12, rfl, ho12, hb12⟩
  rw [hfl] at ho12
  obtain ⟨gt, ct, rfl, -, -, hcc⟩ := ho12.shape (by intro h; rw [HPLe.out, h] at hpos; cases hpos)
  rw [← HPLe.out] at ho12 hcc ⊢
  obtain ⟨m, hm⟩ : ∃ q, q = at' % PL := ⟨_, rfl⟩
  have hmlt : m < PL := by rw [hm]; exact Nat.mod_lt _ hpos
  have hn := hmlt
  rw [HPLe.out] at hn
  obtain ⟨hc, hf⟩ := ho12.cell m hn
  unfold B8 at hc
  have hst := ho12.store m (P[m] ^^^ UInt8.ofNat turn)
  rw [xor_B8 _ _ htu] at hst
  obtain ⟨Bt, hBt⟩ : ∃ q, q = P.set m (P[m] ^^^ UInt8.ofNat turn) := ⟨_, rfl⟩
  have hbtl : Bt.length = PL := by rw [hBt, List.length_set, HPLe.out]
  rw [← hBt] at hst
  have hx := (P[m]).toNat_lt
  generalize (P[m]).toNat = x at *
  have hxor := xor_u8 x turn hx htu
  have hmod : (at' : Int) % (PL : Int) = (m : Int) := by rw [hm]; exact (Int.natCast_emod at' PL).symm
  have htm : Int.tmod (at' : Int) (PL : Int) = (m : Int) := by rw [Int.tmod_eq_emod_of_nonneg (by omega)]; exact hmod
  have hm3 : (m : Int) < (PL : Int) := by omega
  have hm0 : (0 : Int) ≤ (m : Int) := by omega
  have hp0 : ¬ (PL : Int) = 0 := by omega
  have HST := Lib.hid hst
  have HB1S := Lib.hid hb11.size
  have HB12 := Lib.hid (btr hb11 hb12)
  have HXOR := Lib.hid hxor
  have HBTL := Lib.hid hbtl
  clear hrl1 hb11 hb12 hfl ho12 hst hBt hbtl hx hn hxor hm hmlt
  go_upto_region 11 with fail
  rw [HXOR.out]
  have hs1 := HST.out.1
  have hs2 := HB12.out.trans (HST.out.2.mono HB1S.out)
  generalize w12.setCell ⟨gt, m, none⟩ (.int .u8 ((x ^^^ turn : Nat) : Int)) = w13 at *
  have HT13 : Hid (Bytes w13 (.slice (some ⟨gt, 0, none⟩) PL ct) Bt) := Lib.hid hs1.bytes
  have HB13 := Lib.hid (btr HB10.out hs2)
  have HR13 := Lib.hid (HR10.out.below hs2)
  have HP13 := Lib.hid (HP10.out.below hs2)
  clear hs1 hs2 HST HB12 HB1S HXOR HB10 HR10 HP10 hc hf hcc hmod htm hm3 hm0 hp0
  go_wp2_with fail
  have hrl2 := rows_lit2 w13 (.slice pa PL pc) (.slice ra RL rc) P raw 55 w13.heap.size rfl HP13.out HR13.out
  have hb14 := bal (bre w13) (.cells #[.slice pa PL pc, .slice ra RL rc] 55)
  generalize w13.alloc (.cells #[.slice pa PL pc, .slice ra RL rc] 55) = w14 at *
  have hfl2 : [P, raw].flatten = P ++ raw := by simp
  have hjl : (P ++ raw).length ≤ 20000 := by rw [List.length_append, ← HPLe.out, ← HRL.out]; omega
  refine (join_any _ [P, raw] w14 hrl2 (by rw [hfl2]; omega)).mono ?_
  rintro e w15 ⟨v15, rfl, ho15, hb15⟩
  rw [hfl2] at ho15
  obtain ⟨ja, jc, rfl, -⟩ := id ho15.bytes
  have HJ15 := Lib.hid ho15.bytes
  obtain ⟨JL, hJL⟩ : ∃ q, q = (P ++ raw).length := ⟨_, rfl⟩
  rw [← hJL] at HJ15 hjl ⊢
  have HJL := Lib.hid hJL
  have hb := btr hb14 hb15
  have HB15 := Lib.hid (btr HB13.out hb)
  have HR15 := Lib.hid (HR13.out.below hb)
  have HP15 := Lib.hid (HP13.out.below hb)
  have HT15 := Lib.hid (HT13.out.below hb)
  clear hb hb14 hb15 ho15 hrl2 hfl2 hJL HB13 HR13 HP13 HT13
  go_wp2_with fail
  have hb16 := bal (bre w15) (.cells #[.slice (some ⟨gt, 0, none⟩) PL ct, .slice ra RL rc, .slice ja JL jc] 55)
  have hr16 := heap_alloc_new w15 (.cells #[.slice (some ⟨gt, 0, none⟩) PL ct, .slice ra RL rc, .slice ja JL jc] 55)
  generalize w15.alloc (.cells #[.slice (some ⟨gt, 0, none⟩) PL ct, .slice ra RL rc, .slice ja JL jc] 55) = w16 at *
  obtain ⟨q, hq⟩ : ∃ q, q = w15.heap.size := ⟨_, rfl⟩
  rw [← hq] at hr16 ⊢
  have HB16 := Lib.hid (btr HB15.out hb16)
  have HR16 := Lib.hid (HR15.out.below hb16)
  have HP16 := Lib.hid (HP15.out.below hb16)
  have HROW : Hid (∀ k, k < 3 → ∃ (qa : Option Addr) (qc : Nat) (Q : List UInt8), Q.length ≤ 900000 ∧ ∀ wr, Below w16.heap.size w16 wr → wr.cell? ⟨q, k, none⟩ = some (.slice qa Q.length qc) ∧ Bytes wr (.slice qa Q.length qc) Q) := Lib.hid (by
    have hrow : ∀ wr, Below w16.heap.size w16 wr → wr.heap[q]? = some (.cells #[.slice (some ⟨gt, 0, none⟩) PL ct, .slice ra RL rc, .slice ja JL jc] 55 (0, 0)) := fun wr hb => (hb.block q (Array.getElem?_eq_some_iff.1 hr16).1).trans hr16
    intro k hk
    match k, hk with
    | 0, _ => exact ⟨some ⟨gt, 0, none⟩, ct, Bt, by rw [HBTL.out]; omega, fun wr hb => by
        rw [HBTL.out]
        exact ⟨cell_of_row wr q 0 _ _ _ (hrow wr hb), (HT15.out.below hb16).below hb⟩⟩
    | 1, _ => exact ⟨ra, rc, raw, by rw [← HRL.out]; omega, fun wr hb => by
        rw [← HRL.out]
        exact ⟨cell_of_row wr q 1 _ _ _ (hrow wr hb), HR16.out.below hb⟩⟩
    | 2, _ => exact ⟨ja, jc, P ++ raw, by rw [← HJL.out]; omega, fun wr hb => by
        rw [← HJL.out]
        exact ⟨cell_of_row wr q 2 _ _ _ (hrow wr hb), (HJ15.out.below hb16).below hb⟩⟩)
  have HNO : Hid (0 < RL → parseAr (P ++ raw) = none) := Lib.hid (fun h => by
    rw [HPAR.out, if_neg (fun e => by rw [HRL.out, e] at h; cases h)])
  clear hb16 hr16 hq HB15 HR15 HP15 HT15 HJ15 HBTL
  go_loopw [16, 17, 18, 79] (fun _ _ _ i wr => ∃ k : Nat, k ≤ 3 ∧ i = .int .i64 k ∧ Hid (Below w16.heap.size w16 wr)) (fun _ _ _ i _ => 3 - (intOf i).toNat)
  case atStart => exact ⟨0, by omega, rfl, Lib.hid (bre _)⟩
  case round =>
    obtain ⟨k, hk, rfl, hbl⟩ := hrel
    rename World => wr
    by_cases hk3 : k < 3
    · have d1 : decide ((k : Int) < 3) = true := decide_eq_true (by omega)
      have d1n : decide (k < 3) = true := decide_eq_true hk3
      obtain ⟨qa, qc, Q, hql, hq⟩ := HROW.out k hk3
      obtain ⟨cq, hqb⟩ := hq _ hbl.out
      have HQ := Lib.hid hq
      obtain ⟨QL, hQL⟩ : ∃ q, q = Q.length := ⟨_, rfl⟩
      rw [← hQL] at cq hqb hql HQ
      have HQL := Lib.hid hQL
      have HQB := Lib.hid hqb
      have k1 : (0 : Int) ≤ (k : Int) := by omega
      have k2 : (k : Int) < 3 := by omega
      clear hq hqb hQL
      go_wp2_with fail
      refine (arparse_any _ Q wr HQB.out (by rw [← HQL.out]; exact hql)).mono ?_
      rintro e w17 ⟨hb17, h17⟩
      have HB17 := Lib.hid (btr hbl.out hb17)
      clear cq hb17 HQB hbl
      rcases h17 with ⟨mm, gc, bc, hpar, rfl, ha⟩ | ⟨hpar, rfl⟩
      · have hback := parse_back (by rw [← HQL.out]; omega) hpar
        have HBACK := Lib.hid hback
        have HPARQ := Lib.hid hpar
        have HA := Lib.hid ha
        clear hback hpar ha
        go_wp2_with fail
        refine (arbytes_any gc bc mm w17 HA.out HBACK.out.2.1 (by rw [HBACK.out.1, ← HQL.out]; omega)).mono ?_
        rintro e w18 ⟨v18, rfl, ho18, hb18⟩
        rw [HBACK.out.1] at ho18
        obtain ⟨ya, yc, rfl, -⟩ := id ho18.bytes
        have HY18 := Lib.hid ho18.bytes
        rw [← HQL.out] at HY18 ⊢
        have HB18 := Lib.hid (btr HB17.out hb18)
        clear ho18 hb18 HB17 HA HBACK
        have hsb := (HQ.out _ HB18.out).2
        go_wp2_with fail
        refine (same_any _ _ Q Q w18 HY18.out hsb).mono ?_
        rintro e w19 ⟨rfl, n19, hw19⟩
        rw [decide_eq_true rfl]
        have HB19 : Hid (Below w16.heap.size w16 w19) := Lib.hid (by rw [hw19]; exact bdn HB18.out n19)
        clear hsb hw19 HY18 HB18
        by_cases hr0 : 0 < RL
        · have e1 : decide ((0 : Int) < (RL : Int)) = true := decide_eq_true (by omega)
          have e1n : decide (0 < RL) = true := decide_eq_true hr0
          by_cases hqp : PL < QL
          · have e2 : decide ((PL : Int) < (QL : Int)) = true := decide_eq_true (by omega)
            have e2n : decide (PL < QL) = true := decide_eq_true hqp
            go_wp2_with fail
            have hrl3 := rows_lit2 w19 (.slice pa PL pc) (.slice ra RL rc) P raw 55 w19.heap.size rfl (HP16.out.below HB19.out) (HR16.out.below HB19.out)
            have hb20 := bal (bre w19) (.cells #[.slice pa PL pc, .slice ra RL rc] 55)
            generalize w19.alloc (.cells #[.slice pa PL pc, .slice ra RL rc] 55) = w20 at *
            have hfl3 : [P, raw].flatten = P ++ raw := by simp
            refine (join_any _ [P, raw] w20 hrl3 (by rw [hfl3, ← HJL.out]; omega)).mono ?_
            rintro e w21 ⟨v21, rfl, ho21, hb21⟩
            rw [hfl3] at ho21
            have HJ21 := Lib.hid ho21.bytes
            have HB21 := Lib.hid (btr HB19.out (btr hb20 hb21))
            have hne : Q ≠ P ++ raw := fun e => by
              have h1 := HPARQ.out
              rw [e, HNO.out hr0] at h1
              cases h1
            have HNE := Lib.hid hne
            clear hrl3 hb20 hfl3 ho21 hb21 hne HB19
            have hsb := (HQ.out _ HB21.out).2
            go_wp2_with fail
            refine (same_any _ _ Q (P ++ raw) w21 hsb HJ21.out).mono ?_
            rintro e w22 ⟨rfl, n22, hw22⟩
            rw [decide_eq_false HNE.out]
            have HB22 : Hid (Below w16.heap.size w16 w22) := Lib.hid (by rw [hw22]; exact bdn HB21.out n22)
            clear hsb hw22 HB21 HJ21
            go_wp2_with fail
            go_roundw
            case rel => exact ⟨k + 1, by omega, by go_num, HB22⟩
            case measure => simp [intOf]; omega
          · have e2 : decide ((PL : Int) < (QL : Int)) = false := decide_eq_false (by omega)
            have e2n : decide (PL < QL) = false := decide_eq_false hqp
            go_wp2_with fail
            go_roundw
            case rel => exact ⟨k + 1, by omega, by go_num, HB19⟩
            case measure => simp [intOf]; omega
        · have e1 : decide ((0 : Int) < (RL : Int)) = false := decide_eq_false (by omega)
          have e1n : decide (0 < RL) = false := decide_eq_false hr0
          go_wp2_with fail
          go_roundw
          case rel => exact ⟨k + 1, by omega, by go_num, HB19⟩
          case measure => simp [intOf]; omega
      · by_cases hr0 : 0 < RL
        · have e1 : decide ((0 : Int) < (RL : Int)) = true := decide_eq_true (by omega)
          have e1n : decide (0 < RL) = true := decide_eq_true hr0
          go_wp2_with fail
          go_roundw
          case rel => exact ⟨k + 1, by omega, by go_num, HB17⟩
          case measure => simp [intOf]; omega
        · have e1 : decide ((0 : Int) < (RL : Int)) = false := decide_eq_false (by omega)
          have e1n : decide (0 < RL) = false := decide_eq_false hr0
          go_wp2_with fail
          go_roundw
          case rel => exact ⟨k + 1, by omega, by go_num, HB17⟩
          case measure => simp [intOf]; omega
    · have d1 : decide ((k : Int) < 3) = false := decide_eq_false (by omega)
      have d1n : decide (k < 3) = false := decide_eq_false hk3
      go_wp2_with fail
      go_ret
      exact ⟨rfl, btr HB16.out hbl.out⟩
end Go.Proofs.Ytnbncjebmlicgaa
