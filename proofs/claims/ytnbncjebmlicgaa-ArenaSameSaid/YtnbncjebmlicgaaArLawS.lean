/- Walk: the law ArenaSame. -/
import Derived.Test.YtnbncjebmlicgaaArDrop
import Derived.Test.YtnbncjebmlicgaaArRequal
import Derived.Test.YtnbncjebmlicgaaArSameB
import Derived.Test.YtnbncjebmlicgaaArCopy
namespace Go.Proofs.Ytnbncjebmlicgaa
open Go.RowKit

set_option linter.unusedSimpArgs false in
set_option maxRecDepth 20000 in
set_option maxHeartbeats 3200000 in
theorem arsamelaw_any (v1 v2 : Value) (r1 r2 : List (Nat × Nd)) (x : Nat) (w : World) (h1 : RowsIn w v1 r1) (h2 : RowsIn w v2 r2) (hx : x < 18446744073709551616) :
    Calls Try.prog 6 #[v1, v2, .int .u64 x] w fun e w' => e = .returned (.bool true) ∧ Below w.heap.size w w' := by
  have H1 := Lib.hid h1
  have H2 := Lib.hid h2
  obtain ⟨a1, c1, rfl, -⟩ := id h1
  obtain ⟨a2, c2, rfl, -⟩ := id h2
  clear h1 h2
  go_enter Try.func6, Try.ntmps6
  go_wp2_with fail
  refine (awake_any w).mono ?_
  rintro e w1 ⟨rfl, hb1⟩
  have HB1 := Lib.hid hb1
  clear hb1
  go_wp2_with fail
  refine (lay_any _ r1 w1 (H1.out.below HB1.out)).mono ?_
  rintro e w2 ⟨g, b, xv, l, rfl, hl2⟩
  have HB2 := Lib.hid (btr HB1.out hl2.bel)
  have HL2 := Lib.hid hl2
  clear hl2
  go_wp2_with fail
  refine (lay_any _ r2 w2 (H2.out.below HB2.out)).mono ?_
  rintro e w3 ⟨g2, b2, yv, m, rfl, hm3⟩
  have HB3 := Lib.hid (btr HB2.out hm3.bel)
  have HL3 := Lib.hid (HL2.out.below hm3.bel)
  have HM3 := Lib.hid hm3
  clear hm3 HL2 HB1 HB2 H1 H2
  go_wp2_with fail
  refine (arget_nil x w3).mono ?_
  rintro e w4 ⟨rfl, hb4⟩
  have hz : NdVal .zero (.slice none 0 0) = .agg #[.int .u8 0, .string ⟨#[]⟩, .int .i64 0, .int .u8 0, .int .u64 0, .slice none 0 0] := rfl
  rw [hz]
  clear hz
  go_upto_region 7 with fail
  have hb5 := bal hb4 (.cells #[.int .u8 0, .string ⟨#[]⟩, .int .i64 0, .int .u8 0, .int .u64 0, .slice none 0 0] 29)
  generalize w4.alloc (.cells #[.int .u8 0, .string ⟨#[]⟩, .int .i64 0, .int .u8 0, .int .u64 0, .slice none 0 0] 29) = w5 at *
  have HB5 := Lib.hid (btr HB3.out hb5)
  have HL5 := Lib.hid (HL3.out.below hb5)
  have HM5 := Lib.hid (HM3.out.below hb5)
  clear hb4 hb5 HL3 HM3 HB3
  go_wp2_with fail
  refine (arparent_nil x w5).mono ?_
  rintro e w6 ⟨rfl, hw6⟩
  have hw6' := hw6.symm
  subst hw6'
  clear hw6
  go_wp2_with fail
  refine (arsame_any g b g2 b2 l m w5 HL5.out.ar HM5.out.ar).mono ?_
  rintro e w6 ⟨rfl, hb6⟩
  obtain ⟨R, hR⟩ : ∃ R, R = eqA l m := ⟨_, rfl⟩
  rw [← hR]
  have HR := Lib.hid hR
  have HB6 := Lib.hid (btr HB5.out hb6)
  have HL6 := Lib.hid (HL5.out.below hb6)
  have HM6 := Lib.hid (HM5.out.below hb6)
  clear hb6 hR HB5 HL5 HM5
  go_wp2_with fail
  refine (requal_any _ _ l m R (by rw [HR.out]; exact eqA_iff HL6.out.ar.asc HM6.out.ar.asc) w6 (HL6.out.rows.base (Nat.zero_le _)) (HM6.out.rows.base (Nat.zero_le _)) (by have := HL6.out.len; omega)).mono ?_
  rintro e w7 ⟨rfl, hb7⟩
  have HB7 := Lib.hid (btr HB6.out hb7)
  have HL7 := Lib.hid (HL6.out.below hb7)
  have hrr : (R == R) = true := by cases R <;> rfl
  clear hb7 HB6 HL6 HM6
  go_wp2_with fail
  refine (arcopy_any g b l w7 HL7.out.ar).mono ?_
  rintro e w8 ⟨g', b', rfl, hc8, -, -, hb8⟩
  have HB8 := Lib.hid (btr HB7.out hb8)
  have HL8 := Lib.hid (HL7.out.below hb8)
  have HC8 := Lib.hid hc8
  clear hb8 hc8 HB7 HL7
  go_wp2_with fail
  have hself := (eqA_iff HL8.out.ar.asc HL8.out.ar.asc).2 rfl
  refine (arsame_any g b g' b' l l w8 HL8.out.ar HC8.out).mono ?_
  rw [hself]
  rintro e w9 ⟨rfl, hb9⟩
  have HB9 := Lib.hid (btr HB8.out hb9)
  have HL9 := Lib.hid (HL8.out.below hb9)
  clear hb9 HB8 HL8 HC8 hself
  go_wp2_with fail
  refine (arsame_nil w9).mono ?_
  rintro e wz ⟨rfl, hwz⟩
  have hwz' := hwz.symm
  subst hwz'
  clear hwz
  go_wp2_with fail
  refine (arsame_half g w9).mono ?_
  rintro e wz ⟨rfl, hwz⟩
  have hwz' := hwz.symm
  subst hwz'
  clear hwz
  go_wp2_with fail
  refine (arroot_nil w9).mono ?_
  rintro e wz ⟨rfl, hwz⟩
  have hwz' := hwz.symm
  subst hwz'
  clear hwz
  go_wp2_with fail
  refine (arput_nil x (.agg #[.int .u8 0, .string ⟨#[]⟩, .int .i64 0, .int .u8 0, .int .u64 0, .slice none 0 0]) .zero w9 ⟨.slice none 0 0, rfl, (OwnIds.nil _ 0).ids, Nd.zero_ok⟩).mono ?_
  rintro e w10 ⟨rfl, hb10⟩
  have HB10 := Lib.hid (btr HB9.out hb10)
  have HL10 := Lib.hid (HL9.out.below hb10)
  clear hb10 HB9 HL9
  go_wp2_with fail
  refine (arput_zero g b l (.agg #[.int .u8 0, .string ⟨#[]⟩, .int .i64 0, .int .u8 0, .int .u64 0, .slice none 0 0]) .zero w10 HL10.out.ar ⟨.slice none 0 0, rfl, (OwnIds.nil _ 0).ids, Nd.zero_ok⟩).mono ?_
  rintro e w11 ⟨rfl, hb11⟩
  have HB11 := Lib.hid (btr HB10.out hb11)
  have HL11 := Lib.hid (HL10.out.below hb11)
  clear hb11 HB10 HL10
  go_wp2_with fail
  refine (ardrop_nil x w11 hx).mono ?_
  rintro e w12 ⟨rfl, hb12⟩
  have HB12 := Lib.hid (btr HB11.out hb12)
  have HL12 := Lib.hid (HL11.out.below hb12)
  clear hb12 HB11 HL11
  go_wp2_with fail
  refine (arlen_nil w12).mono ?_
  rintro e wz ⟨rfl, hwz⟩
  have hwz' := hwz.symm
  subst hwz'
  clear hwz
  go_wp2_with fail
  refine (arids_nil w12).mono ?_
  rintro e wz ⟨rfl, hwz⟩
  have hwz' := hwz.symm
  subst hwz'
  clear hwz
  go_wp2_with fail
  refine (arbytes_nil w12).mono ?_
  rintro e wz ⟨rfl, hwz⟩
  have hwz' := hwz.symm
  subst hwz'
  clear hwz
  go_wp2_with fail
  refine (told_nil x 9 w12 hx).mono ?_
  rintro e w13 ⟨rfl, hb13⟩
  have HB13 := Lib.hid (btr HB12.out hb13)
  have HL13 := Lib.hid (HL12.out.below hb13)
  clear hb13 HB12 HL12
  go_wp2_with fail
  refine (arabove_nil x 1 w13 hx).mono ?_
  rintro e w14 ⟨rfl, hb14⟩
  have HB14 := Lib.hid (btr HB13.out hb14)
  have HL14 := Lib.hid (HL13.out.below hb14)
  clear hb14 HB13 HL13
  go_wp2_with fail
  refine (arcopy_nil w14).mono ?_
  rintro e wz ⟨rfl, hwz⟩
  have hwz' := hwz.symm
  subst hwz'
  clear hwz
  go_wp2_with fail
  refine (artree_nil w14).mono ?_
  rintro e w15 ⟨rfl, hb15⟩
  have HB15 := Lib.hid (btr HB14.out hb15)
  have HL15 := Lib.hid (HL14.out.below hb15)
  clear hb15 HB14 HL14
  go_wp2_with fail
  go_ret
  exact ⟨rfl, HB15.out⟩
end Go.Proofs.Ytnbncjebmlicgaa
