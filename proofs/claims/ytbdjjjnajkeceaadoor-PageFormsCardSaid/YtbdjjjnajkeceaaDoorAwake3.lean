/- Walk: the document's example. -/
import Derived.Test.YtbdjjjnajkeceaaDoorLaw3
namespace Go.Proofs.YtbdjjjnajkeceaaDoor
open Go.RowKit

theorem one_turn (q : List UInt8) (hl : q.length = 512) : ∀ k, turns8 800 1 (k + 1) q = turn8 q 800 := by
  intro k
  induction k with
  | zero => simp only [turns8]; rw [if_pos (by rw [hl]; decide)]
  | succ k ih =>
    rw [show turns8 800 1 (k + 1 + 1) q = if 800 + (k + 1) < 8 * q.length ∧ 1 / 2 ^ (k + 1) % 2 = 1 then turn8 (turns8 800 1 (k + 1) q) (800 + (k + 1)) else turns8 800 1 (k + 1) q from rfl, ih]
    refine if_neg (fun h => ?_)
    have h2 : 1 / 2 ^ (k + 1) = 0 := Nat.div_eq_of_lt (Nat.one_lt_pow (by omega) (by decide))
    rw [h2] at h
    exact absurd h.2 (by decide)

/-- a sealed sector of which one bit is turned isn't sealed -/
theorem one_bad (P : List UInt8) (hP : P.length = 508) (b : List UInt8) (hb : b = seal8 P) : turn8 b 800 ≠ seal8 ((turn8 b 800).take 508) := by
  intro h
  have hl : b.length = 512 := by rw [hb, seal_length, hP]
  have h1 := shows_plain P 800 1 (turn8 b 800) (by rw [← one_turn b hl 31, hb]; rfl) (by rw [hP]; exact h)
  have h2 : turn8 b 800 = b := by rw [h1, hb]; rfl
  have h3 := congrArg (fun l => l[100]?) h2
  unfold turn8 at h3
  simp only [show 800 / 8 = 100 by rfl, show 800 % 8 = 0 by rfl] at h3
  rw [List.getElem?_set_self (by omega), List.getElem?_eq_getElem (by omega), List.getD_eq_getElem?_getD, List.getElem?_eq_getElem (by omega)] at h3
  simp only [Option.getD_some, Option.some.injEq] at h3
  generalize b[100] = x at h3
  have h5 : x ^^^ UInt8.ofNat (2 ^ 0) ^^^ x = x ^^^ x := congrArg (fun y => y ^^^ x) h3
  rw [UInt8.xor_self, UInt8.xor_comm x, UInt8.xor_assoc, UInt8.xor_self] at h5
  exact absurd h5 (by decide)

def ex3 : Pg := ⟨0, 0, 0, 1, [7, 8]⟩

set_option maxRecDepth 10000 in
set_option maxHeartbeats 1600000 in
theorem awake_any (w : World) :
    Calls Tryd.prog 8 #[] w fun e w' => e = .returned (.bool true) ∧ Below w.heap.size w w' := by
  obtain ⟨b, hb⟩ : ∃ b, b = seal8 ex3.raw := ⟨_, rfl⟩
  have hbl : b.length = 512 := by rw [hb, seal_length, raw_length _ (by decide)]
  have ok3 : ex3.Ok := ⟨by decide, by decide, by decide, by decide⟩
  have hpar : parseOf b = (0, ex3) := by rw [hb]; exact parseOf_seal ex3 ok3 (by decide) (by decide)
  have hbad := one_bad ex3.raw (raw_length _ (by decide)) b hb
  have hhead : b[0]? = some 104 := by rw [hb]; rfl
  have hbad2 : parseOf (turn8 b 800) = (7, Pg.zero) := by
    refine parseOf_corrupt _ (by unfold turn8; rw [List.length_set]; exact hbl) (fun h => ?_) hbad
    have h1 : (turn8 b 800)[0]? = some 104 := by unfold turn8; rw [List.getElem?_set_ne (by decide)]; exact hhead
    have h2 := h _ (List.mem_of_getElem? h1)
    exact absurd h2 (by decide)
  have HB := Lib.hid hb
  have HBL := Lib.hid hbl
  have HPAR := Lib.hid hpar
  have HBAD := Lib.hid hbad2
  have HOK := Lib.hid ok3
  clear hb hbl hpar hbad hbad2 hhead ok3
  go_enter Tryd.func8, Tryd.ntmps8
  go_wp2_with fail
  have hy0 := (own8_lit 5 w #[.int .u8 7, .int .u8 8] [7, 8] 2 rfl rfl (by simp [maxLen])).bytes
  have hb0 := bal (bre w) (.cells #[.int .u8 7, .int .u8 8] 5)
  have hv0 : PgAt (w.alloc (.cells #[.int .u8 7, .int .u8 8] 5)) (.agg #[.int .u32 0, .int .u32 0, .int .u32 0, .int .u8 1, .slice (some ⟨w.heap.size, 0, none⟩) 2 2]) ex3 := ⟨_, rfl, hy0⟩
  refine (pbytes_ok _ ex3 _ hv0 HOK.out (by decide) (by decide)).mono ?_
  rintro e w1 ⟨v1, rfl, ho1, hb1⟩
  rw [← HB.out] at ho1
  have hb01 := btr hb0 hb1
  obtain ⟨g, c, rfl, hg0, hg1, hc⟩ := ho1.shape (by intro h; have := HBL.out; rw [h] at this; cases this)
  have HO1 := Lib.hid ho1
  have HB01 := Lib.hid hb01
  have HG0 : Hid (w.heap.size ≤ g) := Lib.hid (Nat.le_trans hb0.size hg0)
  clear hy0 hb0 hv0 ho1 hb1 hb01 hg0 hc
  have hbl := HBL.out
  rw [hbl] at HO1 ⊢
  go_wp2_with fail
  refine (parse_any _ b w1 HO1.out.bytes).mono ?_
  rintro e w2 ⟨vd, rfl, hod, hb2⟩
  rw [HPAR.out] at hod ⊢
  have hod2 : Own8 5 w1.heap.size w2 vd [7, 8] := hod
  obtain ⟨gd, cd, rfl, hd0, hd1, -⟩ := hod2.shape (by simp)
  have ho2 := HO1.out.kept (Nat.le_refl _) hb2
  have hb02 := HB01.out.trans (hb2.mono HB01.out.size)
  have HO2 := Lib.hid ho2
  have HB02 := Lib.hid hb02
  have HD2 := Lib.hid hod2
  have hgd : g ≠ gd := by omega
  have HGD := Lib.hid hgd
  clear ho2 hb02 hod hod2 hb2 HO1
  unfold PgVal
  go_upto_region 3 with fail
  have hr3 := heap_alloc_new w2 (.cells #[.int .u32 ex3.gen, .int .u32 ex3.serial, .int .u32 ex3.number, .int .u8 ex3.kind, .slice (some ⟨gd, 0, none⟩) 2 cd] 25)
  have hb3 := bal (bre w2) (.cells #[.int .u32 ex3.gen, .int .u32 ex3.serial, .int .u32 ex3.number, .int .u8 ex3.kind, .slice (some ⟨gd, 0, none⟩) 2 cd] 25)
  generalize w2.alloc (.cells #[.int .u32 ex3.gen, .int .u32 ex3.serial, .int .u32 ex3.number, .int .u8 ex3.kind, .slice (some ⟨gd, 0, none⟩) 2 cd] 25) = W3 at *
  obtain ⟨n3, hn3⟩ : ∃ n, n = w2.heap.size := ⟨_, rfl⟩
  rw [← hn3] at hr3 ⊢
  have hgn : n3 ≠ g := by
    have := (HB02.out.size)
    omega
  have r4 := cell_of_row W3 n3 4 _ _ _ hr3
  have ho3 := HO2.out.kept (Nat.le_refl _) hb3
  have hd3 := HD2.out.kept (Nat.le_refl _) hb3
  have hb03 := HB02.out.trans (hb3.mono HB02.out.size)
  have hbl3 := HBL.out
  obtain ⟨hc, hf⟩ := ho3.cell 100 (by omega)
  obtain ⟨hst1, hst2⟩ := ho3.store 100 (b[100] ^^^ UInt8.ofNat (2 ^ 0))
  rw [turn8_byte _ 0 (by decide)] at hst1 hst2
  unfold B8 at hc
  have hx := (b[100]).toNat_lt
  have hset : b.set 100 (b[100] ^^^ UInt8.ofNat (2 ^ 0)) = turn8 b 800 := by
    unfold turn8
    rw [show 800 / 8 = 100 by rfl, show 800 % 8 = 0 by rfl, List.getD_eq_getElem?_getD, List.getElem?_eq_getElem (by omega)]
    rfl
  rw [hset] at hst1
  generalize b[100].toNat = x at *
  have hx1 : bits .xor .u8 (x : Int) 1 = ((x ^^^ 2 ^ 0 : Nat) : Int) := u8_xor_nat x 1 hx (by decide)
  have hd4 := own_only hd3 (Only.setCell W3 ⟨g, 100, none⟩ (.int .u8 ((x ^^^ 2 ^ 0 : Nat) : Int))) (fun k hk e => by
    cases hk
    exact HGD.out e.symm)
  have hr4 := ((Only.setCell W3 ⟨g, 100, none⟩ (.int .u8 ((x ^^^ 2 ^ 0 : Nat) : Int))).block n3 (Array.getElem?_eq_some_iff.1 hr3).1 hgn).trans hr3
  have hb04 := hb03.setCell HG0.out (.int .u8 ((x ^^^ 2 ^ 0 : Nat) : Int)) (p := ⟨g, 100, none⟩)
  have HS1 := Lib.hid hst1
  have HD4 := Lib.hid hd4
  have HR4 := Lib.hid hr4
  have HB04 := Lib.hid hb04
  have HX1 := Lib.hid hx1
  clear hst1 hst2 hd4 hr4 hb04 hx1 hset ho3 hd3 hb03 hb3 hr3 hgn hgd hd0 hd1 hg1 hn3 hbl hbl3 HO2 HB02 HD2 HB01 hx
  go_upto_region 6 with fail
  rw [HX1.out]
  have hs1 := HS1.out
  have hd4 := HD4.out
  have hr4 := HR4.out
  have hb04 := HB04.out
  generalize W3.setCell ⟨g, 100, none⟩ (.int .u8 ((x ^^^ 2 ^ 0 : Nat) : Int)) = W4 at *
  clear HS1 HD4 HR4 HB04 HX1 hc hf r4
  have HS1 := Lib.hid hs1
  have HD4 := Lib.hid hd4
  have HR4 := Lib.hid hr4
  have HB04 := Lib.hid hb04
  clear hs1 hd4 hr4 hb04
  go_wp2_with fail
  refine (parse_any _ (turn8 b 800) W4 HS1.out.bytes).mono ?_
  rintro e w5 ⟨ve, rfl, hoe, hb5⟩
  rw [HBAD.out] at hoe ⊢
  unfold PgVal
  obtain ⟨ae, me, ce, rfl⟩ := hoe.isSlice
  have hr5 := (hb5.block n3 (Array.getElem?_eq_some_iff.1 HR4.out).1).trans HR4.out
  have hd5 := Own8.kept HD4.out (Nat.le_refl _) hb5
  have hb05 := HB04.out.trans (hb5.mono HB04.out.size)
  have HR5 := Lib.hid hr5
  have HD5 := Lib.hid hd5
  have HB05 := Lib.hid hb05
  clear hr5 hd5 hb05 hb5 hoe HS1 HD4 HR4 HB04
  go_upto_region 7 with fail
  have hb6 := bal (bre w5) (.cells #[.int .u32 Pg.zero.gen, .int .u32 Pg.zero.serial, .int .u32 Pg.zero.number, .int .u8 Pg.zero.kind, .slice ae me ce] 25)
  generalize w5.alloc (.cells #[.int .u32 Pg.zero.gen, .int .u32 Pg.zero.serial, .int .u32 Pg.zero.number, .int .u8 Pg.zero.kind, .slice ae me ce] 25) = W6 at *
  have hr6 := (hb6.block n3 (Array.getElem?_eq_some_iff.1 HR5.out).1).trans HR5.out
  have hd6 := HD5.out.kept (Nat.le_refl _) hb6
  have hb06 := HB05.out.trans (hb6.mono HB05.out.size)
  have r4 := cell_of_row W6 n3 4 _ _ _ hr6
  obtain ⟨d1, -⟩ := hd6.cell 1 (by decide)
  have d1' : W6.cell? ⟨gd, 1, none⟩ = some (.int .u8 8) := d1
  have HB06 := Lib.hid hb06
  clear hr6 hd6 hb06 hb6 d1
  go_wp2_with fail
  go_ret
  exact ⟨rfl, HB06.out⟩
end Go.Proofs.YtbdjjjnajkeceaaDoor
