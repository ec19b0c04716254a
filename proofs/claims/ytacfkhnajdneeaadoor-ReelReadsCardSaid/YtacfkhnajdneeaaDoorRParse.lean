/- Walk: the reference's Parse. -/
import Derived.Test.YtacfkhnajdneeaaDoorPgShows
namespace Go.Proofs.YtacfkhnajdneeaaDoor
open Go.RowKit

theorem wpList_make8G {P : Program} {w : World} {ops : Array Oper} {rest : List Oper} {o : Oper} {a : Act} {Q : Exit → Act → World → Prop} (hgd : Region.wanted o (yielded ops a.tmps) = true) (l c : Operand) (t e : TypeId) (T : MakeTy P t e) (ho : o.op = .makeSlice t l c) (n : Nat) (hl : a.eval l = .int .i64 n) (hc : a.eval c = .int .i64 n) (hn : n ≤ 1000000)
    (h : ∀ w', Own8 e w.heap.size w' (.slice (some ⟨w.heap.size, 0, none⟩) n n) (List.replicate n 0) → Below w.heap.size w w' → wpList P ops Q rest (a.put o.dst (.slice (some ⟨w.heap.size, 0, none⟩) n n)) w') : wpList P ops Q (o :: rest) a w :=
  wpList_step fun K hK => by
    rw [if_pos hgd]
    exact wp_make8 l c t e T ho n hl hc hn fun w' h1 h2 => hK _ _ (h w' h1 h2)

theorem noughts_is (b : List UInt8) (hl : b.length = 512) : noughts b ↔ b = List.replicate 512 0 := by
  constructor
  · intro h; rw [noughts_eq h, hl]
  · intro h; rw [h]; exact noughts_zero 512

theorem noughts_val (b : List UInt8) (hl : b.length = 512) (h : noughts b) : val (b.take 8) = 0 := by
  rw [(noughts_is b hl).1 h]; rfl

theorem seal_is (b : List UInt8) (hl : b.length = 512) : b.drop 508 = lows (crc8 (b.take 508)) ↔ b = seal8 (b.take 508) := by
  unfold seal8
  constructor
  · intro h
    conv => lhs; rw [← List.take_append_drop 508 b]
    rw [h]
  · intro h
    have h1 := congrArg (fun l => l.drop 508) h
    have h2 : (b.take 508 ++ lows (crc8 (b.take 508))).drop 508 = lows (crc8 (b.take 508)) := List.drop_left' (by rw [List.length_take, hl]; rfl)
    exact h1.trans h2

/-- noughts of the reference's page are stored -/
theorem zero_endR {w w5 : World} {n2 : Nat} (hB : Below w.heap.size w w5) (hn : w.heap.size ≤ n2) (hc : w5.heap[n2]? = some (.cells #[.int .u32 0, .int .u32 0, .int .u32 0, .int .u8 0, .slice none 0 0] 66 (0, 0))) :
    (((((w5.setCell ⟨n2, 0, none⟩ (.int .u32 0)).setCell ⟨n2, 1, none⟩ (.int .u32 0)).setCell ⟨n2, 2, none⟩ (.int .u32 0)).setCell ⟨n2, 3, none⟩ (.int .u8 0)).setCell ⟨n2, 4, none⟩ (.slice none 0 0)).heap[n2]? = some (.cells #[.int .u32 0, .int .u32 0, .int .u32 0, .int .u8 0, .slice none 0 0] 66 (0, 0)) ∧ Below w.heap.size w (((((w5.setCell ⟨n2, 0, none⟩ (.int .u32 0)).setCell ⟨n2, 1, none⟩ (.int .u32 0)).setCell ⟨n2, 2, none⟩ (.int .u32 0)).setCell ⟨n2, 3, none⟩ (.int .u8 0)).setCell ⟨n2, 4, none⟩ (.slice none 0 0)) :=
  have h := page_put Pg.zero (.slice none 0 0) hc
  ⟨h.1, h.2.2 _ _ hn hB⟩

set_option maxRecDepth 10000 in
set_option maxHeartbeats 800000 in
theorem rparse_arg (v : Value) (b : List UInt8) (w : World) (hv : Bytes w v b) (hl : b.length ≠ 512) :
    Calls Tryd.prog 57 #[v] w (ParsePost w 1 Pg.zero) := by
  obtain ⟨a, c, rfl, hm, hc, -, -⟩ := id hv
  have h1 : ((b.length : Int) == 512) = false := beq_false_of_ne (by omega)
  have h2 : decide ((b.length : Int) = 512) = false := decide_eq_false (by omega)
  clear hv hm hc hl
  go_enter Tryd.func57, Tryd.ntmps57
  go_wp2_with fail
  refine bodyPost_ret (v := .tuple #[.agg #[.int .u32 0, .int .u32 0, .int .u32 0, .int .u8 0, .slice none 0 0], .int .i64 1]) ?_ rfl ⟨_, rfl, zeroPg _, bal (bre w) _⟩
  simp [results, Tryd.results57, go_sem]

theorem put_size (a : Act) (i : Nat) (v : Value) : (a.put (some i) v).tmps.size = a.tmps.size := by
  unfold Act.put
  simp

theorem u32_of (n : Nat) (h : n < 4294967296) : IntKind.u32.wrap (n : Int) = (n : Int) := by
  simp [IntKind.wrap, IntKind.signed, IntKind.bits]
  omega

set_option maxRecDepth 10000 in
theorem value_step (t s : Nat) (v : Value) (l : List UInt8) (o : Oper) (a : Act) (w1 : World) (K : Act → World → Prop) (Q : Exit → Act → World → Prop) (hv : Bytes w1 v l) (h8 : l.length ≤ 8) (ho : o.op = .call { callee := .value (.func 58), args := #[.tmp t], argTypes := #[23] }) (hd : o.dst = some s)
    (he : a.eval (.tmp t) = v) (hK : K (a.put (some s) (.int .u64 (val l : Nat))) w1) : o.wp Tryd.prog a w1 K Q := by
  have hrun : (execOp a.eval o).run Tryd.prog w1 = .ok (.enter 58 #[v]) w1 := by
    unfold execOp
    simp only [ho, resolve, invoke, Sem.run_bind, List.map_toArray, List.map_cons, List.map_nil, he]
    rfl
  unfold Oper.wp
  rw [hrun, Oper.upon_enter]
  refine (rvalue_any v l w1 hv h8).mono ?_
  rintro e w2 ⟨rfl, rfl⟩
  rw [hd]
  exact hK

set_option maxRecDepth 10000 in
theorem cut2_step (t u s B n : Nat) (v : Value) (l : List UInt8) (o : Oper) (a : Act) (w1 : World) (K : Act → World → Prop) (Q : Exit → Act → World → Prop) (hB : B ≤ w1.heap.size) (hn : n ≤ 1000000) (hv : Bytes w1 v l) (ho : o.op = .call { callee := .value (.func 11), args := #[.tmp t, .tmp u], argTypes := #[23, 3] }) (hd : o.dst = some s)
    (he : a.eval (.tmp t) = v) (he2 : a.eval (.tmp u) = .int .i64 n) (hK : ∀ ad m c w2, Mine B w2 (.slice ad m c) (l.take n) → Below w1.heap.size w1 w2 → K (a.put (some s) (.slice ad m c)) w2) : o.wp Tryd.prog a w1 K Q := by
  have hrun : (execOp a.eval o).run Tryd.prog w1 = .ok (.enter 11 #[v, .int .i64 n]) w1 := by
    unfold execOp
    simp only [ho, resolve, invoke, Sem.run_bind, List.map_toArray, List.map_cons, List.map_nil, he, he2]
    rfl
  unfold Oper.wp
  rw [hrun, Oper.upon_enter]
  refine (cut_any v l n (by omega) (by omega) w1 hv).mono ?_
  rintro e w2 ⟨v2, rfl, ho2, hb2⟩
  rw [Int.toNat_natCast] at ho2
  obtain ⟨a2, n2, c2, rfl⟩ := ho2.isSlice
  rw [hd]
  exact hK a2 n2 c2 w2 (Own8.kept ho2 hB (bre _)) hb2

/-- a page of noughts of the reference's -/
def ZedR (w : World) (n B : Nat) : Prop := w.heap[n]? = some (.cells #[.int .u32 0, .int .u32 0, .int .u32 0, .int .u8 0, .slice none 0 0] 66 (0, 0)) ∧ B ≤ n
theorem ZedR.below {w w' : World} {n B : Nat} (h : ZedR w n B) (hb : Below w.heap.size w w') : ZedR w' n B := ⟨(hb.block n (Array.getElem?_eq_some_iff.1 h.1).1).trans h.1, h.2⟩

set_option maxRecDepth 10000 in
set_option maxHeartbeats 3200000 in
theorem rparse_long (v : Value) (b : List UInt8) (w : World) (hv : Bytes w v b) (hl : b.length = 512) :
    Calls Tryd.prog 57 #[v] w (ParsePost w (parseOf b).1 (parseOf b).2) := by
  obtain ⟨x, hx⟩ : ∃ x, x = parseOf b := ⟨_, rfl⟩
  rw [← hx]
  have HX := Lib.hid hx
  clear hx
  obtain ⟨a, c, rfl, hm, hc, -, -⟩ := id hv
  rw [hl] at hv hc ⊢
  obtain ⟨g, o, rfl, -⟩ := hv.byteAt 14 (by omega)
  have hc1 : (512 : Int) ≤ c := by omega
  have HL := Lib.hid hl
  have HV := Lib.hid hv
  clear hv hm hl hc
  go_enter Tryd.func57, Tryd.ntmps57
  go_upto_region 3 with fail
  have hb1 := bal (bre w) (.cells #[.int .u32 0, .int .u32 0, .int .u32 0, .int .u8 0, .slice none 0 0] 66)
  have hr1 := heap_alloc_new w (.cells #[.int .u32 0, .int .u32 0, .int .u32 0, .int .u8 0, .slice none 0 0] 66)
  generalize w.alloc (.cells #[.int .u32 0, .int .u32 0, .int .u32 0, .int .u8 0, .slice none 0 0] 66) = W at *
  obtain ⟨n2, hn2⟩ : ∃ n2, n2 = w.heap.size := ⟨_, rfl⟩
  rw [← hn2] at hr1 ⊢
  have HN2 : Hid (w.heap.size ≤ n2) := Lib.hid (Nat.le_of_eq hn2.symm)
  have HB1 := Lib.hid hb1
  have HC1 := Lib.hid hr1
  have HV1 := Lib.hid (HV.out.below hb1)
  clear hb1 hr1 hn2 HV
  obtain ⟨nb, hnb⟩ : ∃ nb, nb = decide (noughts b) := ⟨_, rfl⟩
  have HNB := Lib.hid hnb
  clear hnb
  go_cut [18] from 10 (fun t w' => t = .bool nb ∧ Below W.heap.size W w')
  case first =>
    have h8 : Bytes W (.slice (some ⟨g, o, none⟩) 8 c) (b.take 8) := HV1.out.firsts 8 (by rw [HL.out]; omega)
    have H8 := Lib.hid h8
    clear h8
    go_wp2_with fail
    refine (rvalue_any _ (b.take 8) W H8.out (by rw [List.length_take]; omega)).mono ?_
    rintro e w1 ⟨rfl, hw1⟩
    subst hw1
    by_cases h0 : val (b.take 8) = 0
    · rw [h0]
      have H0 := Lib.hid h0
      clear h0
      go_wp2_with (refine wpList_make8G (by first | rfl | decide | simp [Region.wanted, yielded]) _ _ 23 5 make8 rfl 512 rfl rfl (by omega) (fun w4 how hbw => ?_))
      refine (same_any _ _ b (List.replicate 512 0) w4 (HV1.out.below hbw) how.bytes).mono ?_
      rintro e w5 ⟨rfl, n5, rfl⟩
      have hd : decide (b = List.replicate 512 0) = nb := by rw [HNB.out, Bool.eq_iff_iff]; simp only [decide_eq_true_iff]; exact (noughts_is b HL.out).symm
      rw [hd]
      have HBW := Lib.hid (bdn hbw n5)
      clear how hbw hd
      go_wp2_with fail
      go_meet
      case rel => exact ⟨rfl, HBW.out⟩
    · have hd : nb = false := by rw [HNB.out]; exact decide_eq_false (fun h => h0 (noughts_val b HL.out h))
      obtain ⟨x8, hx8⟩ : ∃ x8, x8 = val (b.take 8) := ⟨_, rfl⟩
      rw [← hx8] at h0 ⊢
      have hx0 : ((x8 : Int) == 0) = false := beq_false_of_ne (by omega)
      have hx1 : decide ((x8 : Int) = 0) = false := decide_eq_false (by omega)
      have HD := Lib.hid hd
      clear hx8 h0 hd
      go_wp2_with fail
      go_meet
      case rel => exact ⟨by rw [HD.out], bre _⟩
  case rest =>
  obtain ⟨rfl, hbw⟩ := hcut
  rename World => X
  have hbX := HB1.out.trans (hbw.mono HB1.out.size)
  have hcX := (hbw.block n2 (Array.getElem?_eq_some_iff.1 HC1.out).1).trans HC1.out
  have HBX := Lib.hid hbX
  have HCX := Lib.hid hcX
  have HVX := Lib.hid (HV1.out.below hbw)
  clear hbw hbX hcX HB1 HC1 HV1
  by_cases hz : noughts b
  · have hnb : nb = true := by rw [HNB.out]; exact decide_eq_true hz
    subst hnb
    have HZ := Lib.hid hz
    clear hz
    have f0 := cell_of_row X n2 0 _ _ _ HCX.out
    have f1 := cell_of_row X n2 1 _ _ _ HCX.out
    have f2 := cell_of_row X n2 2 _ _ _ HCX.out
    have f3 := cell_of_row X n2 3 _ _ _ HCX.out
    have f4 := cell_of_row X n2 4 _ _ _ HCX.out
    have ff := fun o => frozen_of_row X n2 o _ _ HCX.out
    go_wp2_with fail
    obtain ⟨hz1, hz2⟩ := zero_endR HBX.out HN2.out HCX.out
    generalize (((((X.setCell ⟨n2, 0, none⟩ (.int .u32 0)).setCell ⟨n2, 1, none⟩ (.int .u32 0)).setCell ⟨n2, 2, none⟩ (.int .u32 0)).setCell ⟨n2, 3, none⟩ (.int .u8 0)).setCell ⟨n2, 4, none⟩ (.slice none 0 0)) = W9z at *
    have g0 := cell_of_row W9z n2 0 _ _ _ hz1
    have g1 := cell_of_row W9z n2 1 _ _ _ hz1
    have g2 := cell_of_row W9z n2 2 _ _ _ hz1
    have g3 := cell_of_row W9z n2 3 _ _ _ hz1
    have g4 := cell_of_row W9z n2 4 _ _ _ hz1
    refine bodyPost_ret (v := .tuple #[.agg #[.int .u32 0, .int .u32 0, .int .u32 0, .int .u8 0, .slice none 0 0], .int .i64 3]) (by simp [results, Tryd.results57, go_sem, g0, g1, g2, g3, g4]) rfl ?_
    rw [HX.out, parseOf_none b HL.out HZ.out]
    exact ⟨_, rfl, zeroPg _, hz2⟩
  have hnb : nb = false := by rw [HNB.out]; exact decide_eq_false hz
  subst hnb
  have HZ := Lib.hid hz
  clear hz
  go_wp2_with fail
  refine (ropen_long _ b 508 X HVX.out HL.out (by rw [HL.out]; omega)).mono ?_
  rintro e w2 ⟨rfl, hb2⟩
  have HB2 := Lib.hid (HBX.out.trans (hb2.mono HBX.out.size))
  have HC2 := Lib.hid ((hb2.block n2 (Array.getElem?_eq_some_iff.1 HCX.out).1).trans HCX.out)
  have HV2 := Lib.hid (HVX.out.below hb2)
  clear hb2 HBX HCX HVX
  by_cases hs : b = seal8 (b.take 508)
  rotate_left
  · rw [decide_eq_false (fun h => hs ((seal_is b HL.out).1 h))]
    have HS := Lib.hid hs
    clear hs
    have f0 := cell_of_row w2 n2 0 _ _ _ HC2.out
    have f1 := cell_of_row w2 n2 1 _ _ _ HC2.out
    have f2 := cell_of_row w2 n2 2 _ _ _ HC2.out
    have f3 := cell_of_row w2 n2 3 _ _ _ HC2.out
    have f4 := cell_of_row w2 n2 4 _ _ _ HC2.out
    have ff := fun o => frozen_of_row w2 n2 o _ _ HC2.out
    go_wp2_with fail
    obtain ⟨hz1, hz2⟩ := zero_endR HB2.out HN2.out HC2.out
    generalize (((((w2.setCell ⟨n2, 0, none⟩ (.int .u32 0)).setCell ⟨n2, 1, none⟩ (.int .u32 0)).setCell ⟨n2, 2, none⟩ (.int .u32 0)).setCell ⟨n2, 3, none⟩ (.int .u8 0)).setCell ⟨n2, 4, none⟩ (.slice none 0 0)) = W9z at *
    have g0 := cell_of_row W9z n2 0 _ _ _ hz1
    have g1 := cell_of_row W9z n2 1 _ _ _ hz1
    have g2 := cell_of_row W9z n2 2 _ _ _ hz1
    have g3 := cell_of_row W9z n2 3 _ _ _ hz1
    have g4 := cell_of_row W9z n2 4 _ _ _ hz1
    refine bodyPost_ret (v := .tuple #[.agg #[.int .u32 0, .int .u32 0, .int .u32 0, .int .u8 0, .slice none 0 0], .int .i64 7]) (by simp [results, Tryd.results57, go_sem, g0, g1, g2, g3, g4]) rfl ?_
    rw [HX.out, parseOf_corrupt b HL.out HZ.out HS.out]
    exact ⟨_, rfl, zeroPg _, hz2⟩
  rw [decide_eq_true ((seal_is b HL.out).2 hs)]
  have HS := Lib.hid hs
  clear hs
  have hn2 : Bytes w2 (.slice (some ⟨g, o + 15, none⟩) 2 (c - 15)) ((b.take 17).drop 15) := by
    have h1 : Bytes w2 (.slice (some ⟨g, o, none⟩) 17 c) (b.take 17) := HV2.out.firsts 17 (by rw [HL.out]; omega)
    have h2 := Bytes.suffix h1 15 (by rw [List.length_take, HL.out]; omega)
    rw [if_neg (by omega)] at h2
    exact h2
  have hln : val ((b.take 17).drop 15) = lenOf b := by
    unfold lenOf
    rw [List.drop_take]
  have HN := Lib.hid hn2
  have HLN := Lib.hid hln
  clear hn2 hln
  go_wp2_with fail
  refine (rvalue_any _ ((b.take 17).drop 15) w2 HN.out (by rw [List.length_drop, List.length_take]; omega)).mono ?_
  rintro e w3 ⟨rfl, hw3⟩
  have hw3' := hw3.symm
  subst hw3'
  clear hw3
  rw [HLN.out]
  have hlt : lenOf b < 65536 := by
    have := val_lt ((b.drop 15).take 2)
    have h2 : ((b.drop 15).take 2).length ≤ 2 := by rw [List.length_take]; omega
    have h3 : 256 ^ ((b.drop 15).take 2).length ≤ 256 ^ 2 := Nat.pow_le_pow_right (by decide) h2
    unfold lenOf
    omega
  obtain ⟨ln, hle⟩ : ∃ n, n = lenOf b := ⟨_, rfl⟩
  obtain ⟨g1, o1, ee, x14⟩ := HV2.out.byteAt 14 (by rw [HL.out]; omega)
  cases ee
  obtain ⟨kd, hkd⟩ : ∃ k, k = b[14]'(by rw [HL.out]; omega) := ⟨_, rfl⟩
  rw [← hkd] at x14
  have hk14 : b.getD 14 0 = kd := by rw [hkd, List.getD_eq_getElem?_getD, List.getElem?_eq_getElem (by rw [HL.out]; omega)]; rfl
  obtain ⟨pk, hpk⟩ : ∃ p, p = kd.toNat := ⟨_, rfl⟩
  rw [← hpk] at x14
  rw [← hle] at hlt ⊢
  have hl0 : (ln : Int) < 65536 := by omega
  have hpk256 : pk < 256 := by rw [hpk]; exact kd.toNat_lt
  have HK14 := Lib.hid hk14
  have HPK := Lib.hid hpk
  have HLE := Lib.hid hle
  clear hkd hk14 hpk hle HN HLN hlt
  by_cases hbad : pk = 0 ∨ 491 < ln
  · have hform : parseOf b = (2, Pg.zero) := parseOf_form b HL.out HZ.out HS.out (by
      rcases hbad with h | h
      · left; rw [HK14.out]; exact UInt8.toNat_inj.1 (by rw [← HPK.out, h]; rfl)
      · right; left; rw [← HLE.out]; exact h)
    have HFORM := Lib.hid hform
    clear hform
    by_cases hp0 : pk = 0
    · subst hp0
      clear hbad
      have f0 := cell_of_row w2 n2 0 _ _ _ HC2.out
      have f1 := cell_of_row w2 n2 1 _ _ _ HC2.out
      have f2 := cell_of_row w2 n2 2 _ _ _ HC2.out
      have f3 := cell_of_row w2 n2 3 _ _ _ HC2.out
      have f4 := cell_of_row w2 n2 4 _ _ _ HC2.out
      have ff := fun o => frozen_of_row w2 n2 o _ _ HC2.out
      go_wp2_with fail
      obtain ⟨hz1, hz2⟩ := zero_endR HB2.out HN2.out HC2.out
      generalize (((((w2.setCell ⟨n2, 0, none⟩ (.int .u32 0)).setCell ⟨n2, 1, none⟩ (.int .u32 0)).setCell ⟨n2, 2, none⟩ (.int .u32 0)).setCell ⟨n2, 3, none⟩ (.int .u8 0)).setCell ⟨n2, 4, none⟩ (.slice none 0 0)) = W9z at *
      have g0 := cell_of_row W9z n2 0 _ _ _ hz1
      have g1 := cell_of_row W9z n2 1 _ _ _ hz1
      have g2 := cell_of_row W9z n2 2 _ _ _ hz1
      have g3 := cell_of_row W9z n2 3 _ _ _ hz1
      have g4 := cell_of_row W9z n2 4 _ _ _ hz1
      refine bodyPost_ret (v := .tuple #[.agg #[.int .u32 0, .int .u32 0, .int .u32 0, .int .u8 0, .slice none 0 0], .int .i64 2]) (by simp [results, Tryd.results57, go_sem, g0, g1, g2, g3, g4]) rfl ?_
      rw [HX.out, HFORM.out]
      exact ⟨_, rfl, zeroPg _, hz2⟩
    · have hk1 : ((pk : Int) == 0) = false := beq_false_of_ne (by omega)
      have hk2 : decide ((pk : Int) = 0) = false := decide_eq_false (by omega)
      have hk3 : decide ((491 : Int) < ln) = true := decide_eq_true (by omega)
      clear hbad hp0
      have f0 := cell_of_row w2 n2 0 _ _ _ HC2.out
      have f1 := cell_of_row w2 n2 1 _ _ _ HC2.out
      have f2 := cell_of_row w2 n2 2 _ _ _ HC2.out
      have f3 := cell_of_row w2 n2 3 _ _ _ HC2.out
      have f4 := cell_of_row w2 n2 4 _ _ _ HC2.out
      have ff := fun o => frozen_of_row w2 n2 o _ _ HC2.out
      go_wp2_with fail
      obtain ⟨hz1, hz2⟩ := zero_endR HB2.out HN2.out HC2.out
      generalize (((((w2.setCell ⟨n2, 0, none⟩ (.int .u32 0)).setCell ⟨n2, 1, none⟩ (.int .u32 0)).setCell ⟨n2, 2, none⟩ (.int .u32 0)).setCell ⟨n2, 3, none⟩ (.int .u8 0)).setCell ⟨n2, 4, none⟩ (.slice none 0 0)) = W9z at *
      have g0 := cell_of_row W9z n2 0 _ _ _ hz1
      have g1 := cell_of_row W9z n2 1 _ _ _ hz1
      have g2 := cell_of_row W9z n2 2 _ _ _ hz1
      have g3 := cell_of_row W9z n2 3 _ _ _ hz1
      have g4 := cell_of_row W9z n2 4 _ _ _ hz1
      refine bodyPost_ret (v := .tuple #[.agg #[.int .u32 0, .int .u32 0, .int .u32 0, .int .u8 0, .slice none 0 0], .int .i64 2]) (by simp [results, Tryd.results57, go_sem, g0, g1, g2, g3, g4]) rfl ?_
      rw [HX.out, HFORM.out]
      exact ⟨_, rfl, zeroPg _, hz2⟩
  have hp0 : pk ≠ 0 := fun h => hbad (.inl h)
  have hl491 : ln ≤ 491 := by omega
  have hk1 : ((pk : Int) == 0) = false := beq_false_of_ne (by omega)
  have hk2 : decide ((pk : Int) = 0) = false := decide_eq_false (by omega)
  have hk3 : decide ((491 : Int) < ln) = false := decide_eq_false (by omega)
  have HP0 := Lib.hid hp0
  have HL491 := Lib.hid hl491
  clear hbad hp0 hl491
  go_upto_region 10 with fail
  have hSB : ∀ w', Below w2.heap.size w2 w' → w'.cell? ⟨g, o + 14, none⟩ = some (.int .u8 pk) := fun w' hb => (hb.cell (p := ⟨g, o + 14, none⟩) (block_lt_of_cell x14)).trans x14
  have HSB := Lib.hid hSB
  have hz : ∀ (i j : Nat), ¬ i = 0 → i < j → j ≤ 512 → Bytes w2 (.slice (some ⟨g, o + i, none⟩) (j - i) (c - i)) ((b.take j).drop i) := fun i j hi0 hij hj => by
    have h1 : Bytes w2 (.slice (some ⟨g, o, none⟩) j c) (b.take j) := HV2.out.firsts j (by rw [HL.out]; omega)
    have h2 := Bytes.suffix h1 i (by rw [List.length_take, HL.out]; omega)
    rw [if_neg (by omega)] at h2
    simpa [Addr.add, hi0] using h2
  have Z2 : Hid (Bytes w2 (.slice (some ⟨g, o + 2, none⟩) 4 (c - 2)) ((b.take 6).drop 2)) := Lib.hid (hz 2 6 (by omega) (by omega) (by omega))
  have Z6 : Hid (Bytes w2 (.slice (some ⟨g, o + 6, none⟩) 4 (c - 6)) ((b.take 10).drop 6)) := Lib.hid (hz 6 10 (by omega) (by omega) (by omega))
  have Z10 : Hid (Bytes w2 (.slice (some ⟨g, o + 10, none⟩) 4 (c - 10)) ((b.take 14).drop 10)) := Lib.hid (hz 10 14 (by omega) (by omega) (by omega))
  have Z17 : Hid (Bytes w2 (.slice (some ⟨g, o + 17, none⟩) 495 (c - 17)) ((b.take 512).drop 17)) := Lib.hid (hz 17 512 (by omega) (by omega) (by omega))
  have h4 : ∀ (i j : Nat), j - i = 4 → val ((b.take j).drop i) < 4294967296 := fun i j hij => by
    have h1 := val_lt ((b.take j).drop i)
    have h2 : ((b.take j).drop i).length ≤ 4 := by rw [List.length_drop, List.length_take]; omega
    have h3 : 256 ^ ((b.take j).drop i).length ≤ 256 ^ 4 := Nat.pow_le_pow_right (by decide) h2
    omega
  obtain ⟨V0, hV0⟩ : ∃ x, x = val ((b.take 6).drop 2) := ⟨_, rfl⟩
  obtain ⟨V1, hV1⟩ : ∃ x, x = val ((b.take 10).drop 6) := ⟨_, rfl⟩
  obtain ⟨V2, hV2⟩ : ∃ x, x = val ((b.take 14).drop 10) := ⟨_, rfl⟩
  have v0 : V0 < 4294967296 := by rw [hV0]; exact h4 2 6 rfl
  have v1 : V1 < 4294967296 := by rw [hV1]; exact h4 6 10 rfl
  have v2 : V2 < 4294967296 := by rw [hV2]; exact h4 10 14 rfl
  have HV0 := Lib.hid hV0
  have HV1' := Lib.hid hV1
  have HV2' := Lib.hid hV2
  have hx14 := Lib.hid x14
  clear hSB hz h4 hV0 hV1 hV2 x14 hl0 hk1 hk2 hk3
  have h6 : (6 : Int) ≤ c := by omega
  have h10 : (10 : Int) ≤ c := by omega
  have h14 : (14 : Int) ≤ c := by omega
  have h17 : (17 : Int) ≤ c := by omega
  have k2 : ¬ c = 2 := by omega
  have k6 : ¬ c = 6 := by omega
  have k10 : ¬ c = 10 := by omega
  have k17 : ¬ c = 17 := by omega
  refine region_anyZ (z := 21) (S := fun w' => w'.cell? ⟨g, o + 14, none⟩ = some (.int .u8 pk)) (by kernel_rfl) ?_
  refine anyZ_begin (fun hcl0 => ?_)
  refine anyZ_held (by exact HSB.out _ (bdr (bre w2))) (fun hHeld => ?_)
  -- 0: Op.move (Operand.tmp 0)
  refine' anyZ_pure (i := 0) (v := _) rfl (by rfl) (by kernel_rfl) (by kernel_rfl) (by kernel_rfl) hcl0 (fun _ _ _ h => h) (Or.inl ⟨by rfl, fun w _ => ?hb1⟩) (fun _ => hHeld) (fun hcl1 => ?rb1)
  case hb1 => (simp only [List.getElem_toArray, List.getElem_cons_zero]; first | (go_simp; with_reducible rfl) | (go_simp; done) | rfl)
  simp only [List.getElem_toArray, List.getElem_cons_zero, Act.put, List.setIfInBounds_toArray, List.set_cons_zero, List.set_cons_succ]
  -- 1: Op.slice 23 (Operand.tmp 37) (some (Operand.const (Value.int
  refine' anyZ_pure (i := 1) (v := _) rfl (by rfl) (by kernel_rfl) (by kernel_rfl) (by kernel_rfl) hcl1 (fun _ _ _ h => h) (Or.inl ⟨by rfl, fun w _ => ?hb2⟩) (fun _ => hHeld) (fun hcl2 => ?rb2)
  case hb2 => (simp only [List.getElem_toArray, List.getElem_cons_succ, List.getElem_cons_zero]; first | (go_simp; with_reducible rfl) | (go_simp; done) | rfl)
  simp only [List.getElem_toArray, List.getElem_cons_succ, List.getElem_cons_zero, Act.put, List.setIfInBounds_toArray, List.set_cons_zero, List.set_cons_succ]
  -- 4: Op.move (Operand.tmp 0)
  refine' anyZ_pure (i := 4) (v := _) rfl (by rfl) (by kernel_rfl) (by kernel_rfl) (by kernel_rfl) hcl2 (fun _ _ _ h => h) (Or.inl ⟨by rfl, fun w _ => ?hb3⟩) (fun _ => hHeld) (fun hcl3 => ?rb3)
  case hb3 => (simp only [List.getElem_toArray, List.getElem_cons_succ, List.getElem_cons_zero]; first | (go_simp; with_reducible rfl) | (go_simp; done) | rfl)
  simp only [List.getElem_toArray, List.getElem_cons_succ, List.getElem_cons_zero, Act.put, List.setIfInBounds_toArray, List.set_cons_zero, List.set_cons_succ]
  -- 5: Op.slice 23 (Operand.tmp 41) (some (Operand.const (Value.int
  refine' anyZ_pure (i := 5) (v := _) rfl (by rfl) (by kernel_rfl) (by kernel_rfl) (by kernel_rfl) hcl3 (fun _ _ _ h => h) (Or.inl ⟨by rfl, fun w _ => ?hb4⟩) (fun _ => hHeld) (fun hcl4 => ?rb4)
  case hb4 => (simp only [List.getElem_toArray, List.getElem_cons_succ, List.getElem_cons_zero]; first | (go_simp; with_reducible rfl) | (go_simp; done) | rfl)
  simp only [List.getElem_toArray, List.getElem_cons_succ, List.getElem_cons_zero, Act.put, List.setIfInBounds_toArray, List.set_cons_zero, List.set_cons_succ]
  -- 8: Op.move (Operand.tmp 0)
  refine' anyZ_pure (i := 8) (v := _) rfl (by rfl) (by kernel_rfl) (by kernel_rfl) (by kernel_rfl) hcl4 (fun _ _ _ h => h) (Or.inl ⟨by rfl, fun w _ => ?hb5⟩) (fun _ => hHeld) (fun hcl5 => ?rb5)
  case hb5 => (simp only [List.getElem_toArray, List.getElem_cons_succ, List.getElem_cons_zero]; first | (go_simp; with_reducible rfl) | (go_simp; done) | rfl)
  simp only [List.getElem_toArray, List.getElem_cons_succ, List.getElem_cons_zero, Act.put, List.setIfInBounds_toArray, List.set_cons_zero, List.set_cons_succ]
  -- 9: Op.slice 23 (Operand.tmp 45) (some (Operand.const (Value.int
  refine' anyZ_pure (i := 9) (v := _) rfl (by rfl) (by kernel_rfl) (by kernel_rfl) (by kernel_rfl) hcl5 (fun _ _ _ h => h) (Or.inl ⟨by rfl, fun w _ => ?hb6⟩) (fun _ => hHeld) (fun hcl6 => ?rb6)
  case hb6 => (simp only [List.getElem_toArray, List.getElem_cons_succ, List.getElem_cons_zero]; first | (go_simp; with_reducible rfl) | (go_simp; done) | rfl)
  simp only [List.getElem_toArray, List.getElem_cons_succ, List.getElem_cons_zero, Act.put, List.setIfInBounds_toArray, List.set_cons_zero, List.set_cons_succ]
  -- 12: Op.move (Operand.tmp 0)
  refine' anyZ_pure (i := 12) (v := _) rfl (by rfl) (by kernel_rfl) (by kernel_rfl) (by kernel_rfl) hcl6 (fun _ _ _ h => h) (Or.inl ⟨by rfl, fun w _ => ?hb7⟩) (fun _ => hHeld) (fun hcl7 => ?rb7)
  case hb7 => (simp only [List.getElem_toArray, List.getElem_cons_succ, List.getElem_cons_zero]; first | (go_simp; with_reducible rfl) | (go_simp; done) | rfl)
  simp only [List.getElem_toArray, List.getElem_cons_succ, List.getElem_cons_zero, Act.put, List.setIfInBounds_toArray, List.set_cons_zero, List.set_cons_succ]
  -- 13: Op.indexAddr 23 (Operand.tmp 49) (Operand.const (Value.int I
  refine' anyZ_pure (i := 13) (v := _) rfl (by rfl) (by kernel_rfl) (by kernel_rfl) (by kernel_rfl) hcl7 (fun _ _ _ h => h) (Or.inl ⟨by rfl, fun w _ => ?hb8⟩) (fun _ => hHeld) (fun hcl8 => ?rb8)
  case hb8 => (simp only [List.getElem_toArray, List.getElem_cons_succ, List.getElem_cons_zero]; first | (go_simp; with_reducible rfl) | (go_simp; done) | rfl)
  simp only [List.getElem_toArray, List.getElem_cons_succ, List.getElem_cons_zero, Act.put, List.setIfInBounds_toArray, List.set_cons_zero, List.set_cons_succ]
  -- 14: Op.load 5 (Operand.tmp 50)
  refine' anyZ_take (i := 14) (v := _) rfl (by rfl) (by kernel_rfl) (by kernel_rfl) (by kernel_rfl) hcl8 8 (by kernel_rfl) (by kernel_rfl) (fun _ _ _ h => h) (Or.inl ⟨by rfl, fun w hSw => ?hb9⟩) hHeld (fun hcl9 => ?rb9)
  case hb9 => (simp only [List.getElem_toArray, List.getElem_cons_succ, List.getElem_cons_zero]; first | (go_simp; with_reducible rfl) | (go_simp; done) | rfl)
  simp only [List.getElem_toArray, List.getElem_cons_succ, List.getElem_cons_zero, Act.put, List.setIfInBounds_toArray, List.set_cons_zero, List.set_cons_succ]
  -- 15: Op.move (Operand.tmp 0)
  refine' anyZ_pure (i := 15) (v := _) rfl (by rfl) (by kernel_rfl) (by kernel_rfl) (by kernel_rfl) hcl9 (fun _ _ _ h => h) (Or.inl ⟨by rfl, fun w _ => ?hb10⟩) (fun _ => hHeld) (fun hcl10 => ?rb10)
  case hb10 => (simp only [List.getElem_toArray, List.getElem_cons_succ, List.getElem_cons_zero]; first | (go_simp; with_reducible rfl) | (go_simp; done) | rfl)
  simp only [List.getElem_toArray, List.getElem_cons_succ, List.getElem_cons_zero, Act.put, List.setIfInBounds_toArray, List.set_cons_zero, List.set_cons_succ]
  -- 16: Op.slice 23 (Operand.tmp 52) (some (Operand.const (Value.int
  refine' anyZ_pure (i := 16) (v := _) rfl (by rfl) (by kernel_rfl) (by kernel_rfl) (by kernel_rfl) hcl10 (fun _ _ _ h => h) (Or.inl ⟨by rfl, fun w _ => ?hb11⟩) (fun _ => hHeld) (fun hcl11 => ?rb11)
  case hb11 => (simp only [List.getElem_toArray, List.getElem_cons_succ, List.getElem_cons_zero]; first | (go_simp; with_reducible rfl) | (go_simp; done) | rfl)
  simp only [List.getElem_toArray, List.getElem_cons_succ, List.getElem_cons_zero, Act.put, List.setIfInBounds_toArray, List.set_cons_zero, List.set_cons_succ]
  -- 17: Op.move (Operand.tmp 4)
  refine' anyZ_pure (i := 17) (v := _) rfl (by rfl) (by kernel_rfl) (by kernel_rfl) (by kernel_rfl) hcl11 (fun _ _ _ h => h) (Or.inl ⟨by rfl, fun w _ => ?hb12⟩) (fun _ => hHeld) (fun hcl12 => ?rb12)
  case hb12 => (simp only [List.getElem_toArray, List.getElem_cons_succ, List.getElem_cons_zero]; first | (go_simp; with_reducible rfl) | (go_simp; done) | rfl)
  simp only [List.getElem_toArray, List.getElem_cons_succ, List.getElem_cons_zero, Act.put, List.setIfInBounds_toArray, List.set_cons_zero, List.set_cons_succ]
  refine anyZ_cast (listed' := #[true, true, false, false, true, true, false, false, true, true, false, false, true, true, true, true, true, true, false, false, false, false]) (by kernel_rfl) ?_
  refine anyZ_name (fun T Wp R HT HR Hop HE => ?_)
  generalize hA : Act.mk _ _ = A
  have E38 : A.eval (.tmp 38) = .slice (some ⟨g, o + 2, none⟩) 4 (c - 2) := by rw [← hA]; rfl
  have E42 : A.eval (.tmp 42) = .slice (some ⟨g, o + 6, none⟩) 4 (c - 6) := by rw [← hA]; rfl
  have E46 : A.eval (.tmp 46) = .slice (some ⟨g, o + 10, none⟩) 4 (c - 10) := by rw [← hA]; rfl
  have E51 : A.eval (.tmp 51) = .int .u8 pk := by rw [← hA]; rfl
  have E53 : A.eval (.tmp 53) = .slice (some ⟨g, o + 17, none⟩) 495 (c - 17) := by rw [← hA]; rfl
  have E54 : A.eval (.tmp 54) = .int .i64 ln := by rw [← hA]; rfl
  have hsz : A.tmps.size = 64 := by rw [← hA]; rfl
  have HA := Lib.hid hA
  clear hA
  have M2 : ∀ (a : Act) (w1 : World) (K : Act → World → Prop), Below w2.heap.size w2 w1 → a.eval (.tmp 38) = .slice (some ⟨g, o + 2, none⟩) 4 (c - 2) → K (a.put (some 39) (.int .u64 V0)) w1 → Wp 2 K a w1 := by
    intro a w1 K hb he hK
    rw [HV0.out] at hK
    exact Hop 2 _ a w1 K (by simp only [List.getElem?_toArray, List.getElem?_cons_succ, List.getElem?_cons_zero]; rfl) rfl (value_step 38 39 _ _ _ a w1 K _ (Z2.out.below hb) (by rw [List.length_drop, List.length_take]; omega) rfl rfl he hK)
  have M6 : ∀ (a : Act) (w1 : World) (K : Act → World → Prop), Below w2.heap.size w2 w1 → a.eval (.tmp 42) = .slice (some ⟨g, o + 6, none⟩) 4 (c - 6) → K (a.put (some 43) (.int .u64 V1)) w1 → Wp 6 K a w1 := by
    intro a w1 K hb he hK
    rw [HV1'.out] at hK
    exact Hop 6 _ a w1 K (by simp only [List.getElem?_toArray, List.getElem?_cons_succ, List.getElem?_cons_zero]; rfl) rfl (value_step 42 43 _ _ _ a w1 K _ (Z6.out.below hb) (by rw [List.length_drop, List.length_take]; omega) rfl rfl he hK)
  have M10 : ∀ (a : Act) (w1 : World) (K : Act → World → Prop), Below w2.heap.size w2 w1 → a.eval (.tmp 46) = .slice (some ⟨g, o + 10, none⟩) 4 (c - 10) → K (a.put (some 47) (.int .u64 V2)) w1 → Wp 10 K a w1 := by
    intro a w1 K hb he hK
    rw [HV2'.out] at hK
    exact Hop 10 _ a w1 K (by simp only [List.getElem?_toArray, List.getElem?_cons_succ, List.getElem?_cons_zero]; rfl) rfl (value_step 46 47 _ _ _ a w1 K _ (Z10.out.below hb) (by rw [List.length_drop, List.length_take]; omega) rfl rfl he hK)
  have M3 : ∀ (a : Act) (w1 : World) (K : Act → World → Prop), a.eval (.tmp 39) = .int .u64 V0 → K (a.put (some 40) (.int .u32 V0)) w1 → Wp 3 K a w1 := by
    intro a w1 K he hK
    simp only [Act.eval, Array.getD_eq_getD_getElem?] at he
    have hw := u32_of V0 v0
    refine Hop 3 _ a w1 K (by simp only [List.getElem?_toArray, List.getElem?_cons_succ, List.getElem?_cons_zero]; rfl) rfl ?_
    go_simp
    exact hK
  have M7 : ∀ (a : Act) (w1 : World) (K : Act → World → Prop), a.eval (.tmp 43) = .int .u64 V1 → K (a.put (some 44) (.int .u32 V1)) w1 → Wp 7 K a w1 := by
    intro a w1 K he hK
    simp only [Act.eval, Array.getD_eq_getD_getElem?] at he
    have hw := u32_of V1 v1
    refine Hop 7 _ a w1 K (by simp only [List.getElem?_toArray, List.getElem?_cons_succ, List.getElem?_cons_zero]; rfl) rfl ?_
    go_simp
    exact hK
  have M11 : ∀ (a : Act) (w1 : World) (K : Act → World → Prop), a.eval (.tmp 47) = .int .u64 V2 → K (a.put (some 48) (.int .u32 V2)) w1 → Wp 11 K a w1 := by
    intro a w1 K he hK
    simp only [Act.eval, Array.getD_eq_getD_getElem?] at he
    have hw := u32_of V2 v2
    refine Hop 11 _ a w1 K (by simp only [List.getElem?_toArray, List.getElem?_cons_succ, List.getElem?_cons_zero]; rfl) rfl ?_
    go_simp
    exact hK
  have M18 : ∀ (a : Act) (w1 : World) (K : Act → World → Prop), Below w2.heap.size w2 w1 → a.eval (.tmp 53) = .slice (some ⟨g, o + 17, none⟩) 495 (c - 17) → a.eval (.tmp 54) = .int .i64 ln → (∀ ad m k w', Mine w2.heap.size w' (.slice ad m k) (((b.take 512).drop 17).take ln) → Below w1.heap.size w1 w' → K (a.put (some 55) (.slice ad m k)) w') → Wp 18 K a w1 := by
    intro a w1 K hb he he2 hK
    exact Hop 18 _ a w1 K (by simp only [List.getElem?_toArray, List.getElem?_cons_succ, List.getElem?_cons_zero]; rfl) rfl (cut2_step 53 54 55 w2.heap.size ln _ _ _ a w1 K _ hb.size (by have := HL491.out; omega) (Z17.out.below hb) rfl rfl he he2 hK)
  have M19 : ∀ (a : Act) (w1 : World) (K : Act → World → Prop) {a55 : Option Addr} {m55 c55 : Nat}, a.eval (.tmp 40) = .int .u32 V0 → a.eval (.tmp 44) = .int .u32 V1 → a.eval (.tmp 48) = .int .u32 V2 → a.eval (.tmp 51) = .int .u8 pk → a.eval (.tmp 55) = .slice a55 m55 c55 → K (a.put (some 56) (.agg #[.int .u32 V0, .int .u32 V1, .int .u32 V2, .int .u8 pk, .slice a55 m55 c55])) w1 → Wp 19 K a w1 := by
    intro a w1 K a55 m55 c55 e1 e2 e3 e4 e5 hK
    simp only [Act.eval, Array.getD_eq_getD_getElem?] at e1 e2 e3 e4 e5
    refine Hop 19 _ a w1 K (by simp only [List.getElem?_toArray, List.getElem?_cons_succ, List.getElem?_cons_zero]; rfl) rfl ?_
    go_simp
    exact hK
  have M20 : ∀ (a : Act) (w1 : World) (K : Act → World → Prop), Below w2.heap.size w2 w1 → (∀ n w', ZedR w' n w2.heap.size → Below w1.heap.size w1 w' → K (a.put (some 5) (.pointer (some ⟨n, 0, none⟩))) w') → Wp 20 K a w1 := by
    intro a w1 K hb hK
    refine Hop 20 _ a w1 K (by simp only [List.getElem?_toArray, List.getElem?_cons_succ, List.getElem?_cons_zero]; rfl) rfl ?_
    have hs := hb.size
    go_simp
    exact hK _ _ ⟨heap_alloc_new w1 _, hs⟩ (bal (bre w1) _)
  clear Hop
  have st2_3_6_7_10_11_18_19_20_ : ∀ (a55 : Option Addr) (m55 c55 : Nat) (n5 : Nat) (w1 : World), Below w2.heap.size w2 w1 → Mine w2.heap.size w1 (.slice a55 m55 c55) (((b.take 512).drop 17).take ln) → ZedR w1 n5 w2.heap.size → T 1 #[true, true, true, true, true, true, true, true, true, true, true, true, true, true, true, true, true, true, true, true, true, false] (((((((((A.put (some 5) (.pointer (some ⟨n5, 0, none⟩))).put (some 39) (.int .u64 V0)).put (some 40) (.int .u32 V0)).put (some 43) (.int .u64 V1)).put (some 44) (.int .u32 V1)).put (some 47) (.int .u64 V2)).put (some 48) (.int .u32 V2)).put (some 55) (.slice a55 m55 c55)).put (some 56) (.agg #[.int .u32 V0, .int .u32 V1, .int .u32 V2, .int .u8 pk, .slice a55 m55 c55])) w1 := by
    intro a55 m55 c55 n5 w1 hb f55 f5
    refine HE _ _ _ _ (anyZ_chain_at (by kernel_rfl) ?_)
    simp only [List.drop_succ_cons, List.drop_zero]
    rw [← HA.out]
    simp only [Act.put, List.setIfInBounds_toArray, List.set_cons_zero, List.set_cons_succ]
    clear HT HR HE M2 M3 M6 M7 M10 M11 M18 M19 M20 E38 E42 E46 E51 E53 E54 hsz
    obtain ⟨PP, hPP⟩ : ∃ P : Pg, P = ⟨V0, V1, V2, pk, ((b.take 512).drop 17).take ln⟩ := ⟨_, rfl⟩
    have e0 : V0 = PP.gen := by rw [hPP]
    have e1 : V1 = PP.serial := by rw [hPP]
    have e2 : V2 = PP.number := by rw [hPP]
    have e3 : pk = PP.kind := by rw [hPP]
    have e4 : ((b.take 512).drop 17).take ln = PP.data := by rw [hPP]
    have okP : PP.Ok := by rw [hPP]; exact ⟨v0, v1, v2, hpk256⟩
    have hdl : PP.data.length ≤ 491 := by
      rw [← e4, List.length_take]
      have := HL491.out
      omega
    have hpg : PP = pgOf (b.take 508) := by
      rw [hPP]
      unfold pgOf
      have hlen : lenOf (b.take 508) = ln := by
        rw [HLE.out]
        unfold lenOf
        congr 1
        rw [List.drop_take, List.take_take]
        rfl
      rw [hlen, HV0.out, HV1'.out, HV2'.out, HPK.out, ← HK14.out]
      have ht : ∀ (i j : Nat), i ≤ j → j ≤ 508 → ((b.take 508).drop i).take (j - i) = (b.take j).drop i := fun i j h1 h2 => by
        rw [List.drop_take, List.take_take, List.drop_take]
        congr 1
        omega
      have hk : (b.take 508).getD 14 0 = b.getD 14 0 := by
        rw [List.getD_eq_getElem?_getD, List.getD_eq_getElem?_getD, List.getElem?_take_of_lt (by omega)]
      have hdd : ((b.take 508).drop 17).take ln = ((b.take 512).drop 17).take ln := by
        rw [List.drop_take, List.drop_take, List.take_take, List.take_take]
        have := HL491.out
        congr 1
        omega
      rw [hk, hdd, show ((b.take 508).drop 2).take 4 = (b.take 6).drop 2 from ht 2 6 (by omega) (by omega), show ((b.take 508).drop 6).take 4 = (b.take 10).drop 6 from ht 6 10 (by omega) (by omega), show ((b.take 508).drop 10).take 4 = (b.take 14).drop 10 from ht 10 14 (by omega) (by omega)]
    have HP0' : Hid (PP.kind ≠ 0) := Lib.hid (by rw [← e3]; exact HP0.out)
    have HPG := Lib.hid hpg
    have HOKP := Lib.hid okP
    have HDL := Lib.hid hdl
    rw [e4] at f55
    rw [e0, e1, e2, e3]
    clear e0 e1 e2 e3 e4 hPP okP hdl hpg
    have hr5 := f5.1
    have hne5 : ∀ k, (Value.slice a55 m55 c55).ownBlock = some k → k ≠ n5 := by
      intro k hk e
      subst e
      rcases f55.2 with ⟨h', -⟩ | ⟨g', cap, cur, h', -, hg, -⟩
      · rw [h'] at hk; cases hk
      · rw [h'] at hk
        cases hk
        rw [f5.1] at hg
        cases hg
    obtain ⟨q1, q2, q3⟩ := page_put PP (.slice a55 m55 c55) hr5
    have mA := own_only f55 q2 (fun k hk e => hne5 k hk e)
    have hlt2 := (Array.getElem?_eq_some_iff.1 HC2.out).1
    have h5w := f5.2
    have hn25 : ¬ n2 = n5 := by omega
    have hr2 := (q2.block n2 (Nat.lt_of_lt_of_le hlt2 hb.size) hn25).trans ((hb.block n2 hlt2).trans HC2.out)
    have hB5 := q3 w2.heap.size w2 h5w hb
    have z0 := cell_of_row w1 n5 0 _ _ _ hr5
    have z1 := cell_of_row w1 n5 1 _ _ _ hr5
    have z2 := cell_of_row w1 n5 2 _ _ _ hr5
    have z3 := cell_of_row w1 n5 3 _ _ _ hr5
    have z4 := cell_of_row w1 n5 4 _ _ _ hr5
    have zf := fun i => frozen_of_row w1 n5 i _ _ hr5
    have HQ1 := Lib.hid q1
    have HMA : Hid (Own8 5 w2.heap.size _ (.slice a55 m55 c55) PP.data) := Lib.hid mA
    have HR2 := Lib.hid hr2
    have HB5 := Lib.hid hB5
    have HN25 := Lib.hid hn25
    have H5W := Lib.hid h5w
    clear q1 q2 q3 mA hr2 hB5 hr5 f5 f55 hne5 hlt2 h5w hb hn25 v0 v1 v2 hpk256 HK14 HPK HV0 HV1' HV2' HSB hx14 Z2 Z6 Z10 Z17 h6 h10 h14 h17 k2 k6 k10 k17 hc1
    go_upto_region 11 with fail
    have q1 := HQ1.out
    have hma := HMA.out
    have hr2 := HR2.out
    have hB5 := HB5.out
    clear HQ1 HMA HR2 HB5 z0 z1 z2 z3 z4 zf
    generalize (((((w1.setCell ⟨n5, 0, none⟩ (.int .u32 PP.gen)).setCell ⟨n5, 1, none⟩ (.int .u32 PP.serial)).setCell ⟨n5, 2, none⟩ (.int .u32 PP.number)).setCell ⟨n5, 3, none⟩ (.int .u8 PP.kind)).setCell ⟨n5, 4, none⟩ (.slice a55 m55 c55)) = W5 at *
    have r0 := cell_of_row W5 n5 0 _ _ _ q1
    have r1 := cell_of_row W5 n5 1 _ _ _ q1
    have r2 := cell_of_row W5 n5 2 _ _ _ q1
    have r3 := cell_of_row W5 n5 3 _ _ _ q1
    have r4 := cell_of_row W5 n5 4 _ _ _ q1
    have HQ1 := Lib.hid q1
    have HMA := Lib.hid hma
    have HR2 := Lib.hid hr2
    have HB5 := Lib.hid hB5
    clear q1 hma hr2 hB5
    go_wp2_with fail
    refine (rpbytes_any _ PP W5 (PgAt.mk' HMA.out.bytes) HOKP.out HDL.out).mono ?_
    rintro e w6 ⟨v6, rfl, ho6, hb6⟩
    have HQ6 := Lib.hid ((hb6.block n5 (Array.getElem?_eq_some_iff.1 HQ1.out).1).trans HQ1.out)
    have HM6 := Lib.hid (Own8.kept HMA.out (Nat.le_refl _) hb6)
    have HR6 := Lib.hid ((hb6.block n2 (Array.getElem?_eq_some_iff.1 HR2.out).1).trans HR2.out)
    have HB6 := Lib.hid (HB5.out.trans (hb6.mono HB5.out.size))
    obtain ⟨a6, m6, c6, rfl⟩ := ho6.isSlice
    have HO6 := Lib.hid ho6
    clear r0 r1 r2 r3 r4 ho6 hb6 HQ1 HMA HR2 HB5
    go_wp2_with fail
    refine (same_any _ _ (seal8 PP.raw) b w6 HO6.out.bytes (HV2.out.below HB6.out)).mono ?_
    rintro e w7 ⟨rfl, n7, rfl⟩
    have hb7 := bdn (bre w6) n7
    have HQ7 := Lib.hid ((hb7.block n5 (Array.getElem?_eq_some_iff.1 HQ6.out).1).trans HQ6.out)
    have HM7 := Lib.hid (Own8.kept HM6.out (Nat.le_refl _) hb7)
    have HR7 := Lib.hid ((hb7.block n2 (Array.getElem?_eq_some_iff.1 HR6.out).1).trans HR6.out)
    have HB7 := Lib.hid (HB2.out.trans ((HB6.out.trans (hb7.mono HB6.out.size)).mono HB2.out.size))
    generalize w6.drewN n7 = W7 at *
    clear hb7 HQ6 HM6 HR6 HB6 HO6
    have hq508 : (b.take 508).length = 508 := by rw [List.length_take, HL.out]; rfl
    have hlo : lenOf (b.take 508) = lenOf b := by
      unfold lenOf
      congr 1
      rw [List.drop_take, List.take_take]
      rfl
    have hiff : seal8 PP.raw = b ↔ (b.take 2 = mark ∧ noughts ((b.take 508).drop (17 + lenOf b))) := by
      have h1 := raw_pgOf (b.take 508) hq508 (by rw [hlo, ← HLE.out]; exact HL491.out)
      rw [← HPG.out, hlo, List.take_take] at h1
      rw [show min 2 508 = 2 from rfl] at h1
      rw [← h1]
      constructor
      · intro h
        have h2 := congrArg (fun l => l.take 508) h
        rw [show (seal8 PP.raw).take 508 = PP.raw from seal_take _ (raw_length _ HDL.out)] at h2
        exact h2
      · intro h
        rw [h]
        exact HS.out.symm
    have hk14 : ¬ b.getD 14 0 = 0 := by
      intro h
      apply HP0'.out
      have h2 : PP.kind = (b.getD 14 0).toNat := by
        rw [HPG.out]
        unfold pgOf
        rw [show (b.take 508).getD 14 0 = b.getD 14 0 by rw [List.getD_eq_getElem?_getD, List.getD_eq_getElem?_getD, List.getElem?_take_of_lt (by omega)]]
      rw [h] at h2
      exact h2
    have HIFF := Lib.hid hiff
    have HK14 := Lib.hid hk14
    clear hq508 hlo hiff hk14
    by_cases hgood : seal8 PP.raw = b
    · rw [decide_eq_true hgood]
      have hok : parseOf b = (0, PP) := by
        rw [HPG.out]
        refine parseOf_ok b HL.out HZ.out HS.out (fun h => ?_)
        rcases h with h | h | h
        · exact HK14.out h
        · rw [← HLE.out] at h; have := HL491.out; omega
        · exact h (HIFF.out.1 hgood)
      have HOKK := Lib.hid hok
      clear hgood hok
      have r0 := cell_of_row W7 n5 0 _ _ _ HQ7.out
      have r1 := cell_of_row W7 n5 1 _ _ _ HQ7.out
      have r2 := cell_of_row W7 n5 2 _ _ _ HQ7.out
      have r3 := cell_of_row W7 n5 3 _ _ _ HQ7.out
      have r4 := cell_of_row W7 n5 4 _ _ _ HQ7.out
      have z0 := cell_of_row W7 n2 0 _ _ _ HR7.out
      have z1 := cell_of_row W7 n2 1 _ _ _ HR7.out
      have z2 := cell_of_row W7 n2 2 _ _ _ HR7.out
      have z3 := cell_of_row W7 n2 3 _ _ _ HR7.out
      have z4 := cell_of_row W7 n2 4 _ _ _ HR7.out
      have zf := fun i => frozen_of_row W7 n2 i _ _ HR7.out
      obtain ⟨q1, q2, q3⟩ := page_put PP (.slice a55 m55 c55) HR7.out
      have hn2s := (Array.getElem?_eq_some_iff.1 HC2.out).1
      have mA := own_only HM7.out q2 (fun k hk e => by
        have h1 := (World.ownsRow.lt HM7.out k hk).1
        omega)
      have hB8 := q3 w.heap.size w HN2.out HB7.out
      have HQ8 := Lib.hid q1
      have HM8 : Hid (Own8 5 w2.heap.size _ (.slice a55 m55 c55) PP.data) := Lib.hid mA
      have HB8 := Lib.hid hB8
      clear q1 q2 q3 mA hB8 hn2s
      go_wp2_with fail
      have q1 := HQ8.out
      have hm := HM8.out
      have hb := HB8.out
      generalize (((((W7.setCell ⟨n2, 0, none⟩ (.int .u32 PP.gen)).setCell ⟨n2, 1, none⟩ (.int .u32 PP.serial)).setCell ⟨n2, 2, none⟩ (.int .u32 PP.number)).setCell ⟨n2, 3, none⟩ (.int .u8 PP.kind)).setCell ⟨n2, 4, none⟩ (.slice a55 m55 c55)) = W8 at *
      have g0 := cell_of_row W8 n2 0 _ _ _ q1
      have g1 := cell_of_row W8 n2 1 _ _ _ q1
      have g2 := cell_of_row W8 n2 2 _ _ _ q1
      have g3 := cell_of_row W8 n2 3 _ _ _ q1
      have g4 := cell_of_row W8 n2 4 _ _ _ q1
      refine bodyPost_ret (v := .tuple #[.agg #[.int .u32 PP.gen, .int .u32 PP.serial, .int .u32 PP.number, .int .u8 PP.kind, .slice a55 m55 c55], .int .i64 0]) (by simp [results, Tryd.results57, go_sem, g0, g1, g2, g3, g4]) rfl ?_
      rw [HX.out, HOKK.out]
      exact ⟨_, rfl, Own8.kept hm HB2.out.size (bre W8), hb⟩
    · rw [decide_eq_false hgood]
      have hform : parseOf b = (2, Pg.zero) := parseOf_form b HL.out HZ.out HS.out (.inr (.inr (fun h => hgood (HIFF.out.2 h))))
      have HFORM := Lib.hid hform
      clear hform hgood
      have f0 := cell_of_row W7 n2 0 _ _ _ HR7.out
      have f1 := cell_of_row W7 n2 1 _ _ _ HR7.out
      have f2 := cell_of_row W7 n2 2 _ _ _ HR7.out
      have f3 := cell_of_row W7 n2 3 _ _ _ HR7.out
      have f4 := cell_of_row W7 n2 4 _ _ _ HR7.out
      have ff := fun o => frozen_of_row W7 n2 o _ _ HR7.out
      go_wp2_with fail
      obtain ⟨hz1, hz2⟩ := zero_endR HB7.out HN2.out HR7.out
      generalize (((((W7.setCell ⟨n2, 0, none⟩ (.int .u32 0)).setCell ⟨n2, 1, none⟩ (.int .u32 0)).setCell ⟨n2, 2, none⟩ (.int .u32 0)).setCell ⟨n2, 3, none⟩ (.int .u8 0)).setCell ⟨n2, 4, none⟩ (.slice none 0 0)) = W9z at *
      have g0 := cell_of_row W9z n2 0 _ _ _ hz1
      have g1 := cell_of_row W9z n2 1 _ _ _ hz1
      have g2 := cell_of_row W9z n2 2 _ _ _ hz1
      have g3 := cell_of_row W9z n2 3 _ _ _ hz1
      have g4 := cell_of_row W9z n2 4 _ _ _ hz1
      refine bodyPost_ret (v := .tuple #[.agg #[.int .u32 0, .int .u32 0, .int .u32 0, .int .u8 0, .slice none 0 0], .int .i64 2]) (by simp [results, Tryd.results57, go_sem, g0, g1, g2, g3, g4]) rfl ?_
      rw [HX.out, HFORM.out]
      exact ⟨_, rfl, zeroPg _, hz2⟩
  have st2_3_6_7_10_11_18_20_ : ∀ (a55 : Option Addr) (m55 c55 : Nat) (n5 : Nat) (w1 : World), Below w2.heap.size w2 w1 → Mine w2.heap.size w1 (.slice a55 m55 c55) (((b.take 512).drop 17).take ln) → ZedR w1 n5 w2.heap.size → T 2 #[true, true, true, true, true, true, true, true, true, true, true, true, true, true, true, true, true, true, true, false, true, false] ((((((((A.put (some 5) (.pointer (some ⟨n5, 0, none⟩))).put (some 39) (.int .u64 V0)).put (some 40) (.int .u32 V0)).put (some 43) (.int .u64 V1)).put (some 44) (.int .u32 V1)).put (some 47) (.int .u64 V2)).put (some 48) (.int .u32 V2)).put (some 55) (.slice a55 m55 c55)) w1 := by
    intro a55 m55 c55 n5 w1 hb f55 f5
    refine HT _ _ _ _ [19] (by rw [HR]; kernel_rfl) (by decide) ?_
    refine List.forall_mem_cons.2 ⟨?_, fun _ h => by cases h⟩
    · refine M19 _ _ _ (by rw [eval_put _ 55 40 _ (by decide), eval_put _ 48 40 _ (by decide), eval_put _ 47 40 _ (by decide), eval_put _ 44 40 _ (by decide), eval_put _ 43 40 _ (by decide)]; exact eval_hit _ 40 _ (by first | (rw [hsz]; decide) | (simp only [put_size]; rw [hsz]; decide))) (by rw [eval_put _ 55 44 _ (by decide), eval_put _ 48 44 _ (by decide), eval_put _ 47 44 _ (by decide)]; exact eval_hit _ 44 _ (by first | (rw [hsz]; decide) | (simp only [put_size]; rw [hsz]; decide))) (by rw [eval_put _ 55 48 _ (by decide)]; exact eval_hit _ 48 _ (by first | (rw [hsz]; decide) | (simp only [put_size]; rw [hsz]; decide))) (by rw [eval_put _ 55 51 _ (by decide), eval_put _ 48 51 _ (by decide), eval_put _ 47 51 _ (by decide), eval_put _ 44 51 _ (by decide), eval_put _ 43 51 _ (by decide), eval_put _ 40 51 _ (by decide), eval_put _ 39 51 _ (by decide), eval_put _ 5 51 _ (by decide)]; exact E51) (by exact eval_hit _ 55 _ (by first | (rw [hsz]; decide) | (simp only [put_size]; rw [hsz]; decide))) ⟨fun _ => HSB.out w1 hb, ?_⟩
      rw [show (#[true, true, true, true, true, true, true, true, true, true, true, true, true, true, true, true, true, true, true, false, true, false] : Array Bool).setIfInBounds 19 true = #[true, true, true, true, true, true, true, true, true, true, true, true, true, true, true, true, true, true, true, true, true, false] from by kernel_rfl]
      exact st2_3_6_7_10_11_18_19_20_ a55 m55 c55 n5 w1 hb f55 f5
  have st2_3_6_7_10_11_18_19_ : ∀ (a55 : Option Addr) (m55 c55 : Nat) (w1 : World), Below w2.heap.size w2 w1 → Mine w2.heap.size w1 (.slice a55 m55 c55) (((b.take 512).drop 17).take ln) → T 2 #[true, true, true, true, true, true, true, true, true, true, true, true, true, true, true, true, true, true, true, true, false, false] ((((((((A.put (some 39) (.int .u64 V0)).put (some 40) (.int .u32 V0)).put (some 43) (.int .u64 V1)).put (some 44) (.int .u32 V1)).put (some 47) (.int .u64 V2)).put (some 48) (.int .u32 V2)).put (some 55) (.slice a55 m55 c55)).put (some 56) (.agg #[.int .u32 V0, .int .u32 V1, .int .u32 V2, .int .u8 pk, .slice a55 m55 c55])) w1 := by
    intro a55 m55 c55 w1 hb f55
    refine HT _ _ _ _ [20] (by rw [HR]; kernel_rfl) (by decide) ?_
    refine List.forall_mem_cons.2 ⟨?_, fun _ h => by cases h⟩
    · refine M20 _ _ _ hb  (fun n5 w2 hf hb2 => ⟨fun _ => HSB.out w2 (btr hb hb2), ?_⟩)
      rw [show (#[true, true, true, true, true, true, true, true, true, true, true, true, true, true, true, true, true, true, true, true, false, false] : Array Bool).setIfInBounds 20 true = #[true, true, true, true, true, true, true, true, true, true, true, true, true, true, true, true, true, true, true, true, true, false] from by kernel_rfl, put_swap _ 56 5 _ _ (by decide), put_swap _ 55 5 _ _ (by decide), put_swap _ 48 5 _ _ (by decide), put_swap _ 47 5 _ _ (by decide), put_swap _ 44 5 _ _ (by decide), put_swap _ 43 5 _ _ (by decide), put_swap _ 40 5 _ _ (by decide), put_swap _ 39 5 _ _ (by decide)]
      exact st2_3_6_7_10_11_18_19_20_ a55 m55 c55 n5 w2 (btr hb hb2) (f55.below hb2) hf
  have st2_3_6_7_10_18_20_ : ∀ (a55 : Option Addr) (m55 c55 : Nat) (n5 : Nat) (w1 : World), Below w2.heap.size w2 w1 → Mine w2.heap.size w1 (.slice a55 m55 c55) (((b.take 512).drop 17).take ln) → ZedR w1 n5 w2.heap.size → T 3 #[true, true, true, true, true, true, true, true, true, true, true, false, true, true, true, true, true, true, true, false, true, false] (((((((A.put (some 5) (.pointer (some ⟨n5, 0, none⟩))).put (some 39) (.int .u64 V0)).put (some 40) (.int .u32 V0)).put (some 43) (.int .u64 V1)).put (some 44) (.int .u32 V1)).put (some 47) (.int .u64 V2)).put (some 55) (.slice a55 m55 c55)) w1 := by
    intro a55 m55 c55 n5 w1 hb f55 f5
    refine HT _ _ _ _ [11] (by rw [HR]; kernel_rfl) (by decide) ?_
    refine List.forall_mem_cons.2 ⟨?_, fun _ h => by cases h⟩
    · refine M11 _ _ _ (by rw [eval_put _ 55 47 _ (by decide)]; exact eval_hit _ 47 _ (by first | (rw [hsz]; decide) | (simp only [put_size]; rw [hsz]; decide))) ⟨fun _ => HSB.out w1 hb, ?_⟩
      rw [show (#[true, true, true, true, true, true, true, true, true, true, true, false, true, true, true, true, true, true, true, false, true, false] : Array Bool).setIfInBounds 11 true = #[true, true, true, true, true, true, true, true, true, true, true, true, true, true, true, true, true, true, true, false, true, false] from by kernel_rfl, put_swap _ 55 48 _ _ (by decide)]
      exact st2_3_6_7_10_11_18_20_ a55 m55 c55 n5 w1 hb f55 f5
  have st2_3_6_7_10_11_20_ : ∀ (n5 : Nat) (w1 : World), Below w2.heap.size w2 w1 → ZedR w1 n5 w2.heap.size → T 3 #[true, true, true, true, true, true, true, true, true, true, true, true, true, true, true, true, true, true, false, false, true, false] (((((((A.put (some 5) (.pointer (some ⟨n5, 0, none⟩))).put (some 39) (.int .u64 V0)).put (some 40) (.int .u32 V0)).put (some 43) (.int .u64 V1)).put (some 44) (.int .u32 V1)).put (some 47) (.int .u64 V2)).put (some 48) (.int .u32 V2)) w1 := by
    intro n5 w1 hb f5
    refine HT _ _ _ _ [18] (by rw [HR]; kernel_rfl) (by decide) ?_
    refine List.forall_mem_cons.2 ⟨?_, fun _ h => by cases h⟩
    · refine M18 _ _ _ hb (by rw [eval_put _ 48 53 _ (by decide), eval_put _ 47 53 _ (by decide), eval_put _ 44 53 _ (by decide), eval_put _ 43 53 _ (by decide), eval_put _ 40 53 _ (by decide), eval_put _ 39 53 _ (by decide), eval_put _ 5 53 _ (by decide)]; exact E53) (by rw [eval_put _ 48 54 _ (by decide), eval_put _ 47 54 _ (by decide), eval_put _ 44 54 _ (by decide), eval_put _ 43 54 _ (by decide), eval_put _ 40 54 _ (by decide), eval_put _ 39 54 _ (by decide), eval_put _ 5 54 _ (by decide)]; exact E54) (fun a55 m55 c55 w2 hf hb2 => ⟨fun _ => HSB.out w2 (btr hb hb2), ?_⟩)
      rw [show (#[true, true, true, true, true, true, true, true, true, true, true, true, true, true, true, true, true, true, false, false, true, false] : Array Bool).setIfInBounds 18 true = #[true, true, true, true, true, true, true, true, true, true, true, true, true, true, true, true, true, true, true, false, true, false] from by kernel_rfl]
      exact st2_3_6_7_10_11_18_20_ a55 m55 c55 n5 w2 (btr hb hb2) hf (f5.below hb2)
  have st2_3_6_7_10_11_18_ : ∀ (a55 : Option Addr) (m55 c55 : Nat) (w1 : World), Below w2.heap.size w2 w1 → Mine w2.heap.size w1 (.slice a55 m55 c55) (((b.take 512).drop 17).take ln) → T 3 #[true, true, true, true, true, true, true, true, true, true, true, true, true, true, true, true, true, true, true, false, false, false] (((((((A.put (some 39) (.int .u64 V0)).put (some 40) (.int .u32 V0)).put (some 43) (.int .u64 V1)).put (some 44) (.int .u32 V1)).put (some 47) (.int .u64 V2)).put (some 48) (.int .u32 V2)).put (some 55) (.slice a55 m55 c55)) w1 := by
    intro a55 m55 c55 w1 hb f55
    refine HT _ _ _ _ [19, 20] (by rw [HR]; kernel_rfl) (by decide) ?_
    refine List.forall_mem_cons.2 ⟨?_, List.forall_mem_cons.2 ⟨?_, fun _ h => by cases h⟩⟩
    · refine M19 _ _ _ (by rw [eval_put _ 55 40 _ (by decide), eval_put _ 48 40 _ (by decide), eval_put _ 47 40 _ (by decide), eval_put _ 44 40 _ (by decide), eval_put _ 43 40 _ (by decide)]; exact eval_hit _ 40 _ (by first | (rw [hsz]; decide) | (simp only [put_size]; rw [hsz]; decide))) (by rw [eval_put _ 55 44 _ (by decide), eval_put _ 48 44 _ (by decide), eval_put _ 47 44 _ (by decide)]; exact eval_hit _ 44 _ (by first | (rw [hsz]; decide) | (simp only [put_size]; rw [hsz]; decide))) (by rw [eval_put _ 55 48 _ (by decide)]; exact eval_hit _ 48 _ (by first | (rw [hsz]; decide) | (simp only [put_size]; rw [hsz]; decide))) (by rw [eval_put _ 55 51 _ (by decide), eval_put _ 48 51 _ (by decide), eval_put _ 47 51 _ (by decide), eval_put _ 44 51 _ (by decide), eval_put _ 43 51 _ (by decide), eval_put _ 40 51 _ (by decide), eval_put _ 39 51 _ (by decide)]; exact E51) (by exact eval_hit _ 55 _ (by first | (rw [hsz]; decide) | (simp only [put_size]; rw [hsz]; decide))) ⟨fun _ => HSB.out w1 hb, ?_⟩
      rw [show (#[true, true, true, true, true, true, true, true, true, true, true, true, true, true, true, true, true, true, true, false, false, false] : Array Bool).setIfInBounds 19 true = #[true, true, true, true, true, true, true, true, true, true, true, true, true, true, true, true, true, true, true, true, false, false] from by kernel_rfl]
      exact st2_3_6_7_10_11_18_19_ a55 m55 c55 w1 hb f55
    · refine M20 _ _ _ hb  (fun n5 w2 hf hb2 => ⟨fun _ => HSB.out w2 (btr hb hb2), ?_⟩)
      rw [show (#[true, true, true, true, true, true, true, true, true, true, true, true, true, true, true, true, true, true, true, false, false, false] : Array Bool).setIfInBounds 20 true = #[true, true, true, true, true, true, true, true, true, true, true, true, true, true, true, true, true, true, true, false, true, false] from by kernel_rfl, put_swap _ 55 5 _ _ (by decide), put_swap _ 48 5 _ _ (by decide), put_swap _ 47 5 _ _ (by decide), put_swap _ 44 5 _ _ (by decide), put_swap _ 43 5 _ _ (by decide), put_swap _ 40 5 _ _ (by decide), put_swap _ 39 5 _ _ (by decide)]
      exact st2_3_6_7_10_11_18_20_ a55 m55 c55 n5 w2 (btr hb hb2) (f55.below hb2) hf
  have st2_6_7_10_11_18_20_ : ∀ (a55 : Option Addr) (m55 c55 : Nat) (n5 : Nat) (w1 : World), Below w2.heap.size w2 w1 → Mine w2.heap.size w1 (.slice a55 m55 c55) (((b.take 512).drop 17).take ln) → ZedR w1 n5 w2.heap.size → T 3 #[true, true, true, false, true, true, true, true, true, true, true, true, true, true, true, true, true, true, true, false, true, false] (((((((A.put (some 5) (.pointer (some ⟨n5, 0, none⟩))).put (some 39) (.int .u64 V0)).put (some 43) (.int .u64 V1)).put (some 44) (.int .u32 V1)).put (some 47) (.int .u64 V2)).put (some 48) (.int .u32 V2)).put (some 55) (.slice a55 m55 c55)) w1 := by
    intro a55 m55 c55 n5 w1 hb f55 f5
    refine HT _ _ _ _ [3] (by rw [HR]; kernel_rfl) (by decide) ?_
    refine List.forall_mem_cons.2 ⟨?_, fun _ h => by cases h⟩
    · refine M3 _ _ _ (by rw [eval_put _ 55 39 _ (by decide), eval_put _ 48 39 _ (by decide), eval_put _ 47 39 _ (by decide), eval_put _ 44 39 _ (by decide), eval_put _ 43 39 _ (by decide)]; exact eval_hit _ 39 _ (by first | (rw [hsz]; decide) | (simp only [put_size]; rw [hsz]; decide))) ⟨fun _ => HSB.out w1 hb, ?_⟩
      rw [show (#[true, true, true, false, true, true, true, true, true, true, true, true, true, true, true, true, true, true, true, false, true, false] : Array Bool).setIfInBounds 3 true = #[true, true, true, true, true, true, true, true, true, true, true, true, true, true, true, true, true, true, true, false, true, false] from by kernel_rfl, put_swap _ 55 40 _ _ (by decide), put_swap _ 48 40 _ _ (by decide), put_swap _ 47 40 _ _ (by decide), put_swap _ 44 40 _ _ (by decide), put_swap _ 43 40 _ _ (by decide)]
      exact st2_3_6_7_10_11_18_20_ a55 m55 c55 n5 w1 hb f55 f5
  have st2_3_6_10_11_18_20_ : ∀ (a55 : Option Addr) (m55 c55 : Nat) (n5 : Nat) (w1 : World), Below w2.heap.size w2 w1 → Mine w2.heap.size w1 (.slice a55 m55 c55) (((b.take 512).drop 17).take ln) → ZedR w1 n5 w2.heap.size → T 3 #[true, true, true, true, true, true, true, false, true, true, true, true, true, true, true, true, true, true, true, false, true, false] (((((((A.put (some 5) (.pointer (some ⟨n5, 0, none⟩))).put (some 39) (.int .u64 V0)).put (some 40) (.int .u32 V0)).put (some 43) (.int .u64 V1)).put (some 47) (.int .u64 V2)).put (some 48) (.int .u32 V2)).put (some 55) (.slice a55 m55 c55)) w1 := by
    intro a55 m55 c55 n5 w1 hb f55 f5
    refine HT _ _ _ _ [7] (by rw [HR]; kernel_rfl) (by decide) ?_
    refine List.forall_mem_cons.2 ⟨?_, fun _ h => by cases h⟩
    · refine M7 _ _ _ (by rw [eval_put _ 55 43 _ (by decide), eval_put _ 48 43 _ (by decide), eval_put _ 47 43 _ (by decide)]; exact eval_hit _ 43 _ (by first | (rw [hsz]; decide) | (simp only [put_size]; rw [hsz]; decide))) ⟨fun _ => HSB.out w1 hb, ?_⟩
      rw [show (#[true, true, true, true, true, true, true, false, true, true, true, true, true, true, true, true, true, true, true, false, true, false] : Array Bool).setIfInBounds 7 true = #[true, true, true, true, true, true, true, true, true, true, true, true, true, true, true, true, true, true, true, false, true, false] from by kernel_rfl, put_swap _ 55 44 _ _ (by decide), put_swap _ 48 44 _ _ (by decide), put_swap _ 47 44 _ _ (by decide)]
      exact st2_3_6_7_10_11_18_20_ a55 m55 c55 n5 w1 hb f55 f5
  have st2_3_6_10_11_20_ : ∀ (n5 : Nat) (w1 : World), Below w2.heap.size w2 w1 → ZedR w1 n5 w2.heap.size → T 4 #[true, true, true, true, true, true, true, false, true, true, true, true, true, true, true, true, true, true, false, false, true, false] ((((((A.put (some 5) (.pointer (some ⟨n5, 0, none⟩))).put (some 39) (.int .u64 V0)).put (some 40) (.int .u32 V0)).put (some 43) (.int .u64 V1)).put (some 47) (.int .u64 V2)).put (some 48) (.int .u32 V2)) w1 := by
    intro n5 w1 hb f5
    refine HT _ _ _ _ [7, 18] (by rw [HR]; kernel_rfl) (by decide) ?_
    refine List.forall_mem_cons.2 ⟨?_, List.forall_mem_cons.2 ⟨?_, fun _ h => by cases h⟩⟩
    · refine M7 _ _ _ (by rw [eval_put _ 48 43 _ (by decide), eval_put _ 47 43 _ (by decide)]; exact eval_hit _ 43 _ (by first | (rw [hsz]; decide) | (simp only [put_size]; rw [hsz]; decide))) ⟨fun _ => HSB.out w1 hb, ?_⟩
      rw [show (#[true, true, true, true, true, true, true, false, true, true, true, true, true, true, true, true, true, true, false, false, true, false] : Array Bool).setIfInBounds 7 true = #[true, true, true, true, true, true, true, true, true, true, true, true, true, true, true, true, true, true, false, false, true, false] from by kernel_rfl, put_swap _ 48 44 _ _ (by decide), put_swap _ 47 44 _ _ (by decide)]
      exact st2_3_6_7_10_11_20_ n5 w1 hb f5
    · refine M18 _ _ _ hb (by rw [eval_put _ 48 53 _ (by decide), eval_put _ 47 53 _ (by decide), eval_put _ 43 53 _ (by decide), eval_put _ 40 53 _ (by decide), eval_put _ 39 53 _ (by decide), eval_put _ 5 53 _ (by decide)]; exact E53) (by rw [eval_put _ 48 54 _ (by decide), eval_put _ 47 54 _ (by decide), eval_put _ 43 54 _ (by decide), eval_put _ 40 54 _ (by decide), eval_put _ 39 54 _ (by decide), eval_put _ 5 54 _ (by decide)]; exact E54) (fun a55 m55 c55 w2 hf hb2 => ⟨fun _ => HSB.out w2 (btr hb hb2), ?_⟩)
      rw [show (#[true, true, true, true, true, true, true, false, true, true, true, true, true, true, true, true, true, true, false, false, true, false] : Array Bool).setIfInBounds 18 true = #[true, true, true, true, true, true, true, false, true, true, true, true, true, true, true, true, true, true, true, false, true, false] from by kernel_rfl]
      exact st2_3_6_10_11_18_20_ a55 m55 c55 n5 w2 (btr hb hb2) hf (f5.below hb2)
  have st2_6_7_10_11_20_ : ∀ (n5 : Nat) (w1 : World), Below w2.heap.size w2 w1 → ZedR w1 n5 w2.heap.size → T 4 #[true, true, true, false, true, true, true, true, true, true, true, true, true, true, true, true, true, true, false, false, true, false] ((((((A.put (some 5) (.pointer (some ⟨n5, 0, none⟩))).put (some 39) (.int .u64 V0)).put (some 43) (.int .u64 V1)).put (some 44) (.int .u32 V1)).put (some 47) (.int .u64 V2)).put (some 48) (.int .u32 V2)) w1 := by
    intro n5 w1 hb f5
    refine HT _ _ _ _ [3, 18] (by rw [HR]; kernel_rfl) (by decide) ?_
    refine List.forall_mem_cons.2 ⟨?_, List.forall_mem_cons.2 ⟨?_, fun _ h => by cases h⟩⟩
    · refine M3 _ _ _ (by rw [eval_put _ 48 39 _ (by decide), eval_put _ 47 39 _ (by decide), eval_put _ 44 39 _ (by decide), eval_put _ 43 39 _ (by decide)]; exact eval_hit _ 39 _ (by first | (rw [hsz]; decide) | (simp only [put_size]; rw [hsz]; decide))) ⟨fun _ => HSB.out w1 hb, ?_⟩
      rw [show (#[true, true, true, false, true, true, true, true, true, true, true, true, true, true, true, true, true, true, false, false, true, false] : Array Bool).setIfInBounds 3 true = #[true, true, true, true, true, true, true, true, true, true, true, true, true, true, true, true, true, true, false, false, true, false] from by kernel_rfl, put_swap _ 48 40 _ _ (by decide), put_swap _ 47 40 _ _ (by decide), put_swap _ 44 40 _ _ (by decide), put_swap _ 43 40 _ _ (by decide)]
      exact st2_3_6_7_10_11_20_ n5 w1 hb f5
    · refine M18 _ _ _ hb (by rw [eval_put _ 48 53 _ (by decide), eval_put _ 47 53 _ (by decide), eval_put _ 44 53 _ (by decide), eval_put _ 43 53 _ (by decide), eval_put _ 39 53 _ (by decide), eval_put _ 5 53 _ (by decide)]; exact E53) (by rw [eval_put _ 48 54 _ (by decide), eval_put _ 47 54 _ (by decide), eval_put _ 44 54 _ (by decide), eval_put _ 43 54 _ (by decide), eval_put _ 39 54 _ (by decide), eval_put _ 5 54 _ (by decide)]; exact E54) (fun a55 m55 c55 w2 hf hb2 => ⟨fun _ => HSB.out w2 (btr hb hb2), ?_⟩)
      rw [show (#[true, true, true, false, true, true, true, true, true, true, true, true, true, true, true, true, true, true, false, false, true, false] : Array Bool).setIfInBounds 18 true = #[true, true, true, false, true, true, true, true, true, true, true, true, true, true, true, true, true, true, true, false, true, false] from by kernel_rfl]
      exact st2_6_7_10_11_18_20_ a55 m55 c55 n5 w2 (btr hb hb2) hf (f5.below hb2)
  have st2_3_6_7_10_18_ : ∀ (a55 : Option Addr) (m55 c55 : Nat) (w1 : World), Below w2.heap.size w2 w1 → Mine w2.heap.size w1 (.slice a55 m55 c55) (((b.take 512).drop 17).take ln) → T 4 #[true, true, true, true, true, true, true, true, true, true, true, false, true, true, true, true, true, true, true, false, false, false] ((((((A.put (some 39) (.int .u64 V0)).put (some 40) (.int .u32 V0)).put (some 43) (.int .u64 V1)).put (some 44) (.int .u32 V1)).put (some 47) (.int .u64 V2)).put (some 55) (.slice a55 m55 c55)) w1 := by
    intro a55 m55 c55 w1 hb f55
    refine HT _ _ _ _ [11, 20] (by rw [HR]; kernel_rfl) (by decide) ?_
    refine List.forall_mem_cons.2 ⟨?_, List.forall_mem_cons.2 ⟨?_, fun _ h => by cases h⟩⟩
    · refine M11 _ _ _ (by rw [eval_put _ 55 47 _ (by decide)]; exact eval_hit _ 47 _ (by first | (rw [hsz]; decide) | (simp only [put_size]; rw [hsz]; decide))) ⟨fun _ => HSB.out w1 hb, ?_⟩
      rw [show (#[true, true, true, true, true, true, true, true, true, true, true, false, true, true, true, true, true, true, true, false, false, false] : Array Bool).setIfInBounds 11 true = #[true, true, true, true, true, true, true, true, true, true, true, true, true, true, true, true, true, true, true, false, false, false] from by kernel_rfl, put_swap _ 55 48 _ _ (by decide)]
      exact st2_3_6_7_10_11_18_ a55 m55 c55 w1 hb f55
    · refine M20 _ _ _ hb  (fun n5 w2 hf hb2 => ⟨fun _ => HSB.out w2 (btr hb hb2), ?_⟩)
      rw [show (#[true, true, true, true, true, true, true, true, true, true, true, false, true, true, true, true, true, true, true, false, false, false] : Array Bool).setIfInBounds 20 true = #[true, true, true, true, true, true, true, true, true, true, true, false, true, true, true, true, true, true, true, false, true, false] from by kernel_rfl, put_swap _ 55 5 _ _ (by decide), put_swap _ 47 5 _ _ (by decide), put_swap _ 44 5 _ _ (by decide), put_swap _ 43 5 _ _ (by decide), put_swap _ 40 5 _ _ (by decide), put_swap _ 39 5 _ _ (by decide)]
      exact st2_3_6_7_10_18_20_ a55 m55 c55 n5 w2 (btr hb hb2) (f55.below hb2) hf
  have st2_3_6_10_18_20_ : ∀ (a55 : Option Addr) (m55 c55 : Nat) (n5 : Nat) (w1 : World), Below w2.heap.size w2 w1 → Mine w2.heap.size w1 (.slice a55 m55 c55) (((b.take 512).drop 17).take ln) → ZedR w1 n5 w2.heap.size → T 4 #[true, true, true, true, true, true, true, false, true, true, true, false, true, true, true, true, true, true, true, false, true, false] ((((((A.put (some 5) (.pointer (some ⟨n5, 0, none⟩))).put (some 39) (.int .u64 V0)).put (some 40) (.int .u32 V0)).put (some 43) (.int .u64 V1)).put (some 47) (.int .u64 V2)).put (some 55) (.slice a55 m55 c55)) w1 := by
    intro a55 m55 c55 n5 w1 hb f55 f5
    refine HT _ _ _ _ [7, 11] (by rw [HR]; kernel_rfl) (by decide) ?_
    refine List.forall_mem_cons.2 ⟨?_, List.forall_mem_cons.2 ⟨?_, fun _ h => by cases h⟩⟩
    · refine M7 _ _ _ (by rw [eval_put _ 55 43 _ (by decide), eval_put _ 47 43 _ (by decide)]; exact eval_hit _ 43 _ (by first | (rw [hsz]; decide) | (simp only [put_size]; rw [hsz]; decide))) ⟨fun _ => HSB.out w1 hb, ?_⟩
      rw [show (#[true, true, true, true, true, true, true, false, true, true, true, false, true, true, true, true, true, true, true, false, true, false] : Array Bool).setIfInBounds 7 true = #[true, true, true, true, true, true, true, true, true, true, true, false, true, true, true, true, true, true, true, false, true, false] from by kernel_rfl, put_swap _ 55 44 _ _ (by decide), put_swap _ 47 44 _ _ (by decide)]
      exact st2_3_6_7_10_18_20_ a55 m55 c55 n5 w1 hb f55 f5
    · refine M11 _ _ _ (by rw [eval_put _ 55 47 _ (by decide)]; exact eval_hit _ 47 _ (by first | (rw [hsz]; decide) | (simp only [put_size]; rw [hsz]; decide))) ⟨fun _ => HSB.out w1 hb, ?_⟩
      rw [show (#[true, true, true, true, true, true, true, false, true, true, true, false, true, true, true, true, true, true, true, false, true, false] : Array Bool).setIfInBounds 11 true = #[true, true, true, true, true, true, true, false, true, true, true, true, true, true, true, true, true, true, true, false, true, false] from by kernel_rfl, put_swap _ 55 48 _ _ (by decide)]
      exact st2_3_6_10_11_18_20_ a55 m55 c55 n5 w1 hb f55 f5
  have st2_3_6_7_10_20_ : ∀ (n5 : Nat) (w1 : World), Below w2.heap.size w2 w1 → ZedR w1 n5 w2.heap.size → T 4 #[true, true, true, true, true, true, true, true, true, true, true, false, true, true, true, true, true, true, false, false, true, false] ((((((A.put (some 5) (.pointer (some ⟨n5, 0, none⟩))).put (some 39) (.int .u64 V0)).put (some 40) (.int .u32 V0)).put (some 43) (.int .u64 V1)).put (some 44) (.int .u32 V1)).put (some 47) (.int .u64 V2)) w1 := by
    intro n5 w1 hb f5
    refine HT _ _ _ _ [11, 18] (by rw [HR]; kernel_rfl) (by decide) ?_
    refine List.forall_mem_cons.2 ⟨?_, List.forall_mem_cons.2 ⟨?_, fun _ h => by cases h⟩⟩
    · refine M11 _ _ _ (by exact eval_hit _ 47 _ (by first | (rw [hsz]; decide) | (simp only [put_size]; rw [hsz]; decide))) ⟨fun _ => HSB.out w1 hb, ?_⟩
      rw [show (#[true, true, true, true, true, true, true, true, true, true, true, false, true, true, true, true, true, true, false, false, true, false] : Array Bool).setIfInBounds 11 true = #[true, true, true, true, true, true, true, true, true, true, true, true, true, true, true, true, true, true, false, false, true, false] from by kernel_rfl]
      exact st2_3_6_7_10_11_20_ n5 w1 hb f5
    · refine M18 _ _ _ hb (by rw [eval_put _ 47 53 _ (by decide), eval_put _ 44 53 _ (by decide), eval_put _ 43 53 _ (by decide), eval_put _ 40 53 _ (by decide), eval_put _ 39 53 _ (by decide), eval_put _ 5 53 _ (by decide)]; exact E53) (by rw [eval_put _ 47 54 _ (by decide), eval_put _ 44 54 _ (by decide), eval_put _ 43 54 _ (by decide), eval_put _ 40 54 _ (by decide), eval_put _ 39 54 _ (by decide), eval_put _ 5 54 _ (by decide)]; exact E54) (fun a55 m55 c55 w2 hf hb2 => ⟨fun _ => HSB.out w2 (btr hb hb2), ?_⟩)
      rw [show (#[true, true, true, true, true, true, true, true, true, true, true, false, true, true, true, true, true, true, false, false, true, false] : Array Bool).setIfInBounds 18 true = #[true, true, true, true, true, true, true, true, true, true, true, false, true, true, true, true, true, true, true, false, true, false] from by kernel_rfl]
      exact st2_3_6_7_10_18_20_ a55 m55 c55 n5 w2 (btr hb hb2) hf (f5.below hb2)
  have st2_6_7_10_18_20_ : ∀ (a55 : Option Addr) (m55 c55 : Nat) (n5 : Nat) (w1 : World), Below w2.heap.size w2 w1 → Mine w2.heap.size w1 (.slice a55 m55 c55) (((b.take 512).drop 17).take ln) → ZedR w1 n5 w2.heap.size → T 4 #[true, true, true, false, true, true, true, true, true, true, true, false, true, true, true, true, true, true, true, false, true, false] ((((((A.put (some 5) (.pointer (some ⟨n5, 0, none⟩))).put (some 39) (.int .u64 V0)).put (some 43) (.int .u64 V1)).put (some 44) (.int .u32 V1)).put (some 47) (.int .u64 V2)).put (some 55) (.slice a55 m55 c55)) w1 := by
    intro a55 m55 c55 n5 w1 hb f55 f5
    refine HT _ _ _ _ [3, 11] (by rw [HR]; kernel_rfl) (by decide) ?_
    refine List.forall_mem_cons.2 ⟨?_, List.forall_mem_cons.2 ⟨?_, fun _ h => by cases h⟩⟩
    · refine M3 _ _ _ (by rw [eval_put _ 55 39 _ (by decide), eval_put _ 47 39 _ (by decide), eval_put _ 44 39 _ (by decide), eval_put _ 43 39 _ (by decide)]; exact eval_hit _ 39 _ (by first | (rw [hsz]; decide) | (simp only [put_size]; rw [hsz]; decide))) ⟨fun _ => HSB.out w1 hb, ?_⟩
      rw [show (#[true, true, true, false, true, true, true, true, true, true, true, false, true, true, true, true, true, true, true, false, true, false] : Array Bool).setIfInBounds 3 true = #[true, true, true, true, true, true, true, true, true, true, true, false, true, true, true, true, true, true, true, false, true, false] from by kernel_rfl, put_swap _ 55 40 _ _ (by decide), put_swap _ 47 40 _ _ (by decide), put_swap _ 44 40 _ _ (by decide), put_swap _ 43 40 _ _ (by decide)]
      exact st2_3_6_7_10_18_20_ a55 m55 c55 n5 w1 hb f55 f5
    · refine M11 _ _ _ (by rw [eval_put _ 55 47 _ (by decide)]; exact eval_hit _ 47 _ (by first | (rw [hsz]; decide) | (simp only [put_size]; rw [hsz]; decide))) ⟨fun _ => HSB.out w1 hb, ?_⟩
      rw [show (#[true, true, true, false, true, true, true, true, true, true, true, false, true, true, true, true, true, true, true, false, true, false] : Array Bool).setIfInBounds 11 true = #[true, true, true, false, true, true, true, true, true, true, true, true, true, true, true, true, true, true, true, false, true, false] from by kernel_rfl, put_swap _ 55 48 _ _ (by decide)]
      exact st2_6_7_10_11_18_20_ a55 m55 c55 n5 w1 hb f55 f5
  have st2_6_7_10_11_18_ : ∀ (a55 : Option Addr) (m55 c55 : Nat) (w1 : World), Below w2.heap.size w2 w1 → Mine w2.heap.size w1 (.slice a55 m55 c55) (((b.take 512).drop 17).take ln) → T 4 #[true, true, true, false, true, true, true, true, true, true, true, true, true, true, true, true, true, true, true, false, false, false] ((((((A.put (some 39) (.int .u64 V0)).put (some 43) (.int .u64 V1)).put (some 44) (.int .u32 V1)).put (some 47) (.int .u64 V2)).put (some 48) (.int .u32 V2)).put (some 55) (.slice a55 m55 c55)) w1 := by
    intro a55 m55 c55 w1 hb f55
    refine HT _ _ _ _ [3, 20] (by rw [HR]; kernel_rfl) (by decide) ?_
    refine List.forall_mem_cons.2 ⟨?_, List.forall_mem_cons.2 ⟨?_, fun _ h => by cases h⟩⟩
    · refine M3 _ _ _ (by rw [eval_put _ 55 39 _ (by decide), eval_put _ 48 39 _ (by decide), eval_put _ 47 39 _ (by decide), eval_put _ 44 39 _ (by decide), eval_put _ 43 39 _ (by decide)]; exact eval_hit _ 39 _ (by first | (rw [hsz]; decide) | (simp only [put_size]; rw [hsz]; decide))) ⟨fun _ => HSB.out w1 hb, ?_⟩
      rw [show (#[true, true, true, false, true, true, true, true, true, true, true, true, true, true, true, true, true, true, true, false, false, false] : Array Bool).setIfInBounds 3 true = #[true, true, true, true, true, true, true, true, true, true, true, true, true, true, true, true, true, true, true, false, false, false] from by kernel_rfl, put_swap _ 55 40 _ _ (by decide), put_swap _ 48 40 _ _ (by decide), put_swap _ 47 40 _ _ (by decide), put_swap _ 44 40 _ _ (by decide), put_swap _ 43 40 _ _ (by decide)]
      exact st2_3_6_7_10_11_18_ a55 m55 c55 w1 hb f55
    · refine M20 _ _ _ hb  (fun n5 w2 hf hb2 => ⟨fun _ => HSB.out w2 (btr hb hb2), ?_⟩)
      rw [show (#[true, true, true, false, true, true, true, true, true, true, true, true, true, true, true, true, true, true, true, false, false, false] : Array Bool).setIfInBounds 20 true = #[true, true, true, false, true, true, true, true, true, true, true, true, true, true, true, true, true, true, true, false, true, false] from by kernel_rfl, put_swap _ 55 5 _ _ (by decide), put_swap _ 48 5 _ _ (by decide), put_swap _ 47 5 _ _ (by decide), put_swap _ 44 5 _ _ (by decide), put_swap _ 43 5 _ _ (by decide), put_swap _ 39 5 _ _ (by decide)]
      exact st2_6_7_10_11_18_20_ a55 m55 c55 n5 w2 (btr hb hb2) (f55.below hb2) hf
  have st2_6_10_11_18_20_ : ∀ (a55 : Option Addr) (m55 c55 : Nat) (n5 : Nat) (w1 : World), Below w2.heap.size w2 w1 → Mine w2.heap.size w1 (.slice a55 m55 c55) (((b.take 512).drop 17).take ln) → ZedR w1 n5 w2.heap.size → T 4 #[true, true, true, false, true, true, true, false, true, true, true, true, true, true, true, true, true, true, true, false, true, false] ((((((A.put (some 5) (.pointer (some ⟨n5, 0, none⟩))).put (some 39) (.int .u64 V0)).put (some 43) (.int .u64 V1)).put (some 47) (.int .u64 V2)).put (some 48) (.int .u32 V2)).put (some 55) (.slice a55 m55 c55)) w1 := by
    intro a55 m55 c55 n5 w1 hb f55 f5
    refine HT _ _ _ _ [3, 7] (by rw [HR]; kernel_rfl) (by decide) ?_
    refine List.forall_mem_cons.2 ⟨?_, List.forall_mem_cons.2 ⟨?_, fun _ h => by cases h⟩⟩
    · refine M3 _ _ _ (by rw [eval_put _ 55 39 _ (by decide), eval_put _ 48 39 _ (by decide), eval_put _ 47 39 _ (by decide), eval_put _ 43 39 _ (by decide)]; exact eval_hit _ 39 _ (by first | (rw [hsz]; decide) | (simp only [put_size]; rw [hsz]; decide))) ⟨fun _ => HSB.out w1 hb, ?_⟩
      rw [show (#[true, true, true, false, true, true, true, false, true, true, true, true, true, true, true, true, true, true, true, false, true, false] : Array Bool).setIfInBounds 3 true = #[true, true, true, true, true, true, true, false, true, true, true, true, true, true, true, true, true, true, true, false, true, false] from by kernel_rfl, put_swap _ 55 40 _ _ (by decide), put_swap _ 48 40 _ _ (by decide), put_swap _ 47 40 _ _ (by decide), put_swap _ 43 40 _ _ (by decide)]
      exact st2_3_6_10_11_18_20_ a55 m55 c55 n5 w1 hb f55 f5
    · refine M7 _ _ _ (by rw [eval_put _ 55 43 _ (by decide), eval_put _ 48 43 _ (by decide), eval_put _ 47 43 _ (by decide)]; exact eval_hit _ 43 _ (by first | (rw [hsz]; decide) | (simp only [put_size]; rw [hsz]; decide))) ⟨fun _ => HSB.out w1 hb, ?_⟩
      rw [show (#[true, true, true, false, true, true, true, false, true, true, true, true, true, true, true, true, true, true, true, false, true, false] : Array Bool).setIfInBounds 7 true = #[true, true, true, false, true, true, true, true, true, true, true, true, true, true, true, true, true, true, true, false, true, false] from by kernel_rfl, put_swap _ 55 44 _ _ (by decide), put_swap _ 48 44 _ _ (by decide), put_swap _ 47 44 _ _ (by decide)]
      exact st2_6_7_10_11_18_20_ a55 m55 c55 n5 w1 hb f55 f5
  have st2_3_6_10_11_18_ : ∀ (a55 : Option Addr) (m55 c55 : Nat) (w1 : World), Below w2.heap.size w2 w1 → Mine w2.heap.size w1 (.slice a55 m55 c55) (((b.take 512).drop 17).take ln) → T 4 #[true, true, true, true, true, true, true, false, true, true, true, true, true, true, true, true, true, true, true, false, false, false] ((((((A.put (some 39) (.int .u64 V0)).put (some 40) (.int .u32 V0)).put (some 43) (.int .u64 V1)).put (some 47) (.int .u64 V2)).put (some 48) (.int .u32 V2)).put (some 55) (.slice a55 m55 c55)) w1 := by
    intro a55 m55 c55 w1 hb f55
    refine HT _ _ _ _ [7, 20] (by rw [HR]; kernel_rfl) (by decide) ?_
    refine List.forall_mem_cons.2 ⟨?_, List.forall_mem_cons.2 ⟨?_, fun _ h => by cases h⟩⟩
    · refine M7 _ _ _ (by rw [eval_put _ 55 43 _ (by decide), eval_put _ 48 43 _ (by decide), eval_put _ 47 43 _ (by decide)]; exact eval_hit _ 43 _ (by first | (rw [hsz]; decide) | (simp only [put_size]; rw [hsz]; decide))) ⟨fun _ => HSB.out w1 hb, ?_⟩
      rw [show (#[true, true, true, true, true, true, true, false, true, true, true, true, true, true, true, true, true, true, true, false, false, false] : Array Bool).setIfInBounds 7 true = #[true, true, true, true, true, true, true, true, true, true, true, true, true, true, true, true, true, true, true, false, false, false] from by kernel_rfl, put_swap _ 55 44 _ _ (by decide), put_swap _ 48 44 _ _ (by decide), put_swap _ 47 44 _ _ (by decide)]
      exact st2_3_6_7_10_11_18_ a55 m55 c55 w1 hb f55
    · refine M20 _ _ _ hb  (fun n5 w2 hf hb2 => ⟨fun _ => HSB.out w2 (btr hb hb2), ?_⟩)
      rw [show (#[true, true, true, true, true, true, true, false, true, true, true, true, true, true, true, true, true, true, true, false, false, false] : Array Bool).setIfInBounds 20 true = #[true, true, true, true, true, true, true, false, true, true, true, true, true, true, true, true, true, true, true, false, true, false] from by kernel_rfl, put_swap _ 55 5 _ _ (by decide), put_swap _ 48 5 _ _ (by decide), put_swap _ 47 5 _ _ (by decide), put_swap _ 43 5 _ _ (by decide), put_swap _ 40 5 _ _ (by decide), put_swap _ 39 5 _ _ (by decide)]
      exact st2_3_6_10_11_18_20_ a55 m55 c55 n5 w2 (btr hb hb2) (f55.below hb2) hf
  have st2_3_6_7_10_11_ : ∀  (w1 : World), Below w2.heap.size w2 w1 → T 4 #[true, true, true, true, true, true, true, true, true, true, true, true, true, true, true, true, true, true, false, false, false, false] ((((((A.put (some 39) (.int .u64 V0)).put (some 40) (.int .u32 V0)).put (some 43) (.int .u64 V1)).put (some 44) (.int .u32 V1)).put (some 47) (.int .u64 V2)).put (some 48) (.int .u32 V2)) w1 := by
    intro  w1 hb 
    refine HT _ _ _ _ [18, 20] (by rw [HR]; kernel_rfl) (by decide) ?_
    refine List.forall_mem_cons.2 ⟨?_, List.forall_mem_cons.2 ⟨?_, fun _ h => by cases h⟩⟩
    · refine M18 _ _ _ hb (by rw [eval_put _ 48 53 _ (by decide), eval_put _ 47 53 _ (by decide), eval_put _ 44 53 _ (by decide), eval_put _ 43 53 _ (by decide), eval_put _ 40 53 _ (by decide), eval_put _ 39 53 _ (by decide)]; exact E53) (by rw [eval_put _ 48 54 _ (by decide), eval_put _ 47 54 _ (by decide), eval_put _ 44 54 _ (by decide), eval_put _ 43 54 _ (by decide), eval_put _ 40 54 _ (by decide), eval_put _ 39 54 _ (by decide)]; exact E54) (fun a55 m55 c55 w2 hf hb2 => ⟨fun _ => HSB.out w2 (btr hb hb2), ?_⟩)
      rw [show (#[true, true, true, true, true, true, true, true, true, true, true, true, true, true, true, true, true, true, false, false, false, false] : Array Bool).setIfInBounds 18 true = #[true, true, true, true, true, true, true, true, true, true, true, true, true, true, true, true, true, true, true, false, false, false] from by kernel_rfl]
      exact st2_3_6_7_10_11_18_ a55 m55 c55 w2 (btr hb hb2) hf
    · refine M20 _ _ _ hb  (fun n5 w2 hf hb2 => ⟨fun _ => HSB.out w2 (btr hb hb2), ?_⟩)
      rw [show (#[true, true, true, true, true, true, true, true, true, true, true, true, true, true, true, true, true, true, false, false, false, false] : Array Bool).setIfInBounds 20 true = #[true, true, true, true, true, true, true, true, true, true, true, true, true, true, true, true, true, true, false, false, true, false] from by kernel_rfl, put_swap _ 48 5 _ _ (by decide), put_swap _ 47 5 _ _ (by decide), put_swap _ 44 5 _ _ (by decide), put_swap _ 43 5 _ _ (by decide), put_swap _ 40 5 _ _ (by decide), put_swap _ 39 5 _ _ (by decide)]
      exact st2_3_6_7_10_11_20_ n5 w2 (btr hb hb2) hf
  have st2_3_6_10_18_ : ∀ (a55 : Option Addr) (m55 c55 : Nat) (w1 : World), Below w2.heap.size w2 w1 → Mine w2.heap.size w1 (.slice a55 m55 c55) (((b.take 512).drop 17).take ln) → T 5 #[true, true, true, true, true, true, true, false, true, true, true, false, true, true, true, true, true, true, true, false, false, false] (((((A.put (some 39) (.int .u64 V0)).put (some 40) (.int .u32 V0)).put (some 43) (.int .u64 V1)).put (some 47) (.int .u64 V2)).put (some 55) (.slice a55 m55 c55)) w1 := by
    intro a55 m55 c55 w1 hb f55
    refine HT _ _ _ _ [7, 11, 20] (by rw [HR]; kernel_rfl) (by decide) ?_
    refine List.forall_mem_cons.2 ⟨?_, List.forall_mem_cons.2 ⟨?_, List.forall_mem_cons.2 ⟨?_, fun _ h => by cases h⟩⟩⟩
    · refine M7 _ _ _ (by rw [eval_put _ 55 43 _ (by decide), eval_put _ 47 43 _ (by decide)]; exact eval_hit _ 43 _ (by first | (rw [hsz]; decide) | (simp only [put_size]; rw [hsz]; decide))) ⟨fun _ => HSB.out w1 hb, ?_⟩
      rw [show (#[true, true, true, true, true, true, true, false, true, true, true, false, true, true, true, true, true, true, true, false, false, false] : Array Bool).setIfInBounds 7 true = #[true, true, true, true, true, true, true, true, true, true, true, false, true, true, true, true, true, true, true, false, false, false] from by kernel_rfl, put_swap _ 55 44 _ _ (by decide), put_swap _ 47 44 _ _ (by decide)]
      exact st2_3_6_7_10_18_ a55 m55 c55 w1 hb f55
    · refine M11 _ _ _ (by rw [eval_put _ 55 47 _ (by decide)]; exact eval_hit _ 47 _ (by first | (rw [hsz]; decide) | (simp only [put_size]; rw [hsz]; decide))) ⟨fun _ => HSB.out w1 hb, ?_⟩
      rw [show (#[true, true, true, true, true, true, true, false, true, true, true, false, true, true, true, true, true, true, true, false, false, false] : Array Bool).setIfInBounds 11 true = #[true, true, true, true, true, true, true, false, true, true, true, true, true, true, true, true, true, true, true, false, false, false] from by kernel_rfl, put_swap _ 55 48 _ _ (by decide)]
      exact st2_3_6_10_11_18_ a55 m55 c55 w1 hb f55
    · refine M20 _ _ _ hb  (fun n5 w2 hf hb2 => ⟨fun _ => HSB.out w2 (btr hb hb2), ?_⟩)
      rw [show (#[true, true, true, true, true, true, true, false, true, true, true, false, true, true, true, true, true, true, true, false, false, false] : Array Bool).setIfInBounds 20 true = #[true, true, true, true, true, true, true, false, true, true, true, false, true, true, true, true, true, true, true, false, true, false] from by kernel_rfl, put_swap _ 55 5 _ _ (by decide), put_swap _ 47 5 _ _ (by decide), put_swap _ 43 5 _ _ (by decide), put_swap _ 40 5 _ _ (by decide), put_swap _ 39 5 _ _ (by decide)]
      exact st2_3_6_10_18_20_ a55 m55 c55 n5 w2 (btr hb hb2) (f55.below hb2) hf
  have st2_6_7_10_20_ : ∀ (n5 : Nat) (w1 : World), Below w2.heap.size w2 w1 → ZedR w1 n5 w2.heap.size → T 5 #[true, true, true, false, true, true, true, true, true, true, true, false, true, true, true, true, true, true, false, false, true, false] (((((A.put (some 5) (.pointer (some ⟨n5, 0, none⟩))).put (some 39) (.int .u64 V0)).put (some 43) (.int .u64 V1)).put (some 44) (.int .u32 V1)).put (some 47) (.int .u64 V2)) w1 := by
    intro n5 w1 hb f5
    refine HT _ _ _ _ [3, 11, 18] (by rw [HR]; kernel_rfl) (by decide) ?_
    refine List.forall_mem_cons.2 ⟨?_, List.forall_mem_cons.2 ⟨?_, List.forall_mem_cons.2 ⟨?_, fun _ h => by cases h⟩⟩⟩
    · refine M3 _ _ _ (by rw [eval_put _ 47 39 _ (by decide), eval_put _ 44 39 _ (by decide), eval_put _ 43 39 _ (by decide)]; exact eval_hit _ 39 _ (by first | (rw [hsz]; decide) | (simp only [put_size]; rw [hsz]; decide))) ⟨fun _ => HSB.out w1 hb, ?_⟩
      rw [show (#[true, true, true, false, true, true, true, true, true, true, true, false, true, true, true, true, true, true, false, false, true, false] : Array Bool).setIfInBounds 3 true = #[true, true, true, true, true, true, true, true, true, true, true, false, true, true, true, true, true, true, false, false, true, false] from by kernel_rfl, put_swap _ 47 40 _ _ (by decide), put_swap _ 44 40 _ _ (by decide), put_swap _ 43 40 _ _ (by decide)]
      exact st2_3_6_7_10_20_ n5 w1 hb f5
    · refine M11 _ _ _ (by exact eval_hit _ 47 _ (by first | (rw [hsz]; decide) | (simp only [put_size]; rw [hsz]; decide))) ⟨fun _ => HSB.out w1 hb, ?_⟩
      rw [show (#[true, true, true, false, true, true, true, true, true, true, true, false, true, true, true, true, true, true, false, false, true, false] : Array Bool).setIfInBounds 11 true = #[true, true, true, false, true, true, true, true, true, true, true, true, true, true, true, true, true, true, false, false, true, false] from by kernel_rfl]
      exact st2_6_7_10_11_20_ n5 w1 hb f5
    · refine M18 _ _ _ hb (by rw [eval_put _ 47 53 _ (by decide), eval_put _ 44 53 _ (by decide), eval_put _ 43 53 _ (by decide), eval_put _ 39 53 _ (by decide), eval_put _ 5 53 _ (by decide)]; exact E53) (by rw [eval_put _ 47 54 _ (by decide), eval_put _ 44 54 _ (by decide), eval_put _ 43 54 _ (by decide), eval_put _ 39 54 _ (by decide), eval_put _ 5 54 _ (by decide)]; exact E54) (fun a55 m55 c55 w2 hf hb2 => ⟨fun _ => HSB.out w2 (btr hb hb2), ?_⟩)
      rw [show (#[true, true, true, false, true, true, true, true, true, true, true, false, true, true, true, true, true, true, false, false, true, false] : Array Bool).setIfInBounds 18 true = #[true, true, true, false, true, true, true, true, true, true, true, false, true, true, true, true, true, true, true, false, true, false] from by kernel_rfl]
      exact st2_6_7_10_18_20_ a55 m55 c55 n5 w2 (btr hb hb2) hf (f5.below hb2)
  have st2_6_7_10_18_ : ∀ (a55 : Option Addr) (m55 c55 : Nat) (w1 : World), Below w2.heap.size w2 w1 → Mine w2.heap.size w1 (.slice a55 m55 c55) (((b.take 512).drop 17).take ln) → T 5 #[true, true, true, false, true, true, true, true, true, true, true, false, true, true, true, true, true, true, true, false, false, false] (((((A.put (some 39) (.int .u64 V0)).put (some 43) (.int .u64 V1)).put (some 44) (.int .u32 V1)).put (some 47) (.int .u64 V2)).put (some 55) (.slice a55 m55 c55)) w1 := by
    intro a55 m55 c55 w1 hb f55
    refine HT _ _ _ _ [3, 11, 20] (by rw [HR]; kernel_rfl) (by decide) ?_
    refine List.forall_mem_cons.2 ⟨?_, List.forall_mem_cons.2 ⟨?_, List.forall_mem_cons.2 ⟨?_, fun _ h => by cases h⟩⟩⟩
    · refine M3 _ _ _ (by rw [eval_put _ 55 39 _ (by decide), eval_put _ 47 39 _ (by decide), eval_put _ 44 39 _ (by decide), eval_put _ 43 39 _ (by decide)]; exact eval_hit _ 39 _ (by first | (rw [hsz]; decide) | (simp only [put_size]; rw [hsz]; decide))) ⟨fun _ => HSB.out w1 hb, ?_⟩
      rw [show (#[true, true, true, false, true, true, true, true, true, true, true, false, true, true, true, true, true, true, true, false, false, false] : Array Bool).setIfInBounds 3 true = #[true, true, true, true, true, true, true, true, true, true, true, false, true, true, true, true, true, true, true, false, false, false] from by kernel_rfl, put_swap _ 55 40 _ _ (by decide), put_swap _ 47 40 _ _ (by decide), put_swap _ 44 40 _ _ (by decide), put_swap _ 43 40 _ _ (by decide)]
      exact st2_3_6_7_10_18_ a55 m55 c55 w1 hb f55
    · refine M11 _ _ _ (by rw [eval_put _ 55 47 _ (by decide)]; exact eval_hit _ 47 _ (by first | (rw [hsz]; decide) | (simp only [put_size]; rw [hsz]; decide))) ⟨fun _ => HSB.out w1 hb, ?_⟩
      rw [show (#[true, true, true, false, true, true, true, true, true, true, true, false, true, true, true, true, true, true, true, false, false, false] : Array Bool).setIfInBounds 11 true = #[true, true, true, false, true, true, true, true, true, true, true, true, true, true, true, true, true, true, true, false, false, false] from by kernel_rfl, put_swap _ 55 48 _ _ (by decide)]
      exact st2_6_7_10_11_18_ a55 m55 c55 w1 hb f55
    · refine M20 _ _ _ hb  (fun n5 w2 hf hb2 => ⟨fun _ => HSB.out w2 (btr hb hb2), ?_⟩)
      rw [show (#[true, true, true, false, true, true, true, true, true, true, true, false, true, true, true, true, true, true, true, false, false, false] : Array Bool).setIfInBounds 20 true = #[true, true, true, false, true, true, true, true, true, true, true, false, true, true, true, true, true, true, true, false, true, false] from by kernel_rfl, put_swap _ 55 5 _ _ (by decide), put_swap _ 47 5 _ _ (by decide), put_swap _ 44 5 _ _ (by decide), put_swap _ 43 5 _ _ (by decide), put_swap _ 39 5 _ _ (by decide)]
      exact st2_6_7_10_18_20_ a55 m55 c55 n5 w2 (btr hb hb2) (f55.below hb2) hf
  have st2_6_10_18_20_ : ∀ (a55 : Option Addr) (m55 c55 : Nat) (n5 : Nat) (w1 : World), Below w2.heap.size w2 w1 → Mine w2.heap.size w1 (.slice a55 m55 c55) (((b.take 512).drop 17).take ln) → ZedR w1 n5 w2.heap.size → T 5 #[true, true, true, false, true, true, true, false, true, true, true, false, true, true, true, true, true, true, true, false, true, false] (((((A.put (some 5) (.pointer (some ⟨n5, 0, none⟩))).put (some 39) (.int .u64 V0)).put (some 43) (.int .u64 V1)).put (some 47) (.int .u64 V2)).put (some 55) (.slice a55 m55 c55)) w1 := by
    intro a55 m55 c55 n5 w1 hb f55 f5
    refine HT _ _ _ _ [3, 7, 11] (by rw [HR]; kernel_rfl) (by decide) ?_
    refine List.forall_mem_cons.2 ⟨?_, List.forall_mem_cons.2 ⟨?_, List.forall_mem_cons.2 ⟨?_, fun _ h => by cases h⟩⟩⟩
    · refine M3 _ _ _ (by rw [eval_put _ 55 39 _ (by decide), eval_put _ 47 39 _ (by decide), eval_put _ 43 39 _ (by decide)]; exact eval_hit _ 39 _ (by first | (rw [hsz]; decide) | (simp only [put_size]; rw [hsz]; decide))) ⟨fun _ => HSB.out w1 hb, ?_⟩
      rw [show (#[true, true, true, false, true, true, true, false, true, true, true, false, true, true, true, true, true, true, true, false, true, false] : Array Bool).setIfInBounds 3 true = #[true, true, true, true, true, true, true, false, true, true, true, false, true, true, true, true, true, true, true, false, true, false] from by kernel_rfl, put_swap _ 55 40 _ _ (by decide), put_swap _ 47 40 _ _ (by decide), put_swap _ 43 40 _ _ (by decide)]
      exact st2_3_6_10_18_20_ a55 m55 c55 n5 w1 hb f55 f5
    · refine M7 _ _ _ (by rw [eval_put _ 55 43 _ (by decide), eval_put _ 47 43 _ (by decide)]; exact eval_hit _ 43 _ (by first | (rw [hsz]; decide) | (simp only [put_size]; rw [hsz]; decide))) ⟨fun _ => HSB.out w1 hb, ?_⟩
      rw [show (#[true, true, true, false, true, true, true, false, true, true, true, false, true, true, true, true, true, true, true, false, true, false] : Array Bool).setIfInBounds 7 true = #[true, true, true, false, true, true, true, true, true, true, true, false, true, true, true, true, true, true, true, false, true, false] from by kernel_rfl, put_swap _ 55 44 _ _ (by decide), put_swap _ 47 44 _ _ (by decide)]
      exact st2_6_7_10_18_20_ a55 m55 c55 n5 w1 hb f55 f5
    · refine M11 _ _ _ (by rw [eval_put _ 55 47 _ (by decide)]; exact eval_hit _ 47 _ (by first | (rw [hsz]; decide) | (simp only [put_size]; rw [hsz]; decide))) ⟨fun _ => HSB.out w1 hb, ?_⟩
      rw [show (#[true, true, true, false, true, true, true, false, true, true, true, false, true, true, true, true, true, true, true, false, true, false] : Array Bool).setIfInBounds 11 true = #[true, true, true, false, true, true, true, false, true, true, true, true, true, true, true, true, true, true, true, false, true, false] from by kernel_rfl, put_swap _ 55 48 _ _ (by decide)]
      exact st2_6_10_11_18_20_ a55 m55 c55 n5 w1 hb f55 f5
  have st2_6_7_10_11_ : ∀  (w1 : World), Below w2.heap.size w2 w1 → T 5 #[true, true, true, false, true, true, true, true, true, true, true, true, true, true, true, true, true, true, false, false, false, false] (((((A.put (some 39) (.int .u64 V0)).put (some 43) (.int .u64 V1)).put (some 44) (.int .u32 V1)).put (some 47) (.int .u64 V2)).put (some 48) (.int .u32 V2)) w1 := by
    intro  w1 hb 
    refine HT _ _ _ _ [3, 18, 20] (by rw [HR]; kernel_rfl) (by decide) ?_
    refine List.forall_mem_cons.2 ⟨?_, List.forall_mem_cons.2 ⟨?_, List.forall_mem_cons.2 ⟨?_, fun _ h => by cases h⟩⟩⟩
    · refine M3 _ _ _ (by rw [eval_put _ 48 39 _ (by decide), eval_put _ 47 39 _ (by decide), eval_put _ 44 39 _ (by decide), eval_put _ 43 39 _ (by decide)]; exact eval_hit _ 39 _ (by first | (rw [hsz]; decide) | (simp only [put_size]; rw [hsz]; decide))) ⟨fun _ => HSB.out w1 hb, ?_⟩
      rw [show (#[true, true, true, false, true, true, true, true, true, true, true, true, true, true, true, true, true, true, false, false, false, false] : Array Bool).setIfInBounds 3 true = #[true, true, true, true, true, true, true, true, true, true, true, true, true, true, true, true, true, true, false, false, false, false] from by kernel_rfl, put_swap _ 48 40 _ _ (by decide), put_swap _ 47 40 _ _ (by decide), put_swap _ 44 40 _ _ (by decide), put_swap _ 43 40 _ _ (by decide)]
      exact st2_3_6_7_10_11_  w1 hb 
    · refine M18 _ _ _ hb (by rw [eval_put _ 48 53 _ (by decide), eval_put _ 47 53 _ (by decide), eval_put _ 44 53 _ (by decide), eval_put _ 43 53 _ (by decide), eval_put _ 39 53 _ (by decide)]; exact E53) (by rw [eval_put _ 48 54 _ (by decide), eval_put _ 47 54 _ (by decide), eval_put _ 44 54 _ (by decide), eval_put _ 43 54 _ (by decide), eval_put _ 39 54 _ (by decide)]; exact E54) (fun a55 m55 c55 w2 hf hb2 => ⟨fun _ => HSB.out w2 (btr hb hb2), ?_⟩)
      rw [show (#[true, true, true, false, true, true, true, true, true, true, true, true, true, true, true, true, true, true, false, false, false, false] : Array Bool).setIfInBounds 18 true = #[true, true, true, false, true, true, true, true, true, true, true, true, true, true, true, true, true, true, true, false, false, false] from by kernel_rfl]
      exact st2_6_7_10_11_18_ a55 m55 c55 w2 (btr hb hb2) hf
    · refine M20 _ _ _ hb  (fun n5 w2 hf hb2 => ⟨fun _ => HSB.out w2 (btr hb hb2), ?_⟩)
      rw [show (#[true, true, true, false, true, true, true, true, true, true, true, true, true, true, true, true, true, true, false, false, false, false] : Array Bool).setIfInBounds 20 true = #[true, true, true, false, true, true, true, true, true, true, true, true, true, true, true, true, true, true, false, false, true, false] from by kernel_rfl, put_swap _ 48 5 _ _ (by decide), put_swap _ 47 5 _ _ (by decide), put_swap _ 44 5 _ _ (by decide), put_swap _ 43 5 _ _ (by decide), put_swap _ 39 5 _ _ (by decide)]
      exact st2_6_7_10_11_20_ n5 w2 (btr hb hb2) hf
  have st2_3_6_10_11_ : ∀  (w1 : World), Below w2.heap.size w2 w1 → T 5 #[true, true, true, true, true, true, true, false, true, true, true, true, true, true, true, true, true, true, false, false, false, false] (((((A.put (some 39) (.int .u64 V0)).put (some 40) (.int .u32 V0)).put (some 43) (.int .u64 V1)).put (some 47) (.int .u64 V2)).put (some 48) (.int .u32 V2)) w1 := by
    intro  w1 hb 
    refine HT _ _ _ _ [7, 18, 20] (by rw [HR]; kernel_rfl) (by decide) ?_
    refine List.forall_mem_cons.2 ⟨?_, List.forall_mem_cons.2 ⟨?_, List.forall_mem_cons.2 ⟨?_, fun _ h => by cases h⟩⟩⟩
    · refine M7 _ _ _ (by rw [eval_put _ 48 43 _ (by decide), eval_put _ 47 43 _ (by decide)]; exact eval_hit _ 43 _ (by first | (rw [hsz]; decide) | (simp only [put_size]; rw [hsz]; decide))) ⟨fun _ => HSB.out w1 hb, ?_⟩
      rw [show (#[true, true, true, true, true, true, true, false, true, true, true, true, true, true, true, true, true, true, false, false, false, false] : Array Bool).setIfInBounds 7 true = #[true, true, true, true, true, true, true, true, true, true, true, true, true, true, true, true, true, true, false, false, false, false] from by kernel_rfl, put_swap _ 48 44 _ _ (by decide), put_swap _ 47 44 _ _ (by decide)]
      exact st2_3_6_7_10_11_  w1 hb 
    · refine M18 _ _ _ hb (by rw [eval_put _ 48 53 _ (by decide), eval_put _ 47 53 _ (by decide), eval_put _ 43 53 _ (by decide), eval_put _ 40 53 _ (by decide), eval_put _ 39 53 _ (by decide)]; exact E53) (by rw [eval_put _ 48 54 _ (by decide), eval_put _ 47 54 _ (by decide), eval_put _ 43 54 _ (by decide), eval_put _ 40 54 _ (by decide), eval_put _ 39 54 _ (by decide)]; exact E54) (fun a55 m55 c55 w2 hf hb2 => ⟨fun _ => HSB.out w2 (btr hb hb2), ?_⟩)
      rw [show (#[true, true, true, true, true, true, true, false, true, true, true, true, true, true, true, true, true, true, false, false, false, false] : Array Bool).setIfInBounds 18 true = #[true, true, true, true, true, true, true, false, true, true, true, true, true, true, true, true, true, true, true, false, false, false] from by kernel_rfl]
      exact st2_3_6_10_11_18_ a55 m55 c55 w2 (btr hb hb2) hf
    · refine M20 _ _ _ hb  (fun n5 w2 hf hb2 => ⟨fun _ => HSB.out w2 (btr hb hb2), ?_⟩)
      rw [show (#[true, true, true, true, true, true, true, false, true, true, true, true, true, true, true, true, true, true, false, false, false, false] : Array Bool).setIfInBounds 20 true = #[true, true, true, true, true, true, true, false, true, true, true, true, true, true, true, true, true, true, false, false, true, false] from by kernel_rfl, put_swap _ 48 5 _ _ (by decide), put_swap _ 47 5 _ _ (by decide), put_swap _ 43 5 _ _ (by decide), put_swap _ 40 5 _ _ (by decide), put_swap _ 39 5 _ _ (by decide)]
      exact st2_3_6_10_11_20_ n5 w2 (btr hb hb2) hf
  have st2_3_6_7_10_ : ∀  (w1 : World), Below w2.heap.size w2 w1 → T 5 #[true, true, true, true, true, true, true, true, true, true, true, false, true, true, true, true, true, true, false, false, false, false] (((((A.put (some 39) (.int .u64 V0)).put (some 40) (.int .u32 V0)).put (some 43) (.int .u64 V1)).put (some 44) (.int .u32 V1)).put (some 47) (.int .u64 V2)) w1 := by
    intro  w1 hb 
    refine HT _ _ _ _ [11, 18, 20] (by rw [HR]; kernel_rfl) (by decide) ?_
    refine List.forall_mem_cons.2 ⟨?_, List.forall_mem_cons.2 ⟨?_, List.forall_mem_cons.2 ⟨?_, fun _ h => by cases h⟩⟩⟩
    · refine M11 _ _ _ (by exact eval_hit _ 47 _ (by first | (rw [hsz]; decide) | (simp only [put_size]; rw [hsz]; decide))) ⟨fun _ => HSB.out w1 hb, ?_⟩
      rw [show (#[true, true, true, true, true, true, true, true, true, true, true, false, true, true, true, true, true, true, false, false, false, false] : Array Bool).setIfInBounds 11 true = #[true, true, true, true, true, true, true, true, true, true, true, true, true, true, true, true, true, true, false, false, false, false] from by kernel_rfl]
      exact st2_3_6_7_10_11_  w1 hb 
    · refine M18 _ _ _ hb (by rw [eval_put _ 47 53 _ (by decide), eval_put _ 44 53 _ (by decide), eval_put _ 43 53 _ (by decide), eval_put _ 40 53 _ (by decide), eval_put _ 39 53 _ (by decide)]; exact E53) (by rw [eval_put _ 47 54 _ (by decide), eval_put _ 44 54 _ (by decide), eval_put _ 43 54 _ (by decide), eval_put _ 40 54 _ (by decide), eval_put _ 39 54 _ (by decide)]; exact E54) (fun a55 m55 c55 w2 hf hb2 => ⟨fun _ => HSB.out w2 (btr hb hb2), ?_⟩)
      rw [show (#[true, true, true, true, true, true, true, true, true, true, true, false, true, true, true, true, true, true, false, false, false, false] : Array Bool).setIfInBounds 18 true = #[true, true, true, true, true, true, true, true, true, true, true, false, true, true, true, true, true, true, true, false, false, false] from by kernel_rfl]
      exact st2_3_6_7_10_18_ a55 m55 c55 w2 (btr hb hb2) hf
    · refine M20 _ _ _ hb  (fun n5 w2 hf hb2 => ⟨fun _ => HSB.out w2 (btr hb hb2), ?_⟩)
      rw [show (#[true, true, true, true, true, true, true, true, true, true, true, false, true, true, true, true, true, true, false, false, false, false] : Array Bool).setIfInBounds 20 true = #[true, true, true, true, true, true, true, true, true, true, true, false, true, true, true, true, true, true, false, false, true, false] from by kernel_rfl, put_swap _ 47 5 _ _ (by decide), put_swap _ 44 5 _ _ (by decide), put_swap _ 43 5 _ _ (by decide), put_swap _ 40 5 _ _ (by decide), put_swap _ 39 5 _ _ (by decide)]
      exact st2_3_6_7_10_20_ n5 w2 (btr hb hb2) hf
  have st2_6_10_11_20_ : ∀ (n5 : Nat) (w1 : World), Below w2.heap.size w2 w1 → ZedR w1 n5 w2.heap.size → T 5 #[true, true, true, false, true, true, true, false, true, true, true, true, true, true, true, true, true, true, false, false, true, false] (((((A.put (some 5) (.pointer (some ⟨n5, 0, none⟩))).put (some 39) (.int .u64 V0)).put (some 43) (.int .u64 V1)).put (some 47) (.int .u64 V2)).put (some 48) (.int .u32 V2)) w1 := by
    intro n5 w1 hb f5
    refine HT _ _ _ _ [3, 7, 18] (by rw [HR]; kernel_rfl) (by decide) ?_
    refine List.forall_mem_cons.2 ⟨?_, List.forall_mem_cons.2 ⟨?_, List.forall_mem_cons.2 ⟨?_, fun _ h => by cases h⟩⟩⟩
    · refine M3 _ _ _ (by rw [eval_put _ 48 39 _ (by decide), eval_put _ 47 39 _ (by decide), eval_put _ 43 39 _ (by decide)]; exact eval_hit _ 39 _ (by first | (rw [hsz]; decide) | (simp only [put_size]; rw [hsz]; decide))) ⟨fun _ => HSB.out w1 hb, ?_⟩
      rw [show (#[true, true, true, false, true, true, true, false, true, true, true, true, true, true, true, true, true, true, false, false, true, false] : Array Bool).setIfInBounds 3 true = #[true, true, true, true, true, true, true, false, true, true, true, true, true, true, true, true, true, true, false, false, true, false] from by kernel_rfl, put_swap _ 48 40 _ _ (by decide), put_swap _ 47 40 _ _ (by decide), put_swap _ 43 40 _ _ (by decide)]
      exact st2_3_6_10_11_20_ n5 w1 hb f5
    · refine M7 _ _ _ (by rw [eval_put _ 48 43 _ (by decide), eval_put _ 47 43 _ (by decide)]; exact eval_hit _ 43 _ (by first | (rw [hsz]; decide) | (simp only [put_size]; rw [hsz]; decide))) ⟨fun _ => HSB.out w1 hb, ?_⟩
      rw [show (#[true, true, true, false, true, true, true, false, true, true, true, true, true, true, true, true, true, true, false, false, true, false] : Array Bool).setIfInBounds 7 true = #[true, true, true, false, true, true, true, true, true, true, true, true, true, true, true, true, true, true, false, false, true, false] from by kernel_rfl, put_swap _ 48 44 _ _ (by decide), put_swap _ 47 44 _ _ (by decide)]
      exact st2_6_7_10_11_20_ n5 w1 hb f5
    · refine M18 _ _ _ hb (by rw [eval_put _ 48 53 _ (by decide), eval_put _ 47 53 _ (by decide), eval_put _ 43 53 _ (by decide), eval_put _ 39 53 _ (by decide), eval_put _ 5 53 _ (by decide)]; exact E53) (by rw [eval_put _ 48 54 _ (by decide), eval_put _ 47 54 _ (by decide), eval_put _ 43 54 _ (by decide), eval_put _ 39 54 _ (by decide), eval_put _ 5 54 _ (by decide)]; exact E54) (fun a55 m55 c55 w2 hf hb2 => ⟨fun _ => HSB.out w2 (btr hb hb2), ?_⟩)
      rw [show (#[true, true, true, false, true, true, true, false, true, true, true, true, true, true, true, true, true, true, false, false, true, false] : Array Bool).setIfInBounds 18 true = #[true, true, true, false, true, true, true, false, true, true, true, true, true, true, true, true, true, true, true, false, true, false] from by kernel_rfl]
      exact st2_6_10_11_18_20_ a55 m55 c55 n5 w2 (btr hb hb2) hf (f5.below hb2)
  have st2_6_10_11_18_ : ∀ (a55 : Option Addr) (m55 c55 : Nat) (w1 : World), Below w2.heap.size w2 w1 → Mine w2.heap.size w1 (.slice a55 m55 c55) (((b.take 512).drop 17).take ln) → T 5 #[true, true, true, false, true, true, true, false, true, true, true, true, true, true, true, true, true, true, true, false, false, false] (((((A.put (some 39) (.int .u64 V0)).put (some 43) (.int .u64 V1)).put (some 47) (.int .u64 V2)).put (some 48) (.int .u32 V2)).put (some 55) (.slice a55 m55 c55)) w1 := by
    intro a55 m55 c55 w1 hb f55
    refine HT _ _ _ _ [3, 7, 20] (by rw [HR]; kernel_rfl) (by decide) ?_
    refine List.forall_mem_cons.2 ⟨?_, List.forall_mem_cons.2 ⟨?_, List.forall_mem_cons.2 ⟨?_, fun _ h => by cases h⟩⟩⟩
    · refine M3 _ _ _ (by rw [eval_put _ 55 39 _ (by decide), eval_put _ 48 39 _ (by decide), eval_put _ 47 39 _ (by decide), eval_put _ 43 39 _ (by decide)]; exact eval_hit _ 39 _ (by first | (rw [hsz]; decide) | (simp only [put_size]; rw [hsz]; decide))) ⟨fun _ => HSB.out w1 hb, ?_⟩
      rw [show (#[true, true, true, false, true, true, true, false, true, true, true, true, true, true, true, true, true, true, true, false, false, false] : Array Bool).setIfInBounds 3 true = #[true, true, true, true, true, true, true, false, true, true, true, true, true, true, true, true, true, true, true, false, false, false] from by kernel_rfl, put_swap _ 55 40 _ _ (by decide), put_swap _ 48 40 _ _ (by decide), put_swap _ 47 40 _ _ (by decide), put_swap _ 43 40 _ _ (by decide)]
      exact st2_3_6_10_11_18_ a55 m55 c55 w1 hb f55
    · refine M7 _ _ _ (by rw [eval_put _ 55 43 _ (by decide), eval_put _ 48 43 _ (by decide), eval_put _ 47 43 _ (by decide)]; exact eval_hit _ 43 _ (by first | (rw [hsz]; decide) | (simp only [put_size]; rw [hsz]; decide))) ⟨fun _ => HSB.out w1 hb, ?_⟩
      rw [show (#[true, true, true, false, true, true, true, false, true, true, true, true, true, true, true, true, true, true, true, false, false, false] : Array Bool).setIfInBounds 7 true = #[true, true, true, false, true, true, true, true, true, true, true, true, true, true, true, true, true, true, true, false, false, false] from by kernel_rfl, put_swap _ 55 44 _ _ (by decide), put_swap _ 48 44 _ _ (by decide), put_swap _ 47 44 _ _ (by decide)]
      exact st2_6_7_10_11_18_ a55 m55 c55 w1 hb f55
    · refine M20 _ _ _ hb  (fun n5 w2 hf hb2 => ⟨fun _ => HSB.out w2 (btr hb hb2), ?_⟩)
      rw [show (#[true, true, true, false, true, true, true, false, true, true, true, true, true, true, true, true, true, true, true, false, false, false] : Array Bool).setIfInBounds 20 true = #[true, true, true, false, true, true, true, false, true, true, true, true, true, true, true, true, true, true, true, false, true, false] from by kernel_rfl, put_swap _ 55 5 _ _ (by decide), put_swap _ 48 5 _ _ (by decide), put_swap _ 47 5 _ _ (by decide), put_swap _ 43 5 _ _ (by decide), put_swap _ 39 5 _ _ (by decide)]
      exact st2_6_10_11_18_20_ a55 m55 c55 n5 w2 (btr hb hb2) (f55.below hb2) hf
  have st2_3_6_10_20_ : ∀ (n5 : Nat) (w1 : World), Below w2.heap.size w2 w1 → ZedR w1 n5 w2.heap.size → T 5 #[true, true, true, true, true, true, true, false, true, true, true, false, true, true, true, true, true, true, false, false, true, false] (((((A.put (some 5) (.pointer (some ⟨n5, 0, none⟩))).put (some 39) (.int .u64 V0)).put (some 40) (.int .u32 V0)).put (some 43) (.int .u64 V1)).put (some 47) (.int .u64 V2)) w1 := by
    intro n5 w1 hb f5
    refine HT _ _ _ _ [7, 11, 18] (by rw [HR]; kernel_rfl) (by decide) ?_
    refine List.forall_mem_cons.2 ⟨?_, List.forall_mem_cons.2 ⟨?_, List.forall_mem_cons.2 ⟨?_, fun _ h => by cases h⟩⟩⟩
    · refine M7 _ _ _ (by rw [eval_put _ 47 43 _ (by decide)]; exact eval_hit _ 43 _ (by first | (rw [hsz]; decide) | (simp only [put_size]; rw [hsz]; decide))) ⟨fun _ => HSB.out w1 hb, ?_⟩
      rw [show (#[true, true, true, true, true, true, true, false, true, true, true, false, true, true, true, true, true, true, false, false, true, false] : Array Bool).setIfInBounds 7 true = #[true, true, true, true, true, true, true, true, true, true, true, false, true, true, true, true, true, true, false, false, true, false] from by kernel_rfl, put_swap _ 47 44 _ _ (by decide)]
      exact st2_3_6_7_10_20_ n5 w1 hb f5
    · refine M11 _ _ _ (by exact eval_hit _ 47 _ (by first | (rw [hsz]; decide) | (simp only [put_size]; rw [hsz]; decide))) ⟨fun _ => HSB.out w1 hb, ?_⟩
      rw [show (#[true, true, true, true, true, true, true, false, true, true, true, false, true, true, true, true, true, true, false, false, true, false] : Array Bool).setIfInBounds 11 true = #[true, true, true, true, true, true, true, false, true, true, true, true, true, true, true, true, true, true, false, false, true, false] from by kernel_rfl]
      exact st2_3_6_10_11_20_ n5 w1 hb f5
    · refine M18 _ _ _ hb (by rw [eval_put _ 47 53 _ (by decide), eval_put _ 43 53 _ (by decide), eval_put _ 40 53 _ (by decide), eval_put _ 39 53 _ (by decide), eval_put _ 5 53 _ (by decide)]; exact E53) (by rw [eval_put _ 47 54 _ (by decide), eval_put _ 43 54 _ (by decide), eval_put _ 40 54 _ (by decide), eval_put _ 39 54 _ (by decide), eval_put _ 5 54 _ (by decide)]; exact E54) (fun a55 m55 c55 w2 hf hb2 => ⟨fun _ => HSB.out w2 (btr hb hb2), ?_⟩)
      rw [show (#[true, true, true, true, true, true, true, false, true, true, true, false, true, true, true, true, true, true, false, false, true, false] : Array Bool).setIfInBounds 18 true = #[true, true, true, true, true, true, true, false, true, true, true, false, true, true, true, true, true, true, true, false, true, false] from by kernel_rfl]
      exact st2_3_6_10_18_20_ a55 m55 c55 n5 w2 (btr hb hb2) hf (f5.below hb2)
  have st2_3_6_7_20_ : ∀ (n5 : Nat) (w1 : World), Below w2.heap.size w2 w1 → ZedR w1 n5 w2.heap.size → T 5 #[true, true, true, true, true, true, true, true, true, true, false, false, true, true, true, true, true, true, false, false, true, false] (((((A.put (some 5) (.pointer (some ⟨n5, 0, none⟩))).put (some 39) (.int .u64 V0)).put (some 40) (.int .u32 V0)).put (some 43) (.int .u64 V1)).put (some 44) (.int .u32 V1)) w1 := by
    intro n5 w1 hb f5
    refine HT _ _ _ _ [10] (by rw [HR]; kernel_rfl) (by decide) ?_
    refine List.forall_mem_cons.2 ⟨?_, fun _ h => by cases h⟩
    · refine M10 _ _ _ hb (by rw [eval_put _ 44 46 _ (by decide), eval_put _ 43 46 _ (by decide), eval_put _ 40 46 _ (by decide), eval_put _ 39 46 _ (by decide), eval_put _ 5 46 _ (by decide)]; exact E46) ⟨fun _ => HSB.out w1 hb, ?_⟩
      rw [show (#[true, true, true, true, true, true, true, true, true, true, false, false, true, true, true, true, true, true, false, false, true, false] : Array Bool).setIfInBounds 10 true = #[true, true, true, true, true, true, true, true, true, true, true, false, true, true, true, true, true, true, false, false, true, false] from by kernel_rfl]
      exact st2_3_6_7_10_20_ n5 w1 hb f5
  have st2_6_7_20_ : ∀ (n5 : Nat) (w1 : World), Below w2.heap.size w2 w1 → ZedR w1 n5 w2.heap.size → T 6 #[true, true, true, false, true, true, true, true, true, true, false, false, true, true, true, true, true, true, false, false, true, false] ((((A.put (some 5) (.pointer (some ⟨n5, 0, none⟩))).put (some 39) (.int .u64 V0)).put (some 43) (.int .u64 V1)).put (some 44) (.int .u32 V1)) w1 := by
    intro n5 w1 hb f5
    refine HT _ _ _ _ [3, 10] (by rw [HR]; kernel_rfl) (by decide) ?_
    refine List.forall_mem_cons.2 ⟨?_, List.forall_mem_cons.2 ⟨?_, fun _ h => by cases h⟩⟩
    · refine M3 _ _ _ (by rw [eval_put _ 44 39 _ (by decide), eval_put _ 43 39 _ (by decide)]; exact eval_hit _ 39 _ (by first | (rw [hsz]; decide) | (simp only [put_size]; rw [hsz]; decide))) ⟨fun _ => HSB.out w1 hb, ?_⟩
      rw [show (#[true, true, true, false, true, true, true, true, true, true, false, false, true, true, true, true, true, true, false, false, true, false] : Array Bool).setIfInBounds 3 true = #[true, true, true, true, true, true, true, true, true, true, false, false, true, true, true, true, true, true, false, false, true, false] from by kernel_rfl, put_swap _ 44 40 _ _ (by decide), put_swap _ 43 40 _ _ (by decide)]
      exact st2_3_6_7_20_ n5 w1 hb f5
    · refine M10 _ _ _ hb (by rw [eval_put _ 44 46 _ (by decide), eval_put _ 43 46 _ (by decide), eval_put _ 39 46 _ (by decide), eval_put _ 5 46 _ (by decide)]; exact E46) ⟨fun _ => HSB.out w1 hb, ?_⟩
      rw [show (#[true, true, true, false, true, true, true, true, true, true, false, false, true, true, true, true, true, true, false, false, true, false] : Array Bool).setIfInBounds 10 true = #[true, true, true, false, true, true, true, true, true, true, true, false, true, true, true, true, true, true, false, false, true, false] from by kernel_rfl]
      exact st2_6_7_10_20_ n5 w1 hb f5
  have st2_6_7_10_ : ∀  (w1 : World), Below w2.heap.size w2 w1 → T 6 #[true, true, true, false, true, true, true, true, true, true, true, false, true, true, true, true, true, true, false, false, false, false] ((((A.put (some 39) (.int .u64 V0)).put (some 43) (.int .u64 V1)).put (some 44) (.int .u32 V1)).put (some 47) (.int .u64 V2)) w1 := by
    intro  w1 hb 
    refine HT _ _ _ _ [3, 11, 18, 20] (by rw [HR]; kernel_rfl) (by decide) ?_
    refine List.forall_mem_cons.2 ⟨?_, List.forall_mem_cons.2 ⟨?_, List.forall_mem_cons.2 ⟨?_, List.forall_mem_cons.2 ⟨?_, fun _ h => by cases h⟩⟩⟩⟩
    · refine M3 _ _ _ (by rw [eval_put _ 47 39 _ (by decide), eval_put _ 44 39 _ (by decide), eval_put _ 43 39 _ (by decide)]; exact eval_hit _ 39 _ (by first | (rw [hsz]; decide) | (simp only [put_size]; rw [hsz]; decide))) ⟨fun _ => HSB.out w1 hb, ?_⟩
      rw [show (#[true, true, true, false, true, true, true, true, true, true, true, false, true, true, true, true, true, true, false, false, false, false] : Array Bool).setIfInBounds 3 true = #[true, true, true, true, true, true, true, true, true, true, true, false, true, true, true, true, true, true, false, false, false, false] from by kernel_rfl, put_swap _ 47 40 _ _ (by decide), put_swap _ 44 40 _ _ (by decide), put_swap _ 43 40 _ _ (by decide)]
      exact st2_3_6_7_10_  w1 hb 
    · refine M11 _ _ _ (by exact eval_hit _ 47 _ (by first | (rw [hsz]; decide) | (simp only [put_size]; rw [hsz]; decide))) ⟨fun _ => HSB.out w1 hb, ?_⟩
      rw [show (#[true, true, true, false, true, true, true, true, true, true, true, false, true, true, true, true, true, true, false, false, false, false] : Array Bool).setIfInBounds 11 true = #[true, true, true, false, true, true, true, true, true, true, true, true, true, true, true, true, true, true, false, false, false, false] from by kernel_rfl]
      exact st2_6_7_10_11_  w1 hb 
    · refine M18 _ _ _ hb (by rw [eval_put _ 47 53 _ (by decide), eval_put _ 44 53 _ (by decide), eval_put _ 43 53 _ (by decide), eval_put _ 39 53 _ (by decide)]; exact E53) (by rw [eval_put _ 47 54 _ (by decide), eval_put _ 44 54 _ (by decide), eval_put _ 43 54 _ (by decide), eval_put _ 39 54 _ (by decide)]; exact E54) (fun a55 m55 c55 w2 hf hb2 => ⟨fun _ => HSB.out w2 (btr hb hb2), ?_⟩)
      rw [show (#[true, true, true, false, true, true, true, true, true, true, true, false, true, true, true, true, true, true, false, false, false, false] : Array Bool).setIfInBounds 18 true = #[true, true, true, false, true, true, true, true, true, true, true, false, true, true, true, true, true, true, true, false, false, false] from by kernel_rfl]
      exact st2_6_7_10_18_ a55 m55 c55 w2 (btr hb hb2) hf
    · refine M20 _ _ _ hb  (fun n5 w2 hf hb2 => ⟨fun _ => HSB.out w2 (btr hb hb2), ?_⟩)
      rw [show (#[true, true, true, false, true, true, true, true, true, true, true, false, true, true, true, true, true, true, false, false, false, false] : Array Bool).setIfInBounds 20 true = #[true, true, true, false, true, true, true, true, true, true, true, false, true, true, true, true, true, true, false, false, true, false] from by kernel_rfl, put_swap _ 47 5 _ _ (by decide), put_swap _ 44 5 _ _ (by decide), put_swap _ 43 5 _ _ (by decide), put_swap _ 39 5 _ _ (by decide)]
      exact st2_6_7_10_20_ n5 w2 (btr hb hb2) hf
  have st2_6_10_18_ : ∀ (a55 : Option Addr) (m55 c55 : Nat) (w1 : World), Below w2.heap.size w2 w1 → Mine w2.heap.size w1 (.slice a55 m55 c55) (((b.take 512).drop 17).take ln) → T 6 #[true, true, true, false, true, true, true, false, true, true, true, false, true, true, true, true, true, true, true, false, false, false] ((((A.put (some 39) (.int .u64 V0)).put (some 43) (.int .u64 V1)).put (some 47) (.int .u64 V2)).put (some 55) (.slice a55 m55 c55)) w1 := by
    intro a55 m55 c55 w1 hb f55
    refine HT _ _ _ _ [3, 7, 11, 20] (by rw [HR]; kernel_rfl) (by decide) ?_
    refine List.forall_mem_cons.2 ⟨?_, List.forall_mem_cons.2 ⟨?_, List.forall_mem_cons.2 ⟨?_, List.forall_mem_cons.2 ⟨?_, fun _ h => by cases h⟩⟩⟩⟩
    · refine M3 _ _ _ (by rw [eval_put _ 55 39 _ (by decide), eval_put _ 47 39 _ (by decide), eval_put _ 43 39 _ (by decide)]; exact eval_hit _ 39 _ (by first | (rw [hsz]; decide) | (simp only [put_size]; rw [hsz]; decide))) ⟨fun _ => HSB.out w1 hb, ?_⟩
      rw [show (#[true, true, true, false, true, true, true, false, true, true, true, false, true, true, true, true, true, true, true, false, false, false] : Array Bool).setIfInBounds 3 true = #[true, true, true, true, true, true, true, false, true, true, true, false, true, true, true, true, true, true, true, false, false, false] from by kernel_rfl, put_swap _ 55 40 _ _ (by decide), put_swap _ 47 40 _ _ (by decide), put_swap _ 43 40 _ _ (by decide)]
      exact st2_3_6_10_18_ a55 m55 c55 w1 hb f55
    · refine M7 _ _ _ (by rw [eval_put _ 55 43 _ (by decide), eval_put _ 47 43 _ (by decide)]; exact eval_hit _ 43 _ (by first | (rw [hsz]; decide) | (simp only [put_size]; rw [hsz]; decide))) ⟨fun _ => HSB.out w1 hb, ?_⟩
      rw [show (#[true, true, true, false, true, true, true, false, true, true, true, false, true, true, true, true, true, true, true, false, false, false] : Array Bool).setIfInBounds 7 true = #[true, true, true, false, true, true, true, true, true, true, true, false, true, true, true, true, true, true, true, false, false, false] from by kernel_rfl, put_swap _ 55 44 _ _ (by decide), put_swap _ 47 44 _ _ (by decide)]
      exact st2_6_7_10_18_ a55 m55 c55 w1 hb f55
    · refine M11 _ _ _ (by rw [eval_put _ 55 47 _ (by decide)]; exact eval_hit _ 47 _ (by first | (rw [hsz]; decide) | (simp only [put_size]; rw [hsz]; decide))) ⟨fun _ => HSB.out w1 hb, ?_⟩
      rw [show (#[true, true, true, false, true, true, true, false, true, true, true, false, true, true, true, true, true, true, true, false, false, false] : Array Bool).setIfInBounds 11 true = #[true, true, true, false, true, true, true, false, true, true, true, true, true, true, true, true, true, true, true, false, false, false] from by kernel_rfl, put_swap _ 55 48 _ _ (by decide)]
      exact st2_6_10_11_18_ a55 m55 c55 w1 hb f55
    · refine M20 _ _ _ hb  (fun n5 w2 hf hb2 => ⟨fun _ => HSB.out w2 (btr hb hb2), ?_⟩)
      rw [show (#[true, true, true, false, true, true, true, false, true, true, true, false, true, true, true, true, true, true, true, false, false, false] : Array Bool).setIfInBounds 20 true = #[true, true, true, false, true, true, true, false, true, true, true, false, true, true, true, true, true, true, true, false, true, false] from by kernel_rfl, put_swap _ 55 5 _ _ (by decide), put_swap _ 47 5 _ _ (by decide), put_swap _ 43 5 _ _ (by decide), put_swap _ 39 5 _ _ (by decide)]
      exact st2_6_10_18_20_ a55 m55 c55 n5 w2 (btr hb hb2) (f55.below hb2) hf
  have st2_6_10_11_ : ∀  (w1 : World), Below w2.heap.size w2 w1 → T 6 #[true, true, true, false, true, true, true, false, true, true, true, true, true, true, true, true, true, true, false, false, false, false] ((((A.put (some 39) (.int .u64 V0)).put (some 43) (.int .u64 V1)).put (some 47) (.int .u64 V2)).put (some 48) (.int .u32 V2)) w1 := by
    intro  w1 hb 
    refine HT _ _ _ _ [3, 7, 18, 20] (by rw [HR]; kernel_rfl) (by decide) ?_
    refine List.forall_mem_cons.2 ⟨?_, List.forall_mem_cons.2 ⟨?_, List.forall_mem_cons.2 ⟨?_, List.forall_mem_cons.2 ⟨?_, fun _ h => by cases h⟩⟩⟩⟩
    · refine M3 _ _ _ (by rw [eval_put _ 48 39 _ (by decide), eval_put _ 47 39 _ (by decide), eval_put _ 43 39 _ (by decide)]; exact eval_hit _ 39 _ (by first | (rw [hsz]; decide) | (simp only [put_size]; rw [hsz]; decide))) ⟨fun _ => HSB.out w1 hb, ?_⟩
      rw [show (#[true, true, true, false, true, true, true, false, true, true, true, true, true, true, true, true, true, true, false, false, false, false] : Array Bool).setIfInBounds 3 true = #[true, true, true, true, true, true, true, false, true, true, true, true, true, true, true, true, true, true, false, false, false, false] from by kernel_rfl, put_swap _ 48 40 _ _ (by decide), put_swap _ 47 40 _ _ (by decide), put_swap _ 43 40 _ _ (by decide)]
      exact st2_3_6_10_11_  w1 hb 
    · refine M7 _ _ _ (by rw [eval_put _ 48 43 _ (by decide), eval_put _ 47 43 _ (by decide)]; exact eval_hit _ 43 _ (by first | (rw [hsz]; decide) | (simp only [put_size]; rw [hsz]; decide))) ⟨fun _ => HSB.out w1 hb, ?_⟩
      rw [show (#[true, true, true, false, true, true, true, false, true, true, true, true, true, true, true, true, true, true, false, false, false, false] : Array Bool).setIfInBounds 7 true = #[true, true, true, false, true, true, true, true, true, true, true, true, true, true, true, true, true, true, false, false, false, false] from by kernel_rfl, put_swap _ 48 44 _ _ (by decide), put_swap _ 47 44 _ _ (by decide)]
      exact st2_6_7_10_11_  w1 hb 
    · refine M18 _ _ _ hb (by rw [eval_put _ 48 53 _ (by decide), eval_put _ 47 53 _ (by decide), eval_put _ 43 53 _ (by decide), eval_put _ 39 53 _ (by decide)]; exact E53) (by rw [eval_put _ 48 54 _ (by decide), eval_put _ 47 54 _ (by decide), eval_put _ 43 54 _ (by decide), eval_put _ 39 54 _ (by decide)]; exact E54) (fun a55 m55 c55 w2 hf hb2 => ⟨fun _ => HSB.out w2 (btr hb hb2), ?_⟩)
      rw [show (#[true, true, true, false, true, true, true, false, true, true, true, true, true, true, true, true, true, true, false, false, false, false] : Array Bool).setIfInBounds 18 true = #[true, true, true, false, true, true, true, false, true, true, true, true, true, true, true, true, true, true, true, false, false, false] from by kernel_rfl]
      exact st2_6_10_11_18_ a55 m55 c55 w2 (btr hb hb2) hf
    · refine M20 _ _ _ hb  (fun n5 w2 hf hb2 => ⟨fun _ => HSB.out w2 (btr hb hb2), ?_⟩)
      rw [show (#[true, true, true, false, true, true, true, false, true, true, true, true, true, true, true, true, true, true, false, false, false, false] : Array Bool).setIfInBounds 20 true = #[true, true, true, false, true, true, true, false, true, true, true, true, true, true, true, true, true, true, false, false, true, false] from by kernel_rfl, put_swap _ 48 5 _ _ (by decide), put_swap _ 47 5 _ _ (by decide), put_swap _ 43 5 _ _ (by decide), put_swap _ 39 5 _ _ (by decide)]
      exact st2_6_10_11_20_ n5 w2 (btr hb hb2) hf
  have st2_3_6_10_ : ∀  (w1 : World), Below w2.heap.size w2 w1 → T 6 #[true, true, true, true, true, true, true, false, true, true, true, false, true, true, true, true, true, true, false, false, false, false] ((((A.put (some 39) (.int .u64 V0)).put (some 40) (.int .u32 V0)).put (some 43) (.int .u64 V1)).put (some 47) (.int .u64 V2)) w1 := by
    intro  w1 hb 
    refine HT _ _ _ _ [7, 11, 18, 20] (by rw [HR]; kernel_rfl) (by decide) ?_
    refine List.forall_mem_cons.2 ⟨?_, List.forall_mem_cons.2 ⟨?_, List.forall_mem_cons.2 ⟨?_, List.forall_mem_cons.2 ⟨?_, fun _ h => by cases h⟩⟩⟩⟩
    · refine M7 _ _ _ (by rw [eval_put _ 47 43 _ (by decide)]; exact eval_hit _ 43 _ (by first | (rw [hsz]; decide) | (simp only [put_size]; rw [hsz]; decide))) ⟨fun _ => HSB.out w1 hb, ?_⟩
      rw [show (#[true, true, true, true, true, true, true, false, true, true, true, false, true, true, true, true, true, true, false, false, false, false] : Array Bool).setIfInBounds 7 true = #[true, true, true, true, true, true, true, true, true, true, true, false, true, true, true, true, true, true, false, false, false, false] from by kernel_rfl, put_swap _ 47 44 _ _ (by decide)]
      exact st2_3_6_7_10_  w1 hb 
    · refine M11 _ _ _ (by exact eval_hit _ 47 _ (by first | (rw [hsz]; decide) | (simp only [put_size]; rw [hsz]; decide))) ⟨fun _ => HSB.out w1 hb, ?_⟩
      rw [show (#[true, true, true, true, true, true, true, false, true, true, true, false, true, true, true, true, true, true, false, false, false, false] : Array Bool).setIfInBounds 11 true = #[true, true, true, true, true, true, true, false, true, true, true, true, true, true, true, true, true, true, false, false, false, false] from by kernel_rfl]
      exact st2_3_6_10_11_  w1 hb 
    · refine M18 _ _ _ hb (by rw [eval_put _ 47 53 _ (by decide), eval_put _ 43 53 _ (by decide), eval_put _ 40 53 _ (by decide), eval_put _ 39 53 _ (by decide)]; exact E53) (by rw [eval_put _ 47 54 _ (by decide), eval_put _ 43 54 _ (by decide), eval_put _ 40 54 _ (by decide), eval_put _ 39 54 _ (by decide)]; exact E54) (fun a55 m55 c55 w2 hf hb2 => ⟨fun _ => HSB.out w2 (btr hb hb2), ?_⟩)
      rw [show (#[true, true, true, true, true, true, true, false, true, true, true, false, true, true, true, true, true, true, false, false, false, false] : Array Bool).setIfInBounds 18 true = #[true, true, true, true, true, true, true, false, true, true, true, false, true, true, true, true, true, true, true, false, false, false] from by kernel_rfl]
      exact st2_3_6_10_18_ a55 m55 c55 w2 (btr hb hb2) hf
    · refine M20 _ _ _ hb  (fun n5 w2 hf hb2 => ⟨fun _ => HSB.out w2 (btr hb hb2), ?_⟩)
      rw [show (#[true, true, true, true, true, true, true, false, true, true, true, false, true, true, true, true, true, true, false, false, false, false] : Array Bool).setIfInBounds 20 true = #[true, true, true, true, true, true, true, false, true, true, true, false, true, true, true, true, true, true, false, false, true, false] from by kernel_rfl, put_swap _ 47 5 _ _ (by decide), put_swap _ 43 5 _ _ (by decide), put_swap _ 40 5 _ _ (by decide), put_swap _ 39 5 _ _ (by decide)]
      exact st2_3_6_10_20_ n5 w2 (btr hb hb2) hf
  have st2_3_6_20_ : ∀ (n5 : Nat) (w1 : World), Below w2.heap.size w2 w1 → ZedR w1 n5 w2.heap.size → T 6 #[true, true, true, true, true, true, true, false, true, true, false, false, true, true, true, true, true, true, false, false, true, false] ((((A.put (some 5) (.pointer (some ⟨n5, 0, none⟩))).put (some 39) (.int .u64 V0)).put (some 40) (.int .u32 V0)).put (some 43) (.int .u64 V1)) w1 := by
    intro n5 w1 hb f5
    refine HT _ _ _ _ [7, 10] (by rw [HR]; kernel_rfl) (by decide) ?_
    refine List.forall_mem_cons.2 ⟨?_, List.forall_mem_cons.2 ⟨?_, fun _ h => by cases h⟩⟩
    · refine M7 _ _ _ (by exact eval_hit _ 43 _ (by first | (rw [hsz]; decide) | (simp only [put_size]; rw [hsz]; decide))) ⟨fun _ => HSB.out w1 hb, ?_⟩
      rw [show (#[true, true, true, true, true, true, true, false, true, true, false, false, true, true, true, true, true, true, false, false, true, false] : Array Bool).setIfInBounds 7 true = #[true, true, true, true, true, true, true, true, true, true, false, false, true, true, true, true, true, true, false, false, true, false] from by kernel_rfl]
      exact st2_3_6_7_20_ n5 w1 hb f5
    · refine M10 _ _ _ hb (by rw [eval_put _ 43 46 _ (by decide), eval_put _ 40 46 _ (by decide), eval_put _ 39 46 _ (by decide), eval_put _ 5 46 _ (by decide)]; exact E46) ⟨fun _ => HSB.out w1 hb, ?_⟩
      rw [show (#[true, true, true, true, true, true, true, false, true, true, false, false, true, true, true, true, true, true, false, false, true, false] : Array Bool).setIfInBounds 10 true = #[true, true, true, true, true, true, true, false, true, true, true, false, true, true, true, true, true, true, false, false, true, false] from by kernel_rfl]
      exact st2_3_6_10_20_ n5 w1 hb f5
  have st2_3_6_7_ : ∀  (w1 : World), Below w2.heap.size w2 w1 → T 6 #[true, true, true, true, true, true, true, true, true, true, false, false, true, true, true, true, true, true, false, false, false, false] ((((A.put (some 39) (.int .u64 V0)).put (some 40) (.int .u32 V0)).put (some 43) (.int .u64 V1)).put (some 44) (.int .u32 V1)) w1 := by
    intro  w1 hb 
    refine HT _ _ _ _ [10, 20] (by rw [HR]; kernel_rfl) (by decide) ?_
    refine List.forall_mem_cons.2 ⟨?_, List.forall_mem_cons.2 ⟨?_, fun _ h => by cases h⟩⟩
    · refine M10 _ _ _ hb (by rw [eval_put _ 44 46 _ (by decide), eval_put _ 43 46 _ (by decide), eval_put _ 40 46 _ (by decide), eval_put _ 39 46 _ (by decide)]; exact E46) ⟨fun _ => HSB.out w1 hb, ?_⟩
      rw [show (#[true, true, true, true, true, true, true, true, true, true, false, false, true, true, true, true, true, true, false, false, false, false] : Array Bool).setIfInBounds 10 true = #[true, true, true, true, true, true, true, true, true, true, true, false, true, true, true, true, true, true, false, false, false, false] from by kernel_rfl]
      exact st2_3_6_7_10_  w1 hb 
    · refine M20 _ _ _ hb  (fun n5 w2 hf hb2 => ⟨fun _ => HSB.out w2 (btr hb hb2), ?_⟩)
      rw [show (#[true, true, true, true, true, true, true, true, true, true, false, false, true, true, true, true, true, true, false, false, false, false] : Array Bool).setIfInBounds 20 true = #[true, true, true, true, true, true, true, true, true, true, false, false, true, true, true, true, true, true, false, false, true, false] from by kernel_rfl, put_swap _ 44 5 _ _ (by decide), put_swap _ 43 5 _ _ (by decide), put_swap _ 40 5 _ _ (by decide), put_swap _ 39 5 _ _ (by decide)]
      exact st2_3_6_7_20_ n5 w2 (btr hb hb2) hf
  have st2_6_10_20_ : ∀ (n5 : Nat) (w1 : World), Below w2.heap.size w2 w1 → ZedR w1 n5 w2.heap.size → T 6 #[true, true, true, false, true, true, true, false, true, true, true, false, true, true, true, true, true, true, false, false, true, false] ((((A.put (some 5) (.pointer (some ⟨n5, 0, none⟩))).put (some 39) (.int .u64 V0)).put (some 43) (.int .u64 V1)).put (some 47) (.int .u64 V2)) w1 := by
    intro n5 w1 hb f5
    refine HT _ _ _ _ [3, 7, 11, 18] (by rw [HR]; kernel_rfl) (by decide) ?_
    refine List.forall_mem_cons.2 ⟨?_, List.forall_mem_cons.2 ⟨?_, List.forall_mem_cons.2 ⟨?_, List.forall_mem_cons.2 ⟨?_, fun _ h => by cases h⟩⟩⟩⟩
    · refine M3 _ _ _ (by rw [eval_put _ 47 39 _ (by decide), eval_put _ 43 39 _ (by decide)]; exact eval_hit _ 39 _ (by first | (rw [hsz]; decide) | (simp only [put_size]; rw [hsz]; decide))) ⟨fun _ => HSB.out w1 hb, ?_⟩
      rw [show (#[true, true, true, false, true, true, true, false, true, true, true, false, true, true, true, true, true, true, false, false, true, false] : Array Bool).setIfInBounds 3 true = #[true, true, true, true, true, true, true, false, true, true, true, false, true, true, true, true, true, true, false, false, true, false] from by kernel_rfl, put_swap _ 47 40 _ _ (by decide), put_swap _ 43 40 _ _ (by decide)]
      exact st2_3_6_10_20_ n5 w1 hb f5
    · refine M7 _ _ _ (by rw [eval_put _ 47 43 _ (by decide)]; exact eval_hit _ 43 _ (by first | (rw [hsz]; decide) | (simp only [put_size]; rw [hsz]; decide))) ⟨fun _ => HSB.out w1 hb, ?_⟩
      rw [show (#[true, true, true, false, true, true, true, false, true, true, true, false, true, true, true, true, true, true, false, false, true, false] : Array Bool).setIfInBounds 7 true = #[true, true, true, false, true, true, true, true, true, true, true, false, true, true, true, true, true, true, false, false, true, false] from by kernel_rfl, put_swap _ 47 44 _ _ (by decide)]
      exact st2_6_7_10_20_ n5 w1 hb f5
    · refine M11 _ _ _ (by exact eval_hit _ 47 _ (by first | (rw [hsz]; decide) | (simp only [put_size]; rw [hsz]; decide))) ⟨fun _ => HSB.out w1 hb, ?_⟩
      rw [show (#[true, true, true, false, true, true, true, false, true, true, true, false, true, true, true, true, true, true, false, false, true, false] : Array Bool).setIfInBounds 11 true = #[true, true, true, false, true, true, true, false, true, true, true, true, true, true, true, true, true, true, false, false, true, false] from by kernel_rfl]
      exact st2_6_10_11_20_ n5 w1 hb f5
    · refine M18 _ _ _ hb (by rw [eval_put _ 47 53 _ (by decide), eval_put _ 43 53 _ (by decide), eval_put _ 39 53 _ (by decide), eval_put _ 5 53 _ (by decide)]; exact E53) (by rw [eval_put _ 47 54 _ (by decide), eval_put _ 43 54 _ (by decide), eval_put _ 39 54 _ (by decide), eval_put _ 5 54 _ (by decide)]; exact E54) (fun a55 m55 c55 w2 hf hb2 => ⟨fun _ => HSB.out w2 (btr hb hb2), ?_⟩)
      rw [show (#[true, true, true, false, true, true, true, false, true, true, true, false, true, true, true, true, true, true, false, false, true, false] : Array Bool).setIfInBounds 18 true = #[true, true, true, false, true, true, true, false, true, true, true, false, true, true, true, true, true, true, true, false, true, false] from by kernel_rfl]
      exact st2_6_10_18_20_ a55 m55 c55 n5 w2 (btr hb hb2) hf (f5.below hb2)
  have st2_3_20_ : ∀ (n5 : Nat) (w1 : World), Below w2.heap.size w2 w1 → ZedR w1 n5 w2.heap.size → T 7 #[true, true, true, true, true, true, false, false, true, true, false, false, true, true, true, true, true, true, false, false, true, false] (((A.put (some 5) (.pointer (some ⟨n5, 0, none⟩))).put (some 39) (.int .u64 V0)).put (some 40) (.int .u32 V0)) w1 := by
    intro n5 w1 hb f5
    refine HT _ _ _ _ [6] (by rw [HR]; kernel_rfl) (by decide) ?_
    refine List.forall_mem_cons.2 ⟨?_, fun _ h => by cases h⟩
    · refine M6 _ _ _ hb (by rw [eval_put _ 40 42 _ (by decide), eval_put _ 39 42 _ (by decide), eval_put _ 5 42 _ (by decide)]; exact E42) ⟨fun _ => HSB.out w1 hb, ?_⟩
      rw [show (#[true, true, true, true, true, true, false, false, true, true, false, false, true, true, true, true, true, true, false, false, true, false] : Array Bool).setIfInBounds 6 true = #[true, true, true, true, true, true, true, false, true, true, false, false, true, true, true, true, true, true, false, false, true, false] from by kernel_rfl]
      exact st2_3_6_20_ n5 w1 hb f5
  have st2_6_7_ : ∀  (w1 : World), Below w2.heap.size w2 w1 → T 7 #[true, true, true, false, true, true, true, true, true, true, false, false, true, true, true, true, true, true, false, false, false, false] (((A.put (some 39) (.int .u64 V0)).put (some 43) (.int .u64 V1)).put (some 44) (.int .u32 V1)) w1 := by
    intro  w1 hb 
    refine HT _ _ _ _ [3, 10, 20] (by rw [HR]; kernel_rfl) (by decide) ?_
    refine List.forall_mem_cons.2 ⟨?_, List.forall_mem_cons.2 ⟨?_, List.forall_mem_cons.2 ⟨?_, fun _ h => by cases h⟩⟩⟩
    · refine M3 _ _ _ (by rw [eval_put _ 44 39 _ (by decide), eval_put _ 43 39 _ (by decide)]; exact eval_hit _ 39 _ (by first | (rw [hsz]; decide) | (simp only [put_size]; rw [hsz]; decide))) ⟨fun _ => HSB.out w1 hb, ?_⟩
      rw [show (#[true, true, true, false, true, true, true, true, true, true, false, false, true, true, true, true, true, true, false, false, false, false] : Array Bool).setIfInBounds 3 true = #[true, true, true, true, true, true, true, true, true, true, false, false, true, true, true, true, true, true, false, false, false, false] from by kernel_rfl, put_swap _ 44 40 _ _ (by decide), put_swap _ 43 40 _ _ (by decide)]
      exact st2_3_6_7_  w1 hb 
    · refine M10 _ _ _ hb (by rw [eval_put _ 44 46 _ (by decide), eval_put _ 43 46 _ (by decide), eval_put _ 39 46 _ (by decide)]; exact E46) ⟨fun _ => HSB.out w1 hb, ?_⟩
      rw [show (#[true, true, true, false, true, true, true, true, true, true, false, false, true, true, true, true, true, true, false, false, false, false] : Array Bool).setIfInBounds 10 true = #[true, true, true, false, true, true, true, true, true, true, true, false, true, true, true, true, true, true, false, false, false, false] from by kernel_rfl]
      exact st2_6_7_10_  w1 hb 
    · refine M20 _ _ _ hb  (fun n5 w2 hf hb2 => ⟨fun _ => HSB.out w2 (btr hb hb2), ?_⟩)
      rw [show (#[true, true, true, false, true, true, true, true, true, true, false, false, true, true, true, true, true, true, false, false, false, false] : Array Bool).setIfInBounds 20 true = #[true, true, true, false, true, true, true, true, true, true, false, false, true, true, true, true, true, true, false, false, true, false] from by kernel_rfl, put_swap _ 44 5 _ _ (by decide), put_swap _ 43 5 _ _ (by decide), put_swap _ 39 5 _ _ (by decide)]
      exact st2_6_7_20_ n5 w2 (btr hb hb2) hf
  have st2_3_6_ : ∀  (w1 : World), Below w2.heap.size w2 w1 → T 7 #[true, true, true, true, true, true, true, false, true, true, false, false, true, true, true, true, true, true, false, false, false, false] (((A.put (some 39) (.int .u64 V0)).put (some 40) (.int .u32 V0)).put (some 43) (.int .u64 V1)) w1 := by
    intro  w1 hb 
    refine HT _ _ _ _ [7, 10, 20] (by rw [HR]; kernel_rfl) (by decide) ?_
    refine List.forall_mem_cons.2 ⟨?_, List.forall_mem_cons.2 ⟨?_, List.forall_mem_cons.2 ⟨?_, fun _ h => by cases h⟩⟩⟩
    · refine M7 _ _ _ (by exact eval_hit _ 43 _ (by first | (rw [hsz]; decide) | (simp only [put_size]; rw [hsz]; decide))) ⟨fun _ => HSB.out w1 hb, ?_⟩
      rw [show (#[true, true, true, true, true, true, true, false, true, true, false, false, true, true, true, true, true, true, false, false, false, false] : Array Bool).setIfInBounds 7 true = #[true, true, true, true, true, true, true, true, true, true, false, false, true, true, true, true, true, true, false, false, false, false] from by kernel_rfl]
      exact st2_3_6_7_  w1 hb 
    · refine M10 _ _ _ hb (by rw [eval_put _ 43 46 _ (by decide), eval_put _ 40 46 _ (by decide), eval_put _ 39 46 _ (by decide)]; exact E46) ⟨fun _ => HSB.out w1 hb, ?_⟩
      rw [show (#[true, true, true, true, true, true, true, false, true, true, false, false, true, true, true, true, true, true, false, false, false, false] : Array Bool).setIfInBounds 10 true = #[true, true, true, true, true, true, true, false, true, true, true, false, true, true, true, true, true, true, false, false, false, false] from by kernel_rfl]
      exact st2_3_6_10_  w1 hb 
    · refine M20 _ _ _ hb  (fun n5 w2 hf hb2 => ⟨fun _ => HSB.out w2 (btr hb hb2), ?_⟩)
      rw [show (#[true, true, true, true, true, true, true, false, true, true, false, false, true, true, true, true, true, true, false, false, false, false] : Array Bool).setIfInBounds 20 true = #[true, true, true, true, true, true, true, false, true, true, false, false, true, true, true, true, true, true, false, false, true, false] from by kernel_rfl, put_swap _ 43 5 _ _ (by decide), put_swap _ 40 5 _ _ (by decide), put_swap _ 39 5 _ _ (by decide)]
      exact st2_3_6_20_ n5 w2 (btr hb hb2) hf
  have st2_6_20_ : ∀ (n5 : Nat) (w1 : World), Below w2.heap.size w2 w1 → ZedR w1 n5 w2.heap.size → T 7 #[true, true, true, false, true, true, true, false, true, true, false, false, true, true, true, true, true, true, false, false, true, false] (((A.put (some 5) (.pointer (some ⟨n5, 0, none⟩))).put (some 39) (.int .u64 V0)).put (some 43) (.int .u64 V1)) w1 := by
    intro n5 w1 hb f5
    refine HT _ _ _ _ [3, 7, 10] (by rw [HR]; kernel_rfl) (by decide) ?_
    refine List.forall_mem_cons.2 ⟨?_, List.forall_mem_cons.2 ⟨?_, List.forall_mem_cons.2 ⟨?_, fun _ h => by cases h⟩⟩⟩
    · refine M3 _ _ _ (by rw [eval_put _ 43 39 _ (by decide)]; exact eval_hit _ 39 _ (by first | (rw [hsz]; decide) | (simp only [put_size]; rw [hsz]; decide))) ⟨fun _ => HSB.out w1 hb, ?_⟩
      rw [show (#[true, true, true, false, true, true, true, false, true, true, false, false, true, true, true, true, true, true, false, false, true, false] : Array Bool).setIfInBounds 3 true = #[true, true, true, true, true, true, true, false, true, true, false, false, true, true, true, true, true, true, false, false, true, false] from by kernel_rfl, put_swap _ 43 40 _ _ (by decide)]
      exact st2_3_6_20_ n5 w1 hb f5
    · refine M7 _ _ _ (by exact eval_hit _ 43 _ (by first | (rw [hsz]; decide) | (simp only [put_size]; rw [hsz]; decide))) ⟨fun _ => HSB.out w1 hb, ?_⟩
      rw [show (#[true, true, true, false, true, true, true, false, true, true, false, false, true, true, true, true, true, true, false, false, true, false] : Array Bool).setIfInBounds 7 true = #[true, true, true, false, true, true, true, true, true, true, false, false, true, true, true, true, true, true, false, false, true, false] from by kernel_rfl]
      exact st2_6_7_20_ n5 w1 hb f5
    · refine M10 _ _ _ hb (by rw [eval_put _ 43 46 _ (by decide), eval_put _ 39 46 _ (by decide), eval_put _ 5 46 _ (by decide)]; exact E46) ⟨fun _ => HSB.out w1 hb, ?_⟩
      rw [show (#[true, true, true, false, true, true, true, false, true, true, false, false, true, true, true, true, true, true, false, false, true, false] : Array Bool).setIfInBounds 10 true = #[true, true, true, false, true, true, true, false, true, true, true, false, true, true, true, true, true, true, false, false, true, false] from by kernel_rfl]
      exact st2_6_10_20_ n5 w1 hb f5
  have st2_6_10_ : ∀  (w1 : World), Below w2.heap.size w2 w1 → T 7 #[true, true, true, false, true, true, true, false, true, true, true, false, true, true, true, true, true, true, false, false, false, false] (((A.put (some 39) (.int .u64 V0)).put (some 43) (.int .u64 V1)).put (some 47) (.int .u64 V2)) w1 := by
    intro  w1 hb 
    refine HT _ _ _ _ [3, 7, 11, 18, 20] (by rw [HR]; kernel_rfl) (by decide) ?_
    refine List.forall_mem_cons.2 ⟨?_, List.forall_mem_cons.2 ⟨?_, List.forall_mem_cons.2 ⟨?_, List.forall_mem_cons.2 ⟨?_, List.forall_mem_cons.2 ⟨?_, fun _ h => by cases h⟩⟩⟩⟩⟩
    · refine M3 _ _ _ (by rw [eval_put _ 47 39 _ (by decide), eval_put _ 43 39 _ (by decide)]; exact eval_hit _ 39 _ (by first | (rw [hsz]; decide) | (simp only [put_size]; rw [hsz]; decide))) ⟨fun _ => HSB.out w1 hb, ?_⟩
      rw [show (#[true, true, true, false, true, true, true, false, true, true, true, false, true, true, true, true, true, true, false, false, false, false] : Array Bool).setIfInBounds 3 true = #[true, true, true, true, true, true, true, false, true, true, true, false, true, true, true, true, true, true, false, false, false, false] from by kernel_rfl, put_swap _ 47 40 _ _ (by decide), put_swap _ 43 40 _ _ (by decide)]
      exact st2_3_6_10_  w1 hb 
    · refine M7 _ _ _ (by rw [eval_put _ 47 43 _ (by decide)]; exact eval_hit _ 43 _ (by first | (rw [hsz]; decide) | (simp only [put_size]; rw [hsz]; decide))) ⟨fun _ => HSB.out w1 hb, ?_⟩
      rw [show (#[true, true, true, false, true, true, true, false, true, true, true, false, true, true, true, true, true, true, false, false, false, false] : Array Bool).setIfInBounds 7 true = #[true, true, true, false, true, true, true, true, true, true, true, false, true, true, true, true, true, true, false, false, false, false] from by kernel_rfl, put_swap _ 47 44 _ _ (by decide)]
      exact st2_6_7_10_  w1 hb 
    · refine M11 _ _ _ (by exact eval_hit _ 47 _ (by first | (rw [hsz]; decide) | (simp only [put_size]; rw [hsz]; decide))) ⟨fun _ => HSB.out w1 hb, ?_⟩
      rw [show (#[true, true, true, false, true, true, true, false, true, true, true, false, true, true, true, true, true, true, false, false, false, false] : Array Bool).setIfInBounds 11 true = #[true, true, true, false, true, true, true, false, true, true, true, true, true, true, true, true, true, true, false, false, false, false] from by kernel_rfl]
      exact st2_6_10_11_  w1 hb 
    · refine M18 _ _ _ hb (by rw [eval_put _ 47 53 _ (by decide), eval_put _ 43 53 _ (by decide), eval_put _ 39 53 _ (by decide)]; exact E53) (by rw [eval_put _ 47 54 _ (by decide), eval_put _ 43 54 _ (by decide), eval_put _ 39 54 _ (by decide)]; exact E54) (fun a55 m55 c55 w2 hf hb2 => ⟨fun _ => HSB.out w2 (btr hb hb2), ?_⟩)
      rw [show (#[true, true, true, false, true, true, true, false, true, true, true, false, true, true, true, true, true, true, false, false, false, false] : Array Bool).setIfInBounds 18 true = #[true, true, true, false, true, true, true, false, true, true, true, false, true, true, true, true, true, true, true, false, false, false] from by kernel_rfl]
      exact st2_6_10_18_ a55 m55 c55 w2 (btr hb hb2) hf
    · refine M20 _ _ _ hb  (fun n5 w2 hf hb2 => ⟨fun _ => HSB.out w2 (btr hb hb2), ?_⟩)
      rw [show (#[true, true, true, false, true, true, true, false, true, true, true, false, true, true, true, true, true, true, false, false, false, false] : Array Bool).setIfInBounds 20 true = #[true, true, true, false, true, true, true, false, true, true, true, false, true, true, true, true, true, true, false, false, true, false] from by kernel_rfl, put_swap _ 47 5 _ _ (by decide), put_swap _ 43 5 _ _ (by decide), put_swap _ 39 5 _ _ (by decide)]
      exact st2_6_10_20_ n5 w2 (btr hb hb2) hf
  have st2_3_ : ∀  (w1 : World), Below w2.heap.size w2 w1 → T 8 #[true, true, true, true, true, true, false, false, true, true, false, false, true, true, true, true, true, true, false, false, false, false] ((A.put (some 39) (.int .u64 V0)).put (some 40) (.int .u32 V0)) w1 := by
    intro  w1 hb 
    refine HT _ _ _ _ [6, 20] (by rw [HR]; kernel_rfl) (by decide) ?_
    refine List.forall_mem_cons.2 ⟨?_, List.forall_mem_cons.2 ⟨?_, fun _ h => by cases h⟩⟩
    · refine M6 _ _ _ hb (by rw [eval_put _ 40 42 _ (by decide), eval_put _ 39 42 _ (by decide)]; exact E42) ⟨fun _ => HSB.out w1 hb, ?_⟩
      rw [show (#[true, true, true, true, true, true, false, false, true, true, false, false, true, true, true, true, true, true, false, false, false, false] : Array Bool).setIfInBounds 6 true = #[true, true, true, true, true, true, true, false, true, true, false, false, true, true, true, true, true, true, false, false, false, false] from by kernel_rfl]
      exact st2_3_6_  w1 hb 
    · refine M20 _ _ _ hb  (fun n5 w2 hf hb2 => ⟨fun _ => HSB.out w2 (btr hb hb2), ?_⟩)
      rw [show (#[true, true, true, true, true, true, false, false, true, true, false, false, true, true, true, true, true, true, false, false, false, false] : Array Bool).setIfInBounds 20 true = #[true, true, true, true, true, true, false, false, true, true, false, false, true, true, true, true, true, true, false, false, true, false] from by kernel_rfl, put_swap _ 40 5 _ _ (by decide), put_swap _ 39 5 _ _ (by decide)]
      exact st2_3_20_ n5 w2 (btr hb hb2) hf
  have st2_6_ : ∀  (w1 : World), Below w2.heap.size w2 w1 → T 8 #[true, true, true, false, true, true, true, false, true, true, false, false, true, true, true, true, true, true, false, false, false, false] ((A.put (some 39) (.int .u64 V0)).put (some 43) (.int .u64 V1)) w1 := by
    intro  w1 hb 
    refine HT _ _ _ _ [3, 7, 10, 20] (by rw [HR]; kernel_rfl) (by decide) ?_
    refine List.forall_mem_cons.2 ⟨?_, List.forall_mem_cons.2 ⟨?_, List.forall_mem_cons.2 ⟨?_, List.forall_mem_cons.2 ⟨?_, fun _ h => by cases h⟩⟩⟩⟩
    · refine M3 _ _ _ (by rw [eval_put _ 43 39 _ (by decide)]; exact eval_hit _ 39 _ (by first | (rw [hsz]; decide) | (simp only [put_size]; rw [hsz]; decide))) ⟨fun _ => HSB.out w1 hb, ?_⟩
      rw [show (#[true, true, true, false, true, true, true, false, true, true, false, false, true, true, true, true, true, true, false, false, false, false] : Array Bool).setIfInBounds 3 true = #[true, true, true, true, true, true, true, false, true, true, false, false, true, true, true, true, true, true, false, false, false, false] from by kernel_rfl, put_swap _ 43 40 _ _ (by decide)]
      exact st2_3_6_  w1 hb 
    · refine M7 _ _ _ (by exact eval_hit _ 43 _ (by first | (rw [hsz]; decide) | (simp only [put_size]; rw [hsz]; decide))) ⟨fun _ => HSB.out w1 hb, ?_⟩
      rw [show (#[true, true, true, false, true, true, true, false, true, true, false, false, true, true, true, true, true, true, false, false, false, false] : Array Bool).setIfInBounds 7 true = #[true, true, true, false, true, true, true, true, true, true, false, false, true, true, true, true, true, true, false, false, false, false] from by kernel_rfl]
      exact st2_6_7_  w1 hb 
    · refine M10 _ _ _ hb (by rw [eval_put _ 43 46 _ (by decide), eval_put _ 39 46 _ (by decide)]; exact E46) ⟨fun _ => HSB.out w1 hb, ?_⟩
      rw [show (#[true, true, true, false, true, true, true, false, true, true, false, false, true, true, true, true, true, true, false, false, false, false] : Array Bool).setIfInBounds 10 true = #[true, true, true, false, true, true, true, false, true, true, true, false, true, true, true, true, true, true, false, false, false, false] from by kernel_rfl]
      exact st2_6_10_  w1 hb 
    · refine M20 _ _ _ hb  (fun n5 w2 hf hb2 => ⟨fun _ => HSB.out w2 (btr hb hb2), ?_⟩)
      rw [show (#[true, true, true, false, true, true, true, false, true, true, false, false, true, true, true, true, true, true, false, false, false, false] : Array Bool).setIfInBounds 20 true = #[true, true, true, false, true, true, true, false, true, true, false, false, true, true, true, true, true, true, false, false, true, false] from by kernel_rfl, put_swap _ 43 5 _ _ (by decide), put_swap _ 39 5 _ _ (by decide)]
      exact st2_6_20_ n5 w2 (btr hb hb2) hf
  have st2_20_ : ∀ (n5 : Nat) (w1 : World), Below w2.heap.size w2 w1 → ZedR w1 n5 w2.heap.size → T 8 #[true, true, true, false, true, true, false, false, true, true, false, false, true, true, true, true, true, true, false, false, true, false] ((A.put (some 5) (.pointer (some ⟨n5, 0, none⟩))).put (some 39) (.int .u64 V0)) w1 := by
    intro n5 w1 hb f5
    refine HT _ _ _ _ [3, 6] (by rw [HR]; kernel_rfl) (by decide) ?_
    refine List.forall_mem_cons.2 ⟨?_, List.forall_mem_cons.2 ⟨?_, fun _ h => by cases h⟩⟩
    · refine M3 _ _ _ (by exact eval_hit _ 39 _ (by first | (rw [hsz]; decide) | (simp only [put_size]; rw [hsz]; decide))) ⟨fun _ => HSB.out w1 hb, ?_⟩
      rw [show (#[true, true, true, false, true, true, false, false, true, true, false, false, true, true, true, true, true, true, false, false, true, false] : Array Bool).setIfInBounds 3 true = #[true, true, true, true, true, true, false, false, true, true, false, false, true, true, true, true, true, true, false, false, true, false] from by kernel_rfl]
      exact st2_3_20_ n5 w1 hb f5
    · refine M6 _ _ _ hb (by rw [eval_put _ 39 42 _ (by decide), eval_put _ 5 42 _ (by decide)]; exact E42) ⟨fun _ => HSB.out w1 hb, ?_⟩
      rw [show (#[true, true, true, false, true, true, false, false, true, true, false, false, true, true, true, true, true, true, false, false, true, false] : Array Bool).setIfInBounds 6 true = #[true, true, true, false, true, true, true, false, true, true, false, false, true, true, true, true, true, true, false, false, true, false] from by kernel_rfl]
      exact st2_6_20_ n5 w1 hb f5
  have st2_ : ∀  (w1 : World), Below w2.heap.size w2 w1 → T 9 #[true, true, true, false, true, true, false, false, true, true, false, false, true, true, true, true, true, true, false, false, false, false] (A.put (some 39) (.int .u64 V0)) w1 := by
    intro  w1 hb 
    refine HT _ _ _ _ [3, 6, 20] (by rw [HR]; kernel_rfl) (by decide) ?_
    refine List.forall_mem_cons.2 ⟨?_, List.forall_mem_cons.2 ⟨?_, List.forall_mem_cons.2 ⟨?_, fun _ h => by cases h⟩⟩⟩
    · refine M3 _ _ _ (by exact eval_hit _ 39 _ (by first | (rw [hsz]; decide) | (simp only [put_size]; rw [hsz]; decide))) ⟨fun _ => HSB.out w1 hb, ?_⟩
      rw [show (#[true, true, true, false, true, true, false, false, true, true, false, false, true, true, true, true, true, true, false, false, false, false] : Array Bool).setIfInBounds 3 true = #[true, true, true, true, true, true, false, false, true, true, false, false, true, true, true, true, true, true, false, false, false, false] from by kernel_rfl]
      exact st2_3_  w1 hb 
    · refine M6 _ _ _ hb (by rw [eval_put _ 39 42 _ (by decide)]; exact E42) ⟨fun _ => HSB.out w1 hb, ?_⟩
      rw [show (#[true, true, true, false, true, true, false, false, true, true, false, false, true, true, true, true, true, true, false, false, false, false] : Array Bool).setIfInBounds 6 true = #[true, true, true, false, true, true, true, false, true, true, false, false, true, true, true, true, true, true, false, false, false, false] from by kernel_rfl]
      exact st2_6_  w1 hb 
    · refine M20 _ _ _ hb  (fun n5 w2 hf hb2 => ⟨fun _ => HSB.out w2 (btr hb hb2), ?_⟩)
      rw [show (#[true, true, true, false, true, true, false, false, true, true, false, false, true, true, true, true, true, true, false, false, false, false] : Array Bool).setIfInBounds 20 true = #[true, true, true, false, true, true, false, false, true, true, false, false, true, true, true, true, true, true, false, false, true, false] from by kernel_rfl, put_swap _ 39 5 _ _ (by decide)]
      exact st2_20_ n5 w2 (btr hb hb2) hf
  have st20_ : ∀ (n5 : Nat) (w1 : World), Below w2.heap.size w2 w1 → ZedR w1 n5 w2.heap.size → T 9 #[true, true, false, false, true, true, false, false, true, true, false, false, true, true, true, true, true, true, false, false, true, false] (A.put (some 5) (.pointer (some ⟨n5, 0, none⟩))) w1 := by
    intro n5 w1 hb f5
    refine HT _ _ _ _ [2] (by rw [HR]; kernel_rfl) (by decide) ?_
    refine List.forall_mem_cons.2 ⟨?_, fun _ h => by cases h⟩
    · refine M2 _ _ _ hb (by rw [eval_put _ 5 38 _ (by decide)]; exact E38) ⟨fun _ => HSB.out w1 hb, ?_⟩
      rw [show (#[true, true, false, false, true, true, false, false, true, true, false, false, true, true, true, true, true, true, false, false, true, false] : Array Bool).setIfInBounds 2 true = #[true, true, true, false, true, true, false, false, true, true, false, false, true, true, true, true, true, true, false, false, true, false] from by kernel_rfl]
      exact st2_20_ n5 w1 hb f5
  have st : ∀  (w1 : World), Below w2.heap.size w2 w1 → T 10 #[true, true, false, false, true, true, false, false, true, true, false, false, true, true, true, true, true, true, false, false, false, false] A w1 := by
    intro  w1 hb 
    refine HT _ _ _ _ [2, 20] (by rw [HR]; kernel_rfl) (by decide) ?_
    refine List.forall_mem_cons.2 ⟨?_, List.forall_mem_cons.2 ⟨?_, fun _ h => by cases h⟩⟩
    · refine M2 _ _ _ hb (by exact E38) ⟨fun _ => HSB.out w1 hb, ?_⟩
      rw [show (#[true, true, false, false, true, true, false, false, true, true, false, false, true, true, true, true, true, true, false, false, false, false] : Array Bool).setIfInBounds 2 true = #[true, true, true, false, true, true, false, false, true, true, false, false, true, true, true, true, true, true, false, false, false, false] from by kernel_rfl]
      exact st2_  w1 hb 
    · refine M20 _ _ _ hb  (fun n5 w2 hf hb2 => ⟨fun _ => HSB.out w2 (btr hb hb2), ?_⟩)
      rw [show (#[true, true, false, false, true, true, false, false, true, true, false, false, true, true, true, true, true, true, false, false, false, false] : Array Bool).setIfInBounds 20 true = #[true, true, false, false, true, true, false, false, true, true, false, false, true, true, true, true, true, true, false, false, true, false] from by kernel_rfl]
      exact st20_ n5 w2 (btr hb hb2) hf
  exact st _ (bdr (bre w2))

/-- whatever the bytes, the reference's Parse answers parseOf too -/
theorem rparse_any (v : Value) (b : List UInt8) (w : World) (hv : Bytes w v b) :
    Calls Tryd.prog 57 #[v] w (ParsePost w (parseOf b).1 (parseOf b).2) := by
  by_cases hl : b.length = 512
  · exact rparse_long v b w hv hl
  · rw [parseOf_arg b hl]; exact rparse_arg v b w hv hl
end Go.Proofs.YtacfkhnajdneeaaDoor
