/- PageForms, the walk. -/
import Derived.Test.YtbdjjjnajkeceaaDoorFormsP
import Derived.Deep.CutBlock
namespace Go.Proofs.YtbdjjjnajkeceaaDoor
open Go.RowKit

theorem fullOf_slice (p : List UInt8) : (fullOf p).length = 512 := fullOf_length p

theorem xor_u8 (x y : Nat) (hx : x < 256) (hy : y < 256) : bits .xor .u8 (x : Int) (y : Int) = ((x ^^^ y : Nat) : Int) := u8_xor_nat x y hx hy

theorem xor_B8 (x : UInt8) (y : Nat) (hy : y < 256) : B8 (x ^^^ UInt8.ofNat y) = .int .u8 (((x.toNat ^^^ y : Nat)) : Int) := by
  unfold B8
  rw [UInt8.toNat_xor, UInt8.toNat_ofNat_of_lt' hy]

set_option maxRecDepth 10000 in
theorem full_step (t s : Nat) (v : Value) (l : List UInt8) (o : Oper) (a : Act) (w1 : World) (K : Act → World → Prop) (Q : Exit → Act → World → Prop) (hv : Bytes w1 v l) (ho : o.op = .call { callee := .value (.func 14), args := #[.tmp t], argTypes := #[23] }) (hd : o.dst = some s)
    (he : a.eval (.tmp t) = v) (hK : ∀ ad c w2, Bytes w2 (.slice ad 512 c) (fullOf l) → Below w1.heap.size w1 w2 → K (a.put (some s) (.slice ad 512 c)) w2) : o.wp Tryd.prog a w1 K Q := by
  have hrun : (execOp a.eval o).run Tryd.prog w1 = .ok (.enter 14 #[v]) w1 := by
    unfold execOp
    simp only [ho, resolve, invoke, Sem.run_bind, List.map_toArray, List.map_cons, List.map_nil, he]
    rfl
  unfold Oper.wp
  rw [hrun, Oper.upon_enter]
  refine (full_any v l w1 hv).mono ?_
  rintro e w2 ⟨v2, rfl, ho2, hb2⟩
  obtain ⟨a2, c2, rfl, -⟩ := id ho2.bytes
  have hy := ho2.bytes
  rw [fullOf_length] at hy ⊢
  rw [hd]
  exact hK a2 c2 w2 hy hb2

set_option maxRecDepth 10000 in
theorem cutc_step (t s m : Nat) (hm : m ≤ 1000000) (v : Value) (l : List UInt8) (o : Oper) (a : Act) (w1 : World) (K : Act → World → Prop) (Q : Exit → Act → World → Prop) (hv : Bytes w1 v l) (ho : o.op = .call { callee := .value (.func 17), args := #[.tmp t, .const (.int .i64 m)], argTypes := #[23, 3] }) (hd : o.dst = some s)
    (he : a.eval (.tmp t) = v) (hK : ∀ ad n c w2, Bytes w2 (.slice ad n c) (l.take m) → Below w1.heap.size w1 w2 → K (a.put (some s) (.slice ad n c)) w2) : o.wp Tryd.prog a w1 K Q := by
  have hrun : (execOp a.eval o).run Tryd.prog w1 = .ok (.enter 17 #[v, .int .i64 m]) w1 := by
    unfold execOp
    simp only [ho, resolve, invoke, Sem.run_bind, List.map_toArray, List.map_cons, List.map_nil, he]
    rfl
  unfold Oper.wp
  rw [hrun, Oper.upon_enter]
  refine (cut_any v l m (by omega) (by omega) w1 hv).mono ?_
  rintro e w2 ⟨v2, rfl, ho2, hb2⟩
  rw [Int.toNat_natCast] at ho2
  obtain ⟨a2, n2, c2, rfl⟩ := ho2.isSlice
  rw [hd]
  exact hK a2 n2 c2 w2 ho2.bytes hb2

/-- five cells of the reference's page -/
def RowR (w : World) (n : Nat) (p : Pg) (v : Value) : Prop := w.heap[n]? = some (.cells #[.int .u32 p.gen, .int .u32 p.serial, .int .u32 p.number, .int .u8 p.kind, v] 34 (0, 0))
theorem RowR.below {w w' : World} {n : Nat} {p : Pg} {v : Value} (h : RowR w n p v) (hb : Below w.heap.size w w') : RowR w' n p v := (hb.block n (Array.getElem?_eq_some_iff.1 h).1).trans h
theorem RowR.c0 {w : World} {n : Nat} {p : Pg} {v : Value} (h : RowR w n p v) : w.cell? ⟨n, 0, none⟩ = some (.int .u32 p.gen) := cell_of_row w n 0 _ _ _ h
theorem RowR.c1 {w : World} {n : Nat} {p : Pg} {v : Value} (h : RowR w n p v) : w.cell? ⟨n, 1, none⟩ = some (.int .u32 p.serial) := cell_of_row w n 1 _ _ _ h
theorem RowR.c2 {w : World} {n : Nat} {p : Pg} {v : Value} (h : RowR w n p v) : w.cell? ⟨n, 2, none⟩ = some (.int .u32 p.number) := cell_of_row w n 2 _ _ _ h
theorem RowR.c3 {w : World} {n : Nat} {p : Pg} {v : Value} (h : RowR w n p v) : w.cell? ⟨n, 3, none⟩ = some (.int .u8 p.kind) := cell_of_row w n 3 _ _ _ h
theorem RowR.c4 {w : World} {n : Nat} {p : Pg} {v : Value} (h : RowR w n p v) : w.cell? ⟨n, 4, none⟩ = some v := cell_of_row w n 4 _ _ _ h

set_option linter.unusedSimpArgs false in
set_option maxRecDepth 60000 in
set_option maxHeartbeats 6400000 in
theorem pageForms_calls (va vr : Value) (a : Pg) (oa : a.Ok) (raw : List UInt8) (at' turn : Nat) (mend : Bool) (hat : at' < 65536) (htu : turn < 256) (w : World) (ha : Bytes w va a.data) (hra : Bytes w vr raw) :
    Calls Tryd.prog 3 #[PgVal a va, vr, .int .u16 at', .int .u8 turn, .bool mend] w fun e w' => e = .returned (.bool true) ∧ Below w.heap.size w w' := by
  have OA := Lib.hid (oa.cut 520)
  clear oa
  have HA := Lib.hid ha
  have HRA := Lib.hid hra
  obtain ⟨ar, cr, rfl, -, -, -, -⟩ := id hra
  obtain ⟨lr, hlr⟩ : ∃ l, l = raw.length := ⟨_, rfl⟩
  rw [← hlr] at HRA ⊢
  clear hra hlr
  unfold PgVal
  obtain ⟨aa, ca, rfl, -, -, -, -⟩ := id ha
  clear ha
  obtain ⟨la, hla⟩ : ∃ l, l = a.data.length := ⟨_, rfl⟩
  rw [← hla] at HA ⊢
  clear hla
  go_enter Tryd.func3, Tryd.ntmps3
  go_wp2_with fail
  have hr1 := heap_alloc_new w (.cells #[.int .u32 a.gen, .int .u32 a.serial, .int .u32 a.number, .int .u8 a.kind, .slice aa la ca] 25)
  have hb0 := bal (bre w) (.cells #[.int .u32 a.gen, .int .u32 a.serial, .int .u32 a.number, .int .u8 a.kind, .slice aa la ca] 25)
  generalize w.alloc (.cells #[.int .u32 a.gen, .int .u32 a.serial, .int .u32 a.number, .int .u8 a.kind, .slice aa la ca] 25) = W at *
  obtain ⟨n2, hn2⟩ : ∃ n, n = w.heap.size := ⟨_, rfl⟩
  rw [← hn2] at hr1 ⊢
  have HN2 := Lib.hid hn2
  have HR1 : Hid (Row5 W n2 a (.slice aa la ca)) := Lib.hid hr1
  have HA0 := Lib.hid (HA.out.below hb0)
  have HBW := Lib.hid hb0
  clear hn2 hr1 hb0 HA
  refine (awake_any W).mono ?_
  rintro e w1 ⟨rfl, hb1⟩
  have HR3 := Lib.hid (HR1.out.below hb1)
  have HA1 := Lib.hid (HA0.out.below hb1)
  have HBW1 := Lib.hid (HBW.out.trans (hb1.mono HBW.out.size))
  clear hb1 HR1 HA0 HBW
  obtain ⟨PA, hA⟩ : ∃ A, A = a.cut 520 := ⟨_, rfl⟩
  have HAA := Lib.hid hA
  clear hA
  have e0 := HR3.out.c0
  have e1 := HR3.out.c1
  have e2 := HR3.out.c2
  have e3 := HR3.out.c3
  have e4 := HR3.out.c4
  go_wp2_with fail
  refine (few_any (.slice aa la ca) a w1 HA1.out).mono ?_
  rintro e w2 ⟨v2, rfl, ho2, hb2⟩
  rw [← HAA.out] at ho2 ⊢
  unfold PgVal
  obtain ⟨a2, m2, c2, rfl⟩ := ho2.isSlice
  have hr2 := HR3.out.below hb2
  have HB2 := Lib.hid hb2
  have HO2 := Lib.hid ho2
  have HR2 := Lib.hid hr2
  clear e0 e1 e2 e3 e4 ho2 hb2
  have z0 := hr2.c0
  have z1 := hr2.c1
  have z2 := hr2.c2
  have z3 := hr2.c3
  have z4 := hr2.c4
  have zf := hr2.fz
  obtain ⟨q1, q2, q3⟩ := page_put PA (.slice a2 m2 c2) hr2
  have hbw := q3 w.heap.size w (by have := HN2.out; omega) (HBW1.out.trans (HB2.out.mono HBW1.out.size))
  have hl1 := HR3.out.lt
  have hoA := own_only HO2.out q2 (fun k hk e => by
    have h1 := (World.ownsRow.lt HO2.out k hk).1
    have h2 : w1.heap.size ≤ k := h1
    omega)
  have HQ1 : Hid (Row5 _ n2 PA (.slice a2 m2 c2)) := Lib.hid q1
  have HBE := Lib.hid hbw
  have HYA := Lib.hid (Own8.bytes hoA)
  clear hr2 q1 q2 q3 hoA hbw hl1 HR3 HA1 HBW1 HB2 HO2 HR2
  go_upto_region 4 with fail
  have hq1 := HQ1.out
  have hya := HYA.out
  have hbe := HBE.out
  clear HQ1 HYA HBE z0 z1 z2 z3 z4 zf
  generalize (((((w2.setCell ⟨n2, 0, none⟩ (.int .u32 PA.gen)).setCell ⟨n2, 1, none⟩ (.int .u32 PA.serial)).setCell ⟨n2, 2, none⟩ (.int .u32 PA.number)).setCell ⟨n2, 3, none⟩ (.int .u8 PA.kind)).setCell ⟨n2, 4, none⟩ (.slice a2 m2 c2)) = W4 at *
  have HBE := Lib.hid hbe
  have HQ1 : Hid (Row5 W4 n2 PA (.slice a2 m2 c2)) := Lib.hid hq1
  have HYA := Lib.hid hya
  clear hq1 hya hbe
  have oA := OA.out
  rw [← HAA.out] at oA
  have HOA := Lib.hid oA
  have HRA4 := Lib.hid (HRA.out.below HBE.out)
  clear OA HAA oA HRA
  have c0 := HQ1.out.c0
  have c1 := HQ1.out.c1
  have c2' := HQ1.out.c2
  have c3' := HQ1.out.c3
  have c4 := HQ1.out.c4
  go_wp2_with fail
  refine (pbytes_any _ PA W4 (PgAt.mk' HYA.out) HOA.out).mono ?_
  rintro e w6 ⟨v6, k, lb, rfl, htold, hy6, hb6⟩
  obtain ⟨a6, c6, rfl, -, -, -, -⟩ := id hy6
  obtain ⟨l6, hl6⟩ : ∃ l, l = lb.length := ⟨_, rfl⟩
  rw [← hl6] at hy6 ⊢
  have hq6 := HQ1.out.below hb6
  have HL6 := Lib.hid hl6
  have HY6 := Lib.hid hy6
  have HTOLD := Lib.hid htold
  have HQ6 : Hid (Row5 w6 n2 PA (.slice a2 m2 c2)) := Lib.hid hq6
  have HYA6 := Lib.hid (HYA.out.below hb6)
  have HRA6 := Lib.hid (HRA4.out.below hb6)
  have HB6 := Lib.hid (HBE.out.trans (hb6.mono HBE.out.size))
  have HSZ : Hid (n2 < W4.heap.size) := Lib.hid HQ1.out.lt
  obtain ⟨ld, hld⟩ : ∃ l, l = PA.data.length := ⟨_, rfl⟩
  have HLD := Lib.hid hld
  have hm2 : m2 = ld := by
    obtain ⟨_, _, e, -⟩ := HYA.out
    cases e
    exact hld.symm
  have HM2 := Lib.hid hm2
  clear c0 c1 c2' c3' c4 hl6 hy6 htold hq6 hb6 HQ1 HYA HRA4 HBE hld hm2
  go_upto_block 0 with fail
  go_cut [13] from 30 to 38 (fun t w' => t = .int .i64 k ∧ w' = w6)
  case first =>
    have c3' := HQ6.out.c3
    have c4 := HQ6.out.c4
    rcases HTOLD.out with ⟨rfl, h1, h2, -⟩ | ⟨rfl, h1, -⟩ | ⟨rfl, h1, h2, -⟩
    · have hk1 : ((PA.kind : Int) == 0) = false := beq_false_of_ne (by omega)
      have hk2 : decide ((PA.kind : Int) = 0) = false := decide_eq_false (by omega)
      have hl1 : decide ((491 : Int) < m2) = false := decide_eq_false (by rw [HM2.out, HLD.out]; omega)
      clear h1 h2
      go_wp2_with fail
      go_meet
      case rel => exact ⟨rfl, rfl⟩
    · rw [h1] at c3'
      clear h1
      go_wp2_with fail
      go_meet
      case rel => exact ⟨rfl, rfl⟩
    · have hk1 : ((PA.kind : Int) == 0) = false := beq_false_of_ne (by omega)
      have hk2 : decide ((PA.kind : Int) = 0) = false := decide_eq_false (by omega)
      have hl1 : decide ((491 : Int) < m2) = true := decide_eq_true (by rw [HM2.out, HLD.out]; omega)
      clear h1 h2
      go_wp2_with fail
      go_meet
      case rel => exact ⟨rfl, rfl⟩
  case rest =>
  obtain ⟨rfl, rfl⟩ := hcut
  rename World => w6
  go_upto_region 10 with fail
  go_cut [62] from 39 to 62 (fun t w' => t = .bool false ∧ Below w6.heap.size w6 w')
  case first =>
    rcases HTOLD.out with ⟨rfl, h1, h2, h3⟩ | ⟨rfl, -, h3⟩ | ⟨rfl, -, -, h3⟩
    · have c0 := HQ6.out.c0
      have c1 := HQ6.out.c1
      have c2' := HQ6.out.c2
      have c3' := HQ6.out.c3
      have c4 := HQ6.out.c4
      have H2 := Lib.hid h2
      have H3 := Lib.hid h3
      clear h1 h2 h3
      go_wp2_with fail
      refine (own_any (.slice a2 m2 c2) PA w6 HYA6.out).mono ?_
      rintro e w7 ⟨rfl, hb7⟩
      have HB7 := Lib.hid hb7
      clear hb7 c0 c1 c2' c3' c4
      go_wp2_with fail
      refine (rpbytes_any _ PA w7 (PgAt.mk' (HYA6.out.below HB7.out)) HOA.out H2.out).mono ?_
      rintro e w8 ⟨v8, rfl, ho8, hb8⟩
      have HO8 := Lib.hid ho8
      have HB8 := Lib.hid (btr HB7.out hb8)
      clear ho8 hb8
      go_wp2_with fail
      refine (same_any _ _ lb (seal8 PA.raw) w8 (HY6.out.below HB8.out) HO8.out.bytes).mono ?_
      rintro e w9 ⟨rfl, n9, rfl⟩
      rw [decide_eq_true H3.out]
      have HB9 := Lib.hid (bdn HB8.out n9)
      go_wp2_with fail
      go_meet
      case rel => exact ⟨rfl, HB9.out⟩
    · have h0 : l6 = 0 := by rw [HL6.out, h3]; rfl
      subst h0
      clear h3
      go_wp2_with fail
      go_meet
      case rel => exact ⟨rfl, bre _⟩
    · have h0 : l6 = 0 := by rw [HL6.out, h3]; rfl
      subst h0
      clear h3
      go_wp2_with fail
      go_meet
      case rel => exact ⟨rfl, bre _⟩
  case rest =>
  obtain ⟨rfl, hbc⟩ := hcut
  rename World => w10
  have HQ10 := Lib.hid (HQ6.out.below hbc)
  have HY10 := Lib.hid (HY6.out.below hbc)
  have HYA10 := Lib.hid (HYA6.out.below hbc)
  have HRA10 := Lib.hid (HRA6.out.below hbc)
  have HB10 := Lib.hid (HB6.out.trans (hbc.mono HB6.out.size))
  clear hbc HQ6 HY6 HYA6 HRA6 HB6
  go_wp2_with fail
  refine (full_any _ raw w10 HRA10.out).mono ?_
  rintro e w11 ⟨v11, rfl, ho11, hb11⟩
  have hfl := fullOf_length raw
  obtain ⟨g11, c11, rfl, -, -, -⟩ := ho11.shape (by intro h; rw [h] at hfl; cases hfl)
  rw [hfl] at ho11 ⊢
  have HO11 := Lib.hid ho11
  have HQ11 := Lib.hid (HQ10.out.below hb11)
  have HY11 := Lib.hid (HY10.out.below hb11)
  have HYA11 := Lib.hid (HYA10.out.below hb11)
  have HRA11 := Lib.hid (HRA10.out.below hb11)
  have HB11 := Lib.hid (HB10.out.trans (hb11.mono HB10.out.size))
  clear ho11 hb11 hfl HQ10 HY10 HYA10 HRA10 HB10
  go_upto_if 66 with (fail)
  go_cut [14] from 67 to 82 (fun t w' => ∃ l, Bytes w' t l ∧ l.length = 512 ∧ Below w11.heap.size w11 w')
  case first =>
    rcases HTOLD.out with ⟨rfl, -, h2, h3⟩ | ⟨rfl, -, -⟩ | ⟨rfl, -, -, -⟩
    · have hl512 : lb.length = 512 := by rw [h3, seal_length, raw_length _ h2]
      have hl6 : l6 = 512 := by rw [HL6.out, hl512]
      subst hl6
      have HL512 := Lib.hid hl512
      clear hl512 h2 h3
      go_wp2_with fail
      have hrl := rows_lit1 w11 (.slice a6 512 c6) lb 23 w11.heap.size rfl HY11.out
      have hb12 := bal (bre w11) (.cells #[.slice a6 512 c6] 23)
      generalize w11.alloc (.cells #[.slice a6 512 c6] 23) = w12 at *
      have hfl : [lb].flatten = lb := by simp
      refine (join_any _ [lb] w12 hrl (by rw [hfl, HL512.out]; omega)).mono ?_
      rintro e w13 ⟨v13, rfl, ho13, hb13⟩
      rw [hfl] at ho13
      obtain ⟨g, c, rfl, -, -, hcc⟩ := ho13.shape (by intro h; have := HL512.out; rw [h] at this; cases this)
      rw [HL512.out] at ho13 hcc ⊢
      have HCC := Lib.hid hcc
      have HB12S := Lib.hid hb12.size
      clear hcc
      have hn512 : at' % 512 < lb.length := by rw [HL512.out]; omega
      obtain ⟨hc, hf⟩ := ho13.cell (at' % 512) hn512
      unfold B8 at hc
      have hst := ho13.store (at' % 512) (lb[at' % 512] ^^^ UInt8.ofNat turn)
      rw [xor_B8 _ _ htu] at hst
      obtain ⟨lbt, hlbt⟩ : ∃ l, l = lb.set (at' % 512) (lb[at' % 512] ^^^ UInt8.ofNat turn) := ⟨_, rfl⟩
      have hlt : lbt.length = 512 := by rw [hlbt, List.length_set]; exact HL512.out
      rw [← hlbt] at hst
      have hx := (lb[at' % 512]).toNat_lt
      generalize (lb[at' % 512]).toNat = x at *
      have hxor := xor_u8 x turn hx htu
      have hmod : (at' : Int) % 512 = ((at' % 512 : Nat) : Int) := by omega
      have hm2 : at' % 512 < 512 := by omega
      generalize at' % 512 = m at *
      have HST := Lib.hid hst
      have HB13 := Lib.hid (btr hb12 hb13)
      have HLT := Lib.hid hlt
      have HXOR := Lib.hid hxor
      have hm3 : (m : Int) < 512 := by omega
      clear hst hb12 hb13 ho13 hrl hfl hlt hxor hlbt hx hn512 hm2
      cases mend with
      | false =>
        go_wp2_with fail
        rw [HXOR.out]
        go_meet
        case rel => exact ⟨lbt, HST.out.1.bytes, HLT.out, HB13.out.trans (HST.out.2.mono HB12S.out)⟩
      | true =>
        go_upto_region 17 with fail
        rw [HXOR.out]
        have hs1 := HST.out.1
        have hs2 := HB13.out.trans (HST.out.2.mono HB12S.out)
        generalize w13.setCell ⟨g, m, none⟩ (.int .u8 ((x ^^^ turn : Nat) : Int)) = w14 at *
        have h508 : Bytes w14 (.slice (some ⟨g, 0, none⟩) 508 c) (lbt.take 508) := hs1.bytes.firsts 508 (by rw [HLT.out]; omega)
        have HS2 := Lib.hid hs2
        have H508 := Lib.hid h508
        have hc5 : (508 : Int) ≤ c := by have := HCC.out; omega
        have htl : (lbt.take 508).length ≤ 100000000 := by rw [List.length_take, HLT.out]; omega
        have HTL := Lib.hid htl
        clear hs1 hs2 h508 hc hf HST HB13 htl HXOR
        go_wp2_with fail
        refine (rseal_any _ (lbt.take 508) w14 H508.out HTL.out).mono ?_
        rintro e w15 ⟨v15, rfl, ho15, hb15⟩
        have HY15 := Lib.hid ho15.bytes
        have HB15 := Lib.hid (HS2.out.trans (hb15.mono HS2.out.size))
        clear ho15 hb15
        go_wp2_with fail
        go_meet
        case rel => exact ⟨_, HY15.out, by rw [List.length_append, lows_length, List.length_take, HLT.out]; rfl, HB15.out⟩
    · go_wp2_with fail
      go_meet
      case rel => exact ⟨_, HO11.out.bytes, fullOf_length _, bre _⟩
    · go_wp2_with fail
      go_meet
      case rel => exact ⟨_, HO11.out.bytes, fullOf_length _, bre _⟩
  case rest =>
  obtain ⟨lbent, hybent, hlb512, hbc⟩ := hcut
  rename World => w16
  obtain ⟨ab, cb, hbe, -, -, -, -⟩ := id hybent
  subst hbe
  rw [hlb512] at hybent ⊢
  have HLB512 := Lib.hid hlb512
  clear hlb512
  have HYB := Lib.hid hybent
  have HQ16 := Lib.hid (HQ11.out.below hbc)
  have HY16 := Lib.hid (HY11.out.below hbc)
  have HYA16 := Lib.hid (HYA11.out.below hbc)
  have HRA16 := Lib.hid (HRA11.out.below hbc)
  have HB16 := Lib.hid (HB11.out.trans (hbc.mono HB11.out.size))
  clear hybent hbc HQ11 HY11 HYA11 HRA11 HB11 HO11
  go_upto_region 18 with fail
  have hlb600 : lb.length ≤ 512 := by
    rcases HTOLD.out with ⟨-, -, h2, h3⟩ | ⟨-, -, h3⟩ | ⟨-, -, -, h3⟩
    · rw [h3, seal_length, raw_length _ h2]; omega
    · rw [h3]; exact Nat.zero_le _
    · rw [h3]; exact Nat.zero_le _
  have HLB600 := Lib.hid hlb600
  have HSB : Hid (∀ w', Below w16.heap.size w16 w' → True) := Lib.hid (fun _ _ => trivial)
  clear hlb600
  refine region_anyZ (z := 7) (S := fun _ => True) (by kernel_rfl) ?_
  refine anyZ_begin (fun hcl0 => ?_)
  refine anyZ_held (by exact trivial) (fun hHeld => ?_)
  -- 0: Op.move (Operand.tmp 11)
  refine' anyZ_pure (i := 0) (v := _) rfl (by rfl) (by kernel_rfl) (by kernel_rfl) (by kernel_rfl) hcl0 (fun _ _ _ h => h) (Or.inl ⟨by rfl, fun w _ => ?hb1⟩) (fun _ => hHeld) (fun hcl1 => ?rb1)
  case hb1 => (simp only [List.getElem_toArray, List.getElem_cons_zero]; first | (go_simp; with_reducible rfl) | (go_simp; done) | rfl)
  simp only [List.getElem_toArray, List.getElem_cons_zero, Act.put, List.setIfInBounds_toArray, List.set_cons_zero, List.set_cons_succ]
  -- 1: Op.move (Operand.tmp 14)
  refine' anyZ_pure (i := 1) (v := _) rfl (by rfl) (by kernel_rfl) (by kernel_rfl) (by kernel_rfl) hcl1 (fun _ _ _ h => h) (Or.inl ⟨by rfl, fun w _ => ?hb2⟩) (fun _ => hHeld) (fun hcl2 => ?rb2)
  case hb2 => (simp only [List.getElem_toArray, List.getElem_cons_succ, List.getElem_cons_zero]; first | (go_simp; with_reducible rfl) | (go_simp; done) | rfl)
  simp only [List.getElem_toArray, List.getElem_cons_succ, List.getElem_cons_zero, Act.put, List.setIfInBounds_toArray, List.set_cons_zero, List.set_cons_succ]
  -- 2: Op.move (Operand.tmp 1)
  refine' anyZ_pure (i := 2) (v := _) rfl (by rfl) (by kernel_rfl) (by kernel_rfl) (by kernel_rfl) hcl2 (fun _ _ _ h => h) (Or.inl ⟨by rfl, fun w _ => ?hb3⟩) (fun _ => hHeld) (fun hcl3 => ?rb3)
  case hb3 => (simp only [List.getElem_toArray, List.getElem_cons_succ, List.getElem_cons_zero]; first | (go_simp; with_reducible rfl) | (go_simp; done) | rfl)
  simp only [List.getElem_toArray, List.getElem_cons_succ, List.getElem_cons_zero, Act.put, List.setIfInBounds_toArray, List.set_cons_zero, List.set_cons_succ]
  -- 4: Op.move (Operand.tmp 1)
  refine' anyZ_pure (i := 4) (v := _) rfl (by rfl) (by kernel_rfl) (by kernel_rfl) (by kernel_rfl) hcl3 (fun _ _ _ h => h) (Or.inl ⟨by rfl, fun w _ => ?hb4⟩) (fun _ => hHeld) (fun hcl4 => ?rb4)
  case hb4 => (simp only [List.getElem_toArray, List.getElem_cons_succ, List.getElem_cons_zero]; first | (go_simp; with_reducible rfl) | (go_simp; done) | rfl)
  simp only [List.getElem_toArray, List.getElem_cons_succ, List.getElem_cons_zero, Act.put, List.setIfInBounds_toArray, List.set_cons_zero, List.set_cons_succ]
  -- 9: Op.move (Operand.const (Value.int IntKind.i64 0))
  refine' anyZ_pure (i := 9) (v := _) rfl (by rfl) (by kernel_rfl) (by kernel_rfl) (by kernel_rfl) hcl4 (fun _ _ _ h => h) (Or.inl ⟨by rfl, fun w _ => ?hb5⟩) (fun _ => hHeld) (fun hcl5 => ?rb5)
  case hb5 => (simp only [List.getElem_toArray, List.getElem_cons_succ, List.getElem_cons_zero]; first | (go_simp; with_reducible rfl) | (go_simp; done) | rfl)
  simp only [List.getElem_toArray, List.getElem_cons_succ, List.getElem_cons_zero, Act.put, List.setIfInBounds_toArray, List.set_cons_zero, List.set_cons_succ]
  refine anyZ_cast (listed' := #[true, true, true, false, true, false, false, false, false, true]) (by kernel_rfl) ?_
  refine anyZ_name (fun T Wp R HT HR Hop HE => ?_)
  generalize hA : Act.mk _ _ = A
  have E85 : A.eval (.tmp 85) = .slice ar lr cr := by rw [← hA]; rfl
  have E87 : A.eval (.tmp 87) = .slice ar lr cr := by rw [← hA]; rfl
  have HA := Lib.hid hA
  clear hA
  have M3 : ∀ (a : Act) (w1 : World) (K : Act → World → Prop), Below w16.heap.size w16 w1 → a.eval (.tmp 85) = .slice ar lr cr → (∀ ad c w2, Bytes w2 (.slice ad 512 c) (fullOf raw) → Below w1.heap.size w1 w2 → K (a.put (some 86) (.slice ad 512 c)) w2) → Wp 3 K a w1 := by
    intro a w1 K hb he hK
    exact Hop 3 _ a w1 K (by simp only [List.getElem?_toArray, List.getElem?_cons_succ, List.getElem?_cons_zero]; rfl) rfl (full_step 85 86 _ raw _ a w1 K _ (HRA16.out.below hb) rfl rfl he hK)
  have M5 : ∀ (a : Act) (w1 : World) (K : Act → World → Prop), Below w16.heap.size w16 w1 → a.eval (.tmp 87) = .slice ar lr cr → (∀ ad n c w2, Bytes w2 (.slice ad n c) (raw.take 600) → Below w1.heap.size w1 w2 → K (a.put (some 88) (.slice ad n c)) w2) → Wp 5 K a w1 := by
    intro a w1 K hb he hK
    exact Hop 5 _ a w1 K (by simp only [List.getElem?_toArray, List.getElem?_cons_succ, List.getElem?_cons_zero]; rfl) rfl (cutc_step 87 88 600 (by omega) _ raw _ a w1 K _ (HRA16.out.below hb) rfl rfl he hK)
  have M6 : ∀ (a : Act) (w1 : World) (K : Act → World → Prop), (∀ ad c w2, Bytes w2 (.slice ad 512 c) (List.replicate 512 0) → Below w1.heap.size w1 w2 → K (a.put (some 89) (.slice ad 512 c)) w2) → Wp 6 K a w1 := by
    intro a w1 K hK
    refine Hop 6 _ a w1 K (by simp only [List.getElem?_toArray, List.getElem?_cons_succ, List.getElem?_cons_zero]; rfl) rfl ?_
    refine wp_make8 _ _ 23 5 make8 rfl 512 rfl rfl (by omega) ?_
    intro w2 hm2 hb2
    exact hK _ _ w2 hm2.bytes hb2
  clear Hop
  have st3_5_6_ : ∀ (a86 : Option Addr) (c86 : Nat) (a88 : Option Addr) (m88 c88 : Nat) (a89 : Option Addr) (c89 : Nat) (w1 : World), Below w16.heap.size w16 w1 → Bytes w1 (.slice a86 512 c86) (fullOf raw) → Bytes w1 (.slice a88 m88 c88) (raw.take 600) → Bytes w1 (.slice a89 512 c89) (List.replicate 512 0) → T 2 #[true, true, true, true, true, true, true, false, false, true] (((A.put (some 86) (.slice a86 512 c86)).put (some 88) (.slice a88 m88 c88)).put (some 89) (.slice a89 512 c89)) w1 := by
    intro a86 c86 a88 m88 c88 a89 c89 w1 hb f86 f88 f89
    refine HE _ _ _ _ ?_
    rw [← HA.out]
    simp only [Act.put, List.setIfInBounds_toArray, List.set_cons_zero, List.set_cons_succ]
    obtain ⟨qs, hqs⟩ : ∃ q, q = [lb, lbent, fullOf raw, raw.take 600, List.replicate 512 0] := ⟨_, rfl⟩
    have hrow : ∀ (j : Nat) (v : Value) (l : List UInt8), [Value.slice a6 l6 c6, .slice ab 512 cb, .slice a86 512 c86, .slice a88 m88 c88, .slice a89 512 c89][j]? = some v → qs[j]? = some l → Bytes w1 v l := by
      intro j v l h1 h2
      rw [hqs] at h2
      match j, h1, h2 with
      | 0, h1, h2 => cases h1; cases h2; exact HY16.out.below hb
      | 1, h1, h2 => cases h1; cases h2; exact HYB.out.below hb
      | 2, h1, h2 => cases h1; cases h2; exact f86
      | 3, h1, h2 => cases h1; cases h2; exact f88
      | 4, h1, h2 => cases h1; cases h2; exact f89
      | j + 5, h1, h2 => cases h1
    have hql : qs.length = 5 := by rw [hqs]; rfl
    have hqlen : ∀ q ∈ qs, q.length ≤ 600 := by
      intro q hq
      rw [hqs] at hq
      simp only [List.mem_cons, List.not_mem_nil, or_false] at hq
      rcases hq with rfl | rfl | rfl | rfl | rfl
      · have := HLB600.out; omega
      · rw [HLB512.out]; omega
      · rw [fullOf_length]; omega
      · rw [List.length_take]; omega
      · rw [List.length_replicate]; omega
    have hrl := rows_lit w1 [Value.slice a6 l6 c6, .slice ab 512 cb, .slice a86 512 c86, .slice a88 m88 c88, .slice a89 512 c89] qs 23 w1.heap.size 5 rfl hql.symm (by rw [hql]; rfl) (by rw [hql]; simp [maxLen]) hrow
    have hb17 := bal hb (.cells #[Value.slice a6 l6 c6, .slice ab 512 cb, .slice a86 512 c86, .slice a88 m88 c88, .slice a89 512 c89] 23)
    have HRL := Lib.hid hrl
    have HQL := Lib.hid hql
    have HQN := Lib.hid hqlen
    have HQ17 := Lib.hid (HQ16.out.below hb17)
    have HYA17 := Lib.hid (HYA16.out.below hb17)
    have HB17 := Lib.hid (HB16.out.trans (hb17.mono HB16.out.size))
    clear HT HR HE M3 M5 M6 E85 E87 f86 f88 f89 hrow hrl hql hqs hqlen hb17 hb HSB HLB600 HLB512 HQ16 HY16 HYA16 HRA16 HB16 HYB HTOLD HL6
    refine anyZ_onlyK (i := 7) (by kernel_rfl) (by simp only [List.getElem?_toArray, List.getElem?_cons_succ, List.getElem?_cons_zero]; rfl) rfl (fun K hK => ?_)
    go_simp
    refine hK _ _ (fun _ => trivial) ?_
    clear hK K
    simp only [List.setIfInBounds_toArray, List.set_cons_zero, List.set_cons_succ]
    refine anyZ_onlyK (i := 8) (by kernel_rfl) (by simp only [List.getElem?_toArray, List.getElem?_cons_succ, List.getElem?_cons_zero]; rfl) rfl (fun K hK => ?_)
    go_simp
    refine hK _ _ (fun _ => trivial) ?_
    clear hK K
    simp only [List.setIfInBounds_toArray, List.set_cons_zero, List.set_cons_succ]
    refine anyZ_done (by kernel_rfl) ?_ _
    go_wp2_with fail
    have hrl := HRL.out
    have hq17 := HQ17.out
    have hya17 := HYA17.out
    have hb17 := HB17.out
    clear HRL HQ17 HYA17 HB17
    generalize hW5 : w1.alloc (.cells #[Value.slice a6 l6 c6, .slice ab 512 cb, .slice a86 512 c86, .slice a88 m88 c88, .slice a89 512 c89] 23) = W5 at *
    have hrl5 : Rows8 W5 (.slice (some ⟨w1.heap.size, 0, none⟩) 5 5) qs := by first | exact hrl | (rw [← hW5]; exact hrl)
    generalize w1.heap.size = n18 at *
    clear hrl hW5
    have HRL := Lib.hid hrl5
    have HQ17 := Lib.hid hq17
    have HYA17 := Lib.hid hya17
    have HB17 := Lib.hid hb17
    clear hrl5 hq17 hya17 hb17
    go_loopw [16, 17, 18, 19, 20, 92] (fun _ _ _ _ _ i wr => ∃ j : Nat, j ≤ 5 ∧ i = .int .i64 j ∧ Below W5.heap.size W5 wr) (fun _ _ _ _ _ i _ => 5 - (intOf i).toNat)
    case atStart => exact ⟨0, by omega, rfl, bre W5⟩
    case round =>
      obtain ⟨j, hj, rfl, hbr⟩ := hrel
      by_cases hlt : j < 5
      · obtain ⟨q, hq⟩ : ∃ q, qs[j]? = some q := ⟨_, List.getElem?_eq_getElem (by rw [HQL.out]; exact hlt)⟩
        have hq600 := HQN.out q (List.mem_of_getElem? hq)
        have hcq : ∃ u, W5.cell? ⟨n18, j, none⟩ = some u ∧ Bytes W5 u q := by
          obtain ⟨_, _, ee, -, -, -, hrow⟩ := HRL.out
          injection ee with e1 e2 e3
          rcases hrow with h0 | ⟨g', o', ee, hrow⟩
          · rw [h0] at hq; cases hq
          · rw [← e1] at ee
            cases ee
            obtain ⟨u, h1, h2⟩ := hrow j q hq
            exact ⟨u, by simpa using h1, h2⟩
        obtain ⟨u, hu, hyu⟩ := hcq
        obtain ⟨au, cu, rfl, -, -, -, -⟩ := id hyu
        obtain ⟨lq, hlq⟩ : ∃ l, l = q.length := ⟨_, rfl⟩
        rw [← hlq] at hu hyu hq600
        have hur := (hbr.cell (p := ⟨n18, j, none⟩) (block_lt_of_cell hu)).trans hu
        have HU := Lib.hid (hyu.below hbr)
        have HBR := Lib.hid hbr
        have HLQ := Lib.hid hlq
        clear hq hu hyu hbr hlq
        go_wp2_with fail
        refine (parse_any _ q wr HU.out).mono ?_
        rintro e wa ⟨vx, rfl, hox, hba⟩
        unfold PgVal
        obtain ⟨ax, mx, cx, rfl⟩ := hox.isSlice
        obtain ⟨fe, hfe⟩ : ∃ x, x = (parseOf q).1 := ⟨_, rfl⟩
        obtain ⟨P, hP⟩ : ∃ x, x = (parseOf q).2 := ⟨_, rfl⟩
        rw [← hP] at hox
        rw [← hfe, ← hP]
        have HFE := Lib.hid hfe
        have HP := Lib.hid hP
        have HBA := Lib.hid hba
        have HOX := Lib.hid hox
        clear hfe hP hba hox hur
        go_upto_region 22 with fail
        have hbb := bal HBA.out (.cells #[.int .u32 P.gen, .int .u32 P.serial, .int .u32 P.number, .int .u8 P.kind, .slice ax mx cx] 25)
        have hrx : Row5 _ wa.heap.size P (.slice ax mx cx) := heap_alloc_new wa (.cells #[.int .u32 P.gen, .int .u32 P.serial, .int .u32 P.number, .int .u8 P.kind, .slice ax mx cx] 25)
        have hxb := HOX.out.bytes.below (bal (bre wa) (.cells #[.int .u32 P.gen, .int .u32 P.serial, .int .u32 P.number, .int .u8 P.kind, .slice ax mx cx] 25))
        generalize wa.alloc (.cells #[.int .u32 P.gen, .int .u32 P.serial, .int .u32 P.number, .int .u8 P.kind, .slice ax mx cx] 25) = wb at *
        obtain ⟨nx, hnx⟩ : ∃ n, n = wa.heap.size := ⟨_, rfl⟩
        rw [← hnx] at hrx ⊢
        have HBB := Lib.hid hbb
        have HRXB := Lib.hid hrx
        have HXB := Lib.hid hxb
        have HUB := Lib.hid (HU.out.below hbb)
        clear hbb hrx hxb hnx HBA HOX HU
        go_wp2_with fail
        refine (rparse_any _ q wb HUB.out).mono ?_
        rintro e wc ⟨vy, rfl, hoy, hbc⟩
        unfold PgVal
        obtain ⟨ay, my, cy, rfl⟩ := hoy.isSlice
        rw [← HP.out] at hoy
        rw [← HFE.out, ← HP.out]
        have HBC := Lib.hid hbc
        have HOY := Lib.hid hoy
        clear hbc hoy
        go_upto_region 23 with fail
        have hbd := bal HBC.out (.cells #[.int .u32 P.gen, .int .u32 P.serial, .int .u32 P.number, .int .u8 P.kind, .slice ay my cy] 34)
        have hry : RowR _ wc.heap.size P (.slice ay my cy) := heap_alloc_new wc (.cells #[.int .u32 P.gen, .int .u32 P.serial, .int .u32 P.number, .int .u8 P.kind, .slice ay my cy] 34)
        have hyd := HOY.out.bytes.below (bal (bre wc) (.cells #[.int .u32 P.gen, .int .u32 P.serial, .int .u32 P.number, .int .u8 P.kind, .slice ay my cy] 34))
        generalize wc.alloc (.cells #[.int .u32 P.gen, .int .u32 P.serial, .int .u32 P.number, .int .u8 P.kind, .slice ay my cy] 34) = wd at *
        obtain ⟨ny, hny⟩ : ∃ n, n = wc.heap.size := ⟨_, rfl⟩
        rw [← hny] at hry ⊢
        have hxd := HXB.out.below hbd
        have hud := HUB.out.below hbd
        have HRX := Lib.hid (HRXB.out.below hbd)
        have HRY := Lib.hid hry
        have HBD := Lib.hid (HBR.out.trans ((btr HBB.out hbd).mono HBR.out.size))
        obtain ⟨nb, hnb⟩ : ∃ x, x = decide (noughts q) := ⟨_, rfl⟩
        have hnb2 : decide (q = List.replicate lq 0) = nb := by rw [hnb, HLQ.out]; exact (noughts_rep q).symm
        have HLK : Hid (∀ w', Below wd.heap.size wd w' → Calls Tryd.prog 20 #[.agg #[.int .u32 P.gen, .int .u32 P.serial, .int .u32 P.number, .int .u8 P.kind, .slice ax mx cx], .agg #[.int .u32 P.gen, .int .u32 P.serial, .int .u32 P.number, .int .u8 P.kind, .slice ay my cy]] w' fun e w'' => e = .returned (.bool true) ∧ Below w'.heap.size w' w'') := Lib.hid (fun w' hb => (like_any _ _ P P w' (PgAt.mk' (hxd.below hb)) (PgAt.mk' (hyd.below hb))).mono (fun e w2 h => ⟨by rw [h.1, pgSame_self], h.2⟩))
        have HOW : Hid (∀ w', Below wd.heap.size wd w' → Calls Tryd.prog 13 #[.agg #[.int .u32 P.gen, .int .u32 P.serial, .int .u32 P.number, .int .u8 P.kind, .slice ax mx cx]] w' fun e w'' => e = .returned (.agg #[.int .u32 P.gen, .int .u32 P.serial, .int .u32 P.number, .int .u8 P.kind, .slice ax mx cx]) ∧ Below w'.heap.size w' w'') := Lib.hid (fun w' hb => own_any _ P w' (hxd.below hb))
        have HBLK : Hid (∀ w', Below wd.heap.size wd w' → Calls Tryd.prog 21 #[.slice au lq cu] w' fun e w'' => e = .returned (.bool nb) ∧ Below w'.heap.size w' w'') := Lib.hid (fun w' hb => (blank_any _ q w' (hud.below hb)).mono (fun e w2 h => by
          obtain ⟨h1, n, rfl⟩ := h
          exact ⟨by rw [h1, hnb], bdn (bre w') n⟩))
        have HSN : Hid (∀ w' v', Below wd.heap.size wd w' → Bytes w' v' (List.replicate lq 0) → Calls Tryd.prog 11 #[.slice au lq cu, v'] w' fun e w'' => e = .returned (.bool nb) ∧ Below w'.heap.size w' w'') := Lib.hid (fun w' v' hb hy => (same_any _ _ q _ w' (hud.below hb) hy).mono (fun e w2 h => by
          obtain ⟨h1, n, rfl⟩ := h
          exact ⟨by rw [h1, hnb2], bdn (bre w') n⟩))
        have HUD := Lib.hid hud
        have HXD := Lib.hid hxd
        clear hbd hry hyd hny hxd hud hnb hnb2 HRXB HXB HUB HBB HBC HOY HBR
        go_cut [136] from 106 to 136 (fun t w' => t = .bool false ∧ Below wd.heap.size wd w')
        case first =>
          by_cases hf0 : fe = 0
          · obtain ⟨gd1, gd2, gd3⟩ := parseOf_good q (by rw [← HFE.out]; exact hf0)
            rw [← HP.out] at gd1 gd2 gd3
            have HRB : Hid (∀ w', Below wd.heap.size wd w' → Calls Tryd.prog 12 #[.agg #[.int .u32 P.gen, .int .u32 P.serial, .int .u32 P.number, .int .u8 P.kind, .slice ax mx cx]] w' fun e w'' => ∃ v8, e = .returned v8 ∧ Bytes w'' v8 (seal8 P.raw) ∧ Below w'.heap.size w' w'') := Lib.hid (fun w' hb => (rpbytes_any _ P w' (PgAt.mk' (HXD.out.below hb)) gd2 gd3).mono (fun e w2 h => by
              obtain ⟨v8, h1, h2, h3⟩ := h
              exact ⟨v8, h1, h2.bytes, h3⟩))
            have HSQ : Hid (∀ w' v', Below wd.heap.size wd w' → Bytes w' v' (seal8 P.raw) → Calls Tryd.prog 11 #[v', .slice au lq cu] w' fun e w'' => e = .returned (.bool true) ∧ Below w'.heap.size w' w'') := Lib.hid (fun w' v' hb hy => (same_any _ _ (seal8 P.raw) q w' hy (HUD.out.below hb)).mono (fun e w2 h => by
              obtain ⟨h1, n, rfl⟩ := h
              exact ⟨by rw [h1, decide_eq_true gd1.symm], bdn (bre w') n⟩))
            subst hf0
            clear gd1 gd2 gd3
            refine region_anyZ (z := 28) (S := fun w' => Row5 w' nx P (.slice ax mx cx) ∧ RowR w' ny P (.slice ay my cy)) (by kernel_rfl) ?_
            refine anyZ_begin (fun hcl0 => ?_)
            refine anyZ_held (by exact ⟨HRX.out.below (bdr (bre wd)), HRY.out.below (bdr (bre wd))⟩) (fun hHeld => ?_)
            -- 0: Op.move (Operand.tmp 18)
            refine' anyZ_pure (i := 0) (v := _) rfl (by rfl) (by kernel_rfl) (by kernel_rfl) (by kernel_rfl) hcl0 (fun _ _ _ h => h) (Or.inl ⟨by rfl, fun w _ => ?hc1⟩) (fun _ => hHeld) (fun hcl1 => ?rc1)
            case hc1 => (simp only [List.getElem_toArray, List.getElem_cons_zero]; first | (go_simp; with_reducible rfl) | (go_simp; done) | rfl)
            simp only [List.getElem_toArray, List.getElem_cons_zero, Act.put, List.setIfInBounds_toArray, List.set_cons_zero, List.set_cons_succ]
            -- 1: Op.move (Operand.tmp 20)
            refine' anyZ_pure (i := 1) (v := _) rfl (by rfl) (by kernel_rfl) (by kernel_rfl) (by kernel_rfl) hcl1 (fun _ _ _ h => h) (Or.inl ⟨by rfl, fun w _ => ?hc2⟩) (fun _ => hHeld) (fun hcl2 => ?rc2)
            case hc2 => (simp only [List.getElem_toArray, List.getElem_cons_succ, List.getElem_cons_zero]; first | (go_simp; with_reducible rfl) | (go_simp; done) | rfl)
            simp only [List.getElem_toArray, List.getElem_cons_succ, List.getElem_cons_zero, Act.put, List.setIfInBounds_toArray, List.set_cons_zero, List.set_cons_succ]
            -- 2: Op.binOp BinOp.neq 3 (Operand.tmp 106) (Operand.tmp 107) 3
            refine' anyZ_pure (i := 2) (v := _) rfl (by rfl) (by kernel_rfl) (by kernel_rfl) (by kernel_rfl) hcl2 (fun _ _ _ h => h) (Or.inl ⟨by rfl, fun w _ => ?hc3⟩) (fun _ => hHeld) (fun hcl3 => ?rc3)
            case hc3 => (simp only [List.getElem_toArray, List.getElem_cons_succ, List.getElem_cons_zero]; first | (go_simp; with_reducible rfl) | (go_simp; done) | rfl)
            simp only [List.getElem_toArray, List.getElem_cons_succ, List.getElem_cons_zero, Act.put, List.setIfInBounds_toArray, List.set_cons_zero, List.set_cons_succ]
            -- 3: Op.move (Operand.tmp 108)
            refine' anyZ_pure (i := 3) (v := _) rfl (by rfl) (by kernel_rfl) (by kernel_rfl) (by kernel_rfl) hcl3 (fun _ _ _ h => h) (Or.inl ⟨by rfl, fun w _ => ?hc4⟩) (fun _ => hHeld) (fun hcl4 => ?rc4)
            case hc4 => (simp only [List.getElem_toArray, List.getElem_cons_succ, List.getElem_cons_zero]; first | (go_simp; with_reducible rfl) | (go_simp; done) | rfl)
            simp only [List.getElem_toArray, List.getElem_cons_succ, List.getElem_cons_zero, Act.put, List.setIfInBounds_toArray, List.set_cons_zero, List.set_cons_succ]
            -- 4: Op.load 25 (Operand.tmp 17)
            refine' anyZ_take (i := 4) (v := _) rfl (by rfl) (by kernel_rfl) (by kernel_rfl) (by kernel_rfl) hcl4 7 (by kernel_rfl) (by kernel_rfl) (fun _ _ _ h => h) (Or.inl ⟨by rfl, fun w hSw => ?hc5⟩) hHeld (fun hcl5 => ?rc5)
            case hc5 => (simp only [List.getElem_toArray, List.getElem_cons_succ, List.getElem_cons_zero]; obtain ⟨hS1, hS2⟩ := hSw; have x0 := hS1.c0; have x1 := hS1.c1; have x2 := hS1.c2; have x3 := hS1.c3; have x4 := hS1.c4; have y0 := hS2.c0; have y1 := hS2.c1; have y2 := hS2.c2; have y3 := hS2.c3; have y4 := hS2.c4; first | (go_simp; with_reducible rfl) | (go_simp; done) | rfl)
            simp only [List.getElem_toArray, List.getElem_cons_succ, List.getElem_cons_zero, Act.put, List.setIfInBounds_toArray, List.set_cons_zero, List.set_cons_succ]
            -- 5: Op.load 34 (Operand.tmp 19)
            refine' anyZ_take (i := 5) (v := _) rfl (by rfl) (by kernel_rfl) (by kernel_rfl) (by kernel_rfl) hcl5 7 (by kernel_rfl) (by kernel_rfl) (fun _ _ _ h => h) (Or.inl ⟨by rfl, fun w hSw => ?hc6⟩) hHeld (fun hcl6 => ?rc6)
            case hc6 => (simp only [List.getElem_toArray, List.getElem_cons_succ, List.getElem_cons_zero]; obtain ⟨hS1, hS2⟩ := hSw; have x0 := hS1.c0; have x1 := hS1.c1; have x2 := hS1.c2; have x3 := hS1.c3; have x4 := hS1.c4; have y0 := hS2.c0; have y1 := hS2.c1; have y2 := hS2.c2; have y3 := hS2.c3; have y4 := hS2.c4; first | (go_simp; with_reducible rfl) | (go_simp; done) | rfl)
            simp only [List.getElem_toArray, List.getElem_cons_succ, List.getElem_cons_zero, Act.put, List.setIfInBounds_toArray, List.set_cons_zero, List.set_cons_succ]
            -- 6: Op.call { callee := Callee.value (Operand.func 20), args := 
            refine anyZ_oneG (i := 6) hcl6 (by kernel_rfl) (by simp only [List.getElem?_toArray, List.getElem?_cons_succ, List.getElem?_cons_zero]; rfl) (by rfl) (fun hcl7 K hK => ?_)
            go_simp
            refine (HLK.out _ (bdr (bre wd))).mono ?_
            rintro e we ⟨rfl, hbe⟩
            have hbb1 := btr (bdr (bre wd)) hbe
            refine hK _ _ (fun _ => ?_) ?_
            · exact ⟨HRX.out.below hbb1, HRY.out.below hbb1⟩
            clear hK K hHeld
            have hHeld := (show Row5 we nx P (.slice ax mx cx) ∧ RowR we ny P (.slice ay my cy) from ⟨HRX.out.below hbb1, HRY.out.below hbb1⟩)
            try simp only [Act.put, List.setIfInBounds_toArray, List.set_cons_zero, List.set_cons_succ]
            -- 7: Op.unOp UnOp.not 4 (Operand.tmp 112)
            refine' anyZ_pure (i := 7) (v := _) rfl (by rfl) (by kernel_rfl) (by kernel_rfl) (by kernel_rfl) hcl7 (fun _ _ _ h => h) (Or.inl ⟨by rfl, fun w _ => ?hc8⟩) (fun _ => hHeld) (fun hcl8 => ?rc8)
            case hc8 => (simp only [List.getElem_toArray, List.getElem_cons_succ, List.getElem_cons_zero]; first | (go_simp; with_reducible rfl) | (go_simp; done) | rfl)
            simp only [List.getElem_toArray, List.getElem_cons_succ, List.getElem_cons_zero, Act.put, List.setIfInBounds_toArray, List.set_cons_zero, List.set_cons_succ]
            -- 8: Op.pick (Operand.tmp 109) (Operand.const (Value.bool true)) 
            refine' anyZ_pure (i := 8) (v := _) rfl (by rfl) (by kernel_rfl) (by kernel_rfl) (by kernel_rfl) hcl8 (fun _ _ _ h => h) (Or.inl ⟨by rfl, fun w _ => ?hc9⟩) (fun _ => hHeld) (fun hcl9 => ?rc9)
            case hc9 => (simp only [List.getElem_toArray, List.getElem_cons_succ, List.getElem_cons_zero]; first | (go_simp; with_reducible rfl) | (go_simp; done) | rfl)
            simp only [List.getElem_toArray, List.getElem_cons_succ, List.getElem_cons_zero, Act.put, List.setIfInBounds_toArray, List.set_cons_zero, List.set_cons_succ]
            -- 9: Op.move (Operand.tmp 114)
            refine' anyZ_pure (i := 9) (v := _) rfl (by rfl) (by kernel_rfl) (by kernel_rfl) (by kernel_rfl) hcl9 (fun _ _ _ h => h) (Or.inl ⟨by rfl, fun w _ => ?hc10⟩) (fun _ => hHeld) (fun hcl10 => ?rc10)
            case hc10 => (simp only [List.getElem_toArray, List.getElem_cons_succ, List.getElem_cons_zero]; first | (go_simp; with_reducible rfl) | (go_simp; done) | rfl)
            simp only [List.getElem_toArray, List.getElem_cons_succ, List.getElem_cons_zero, Act.put, List.setIfInBounds_toArray, List.set_cons_zero, List.set_cons_succ]
            -- 10: Op.move (Operand.tmp 18)
            refine' anyZ_pure (i := 10) (v := _) rfl (by rfl) (by kernel_rfl) (by kernel_rfl) (by kernel_rfl) hcl10 (fun _ _ _ h => h) (Or.inl ⟨by rfl, fun w _ => ?hc11⟩) (fun _ => hHeld) (fun hcl11 => ?rc11)
            case hc11 => (simp only [List.getElem_toArray, List.getElem_cons_succ, List.getElem_cons_zero]; first | (go_simp; with_reducible rfl) | (go_simp; done) | rfl)
            simp only [List.getElem_toArray, List.getElem_cons_succ, List.getElem_cons_zero, Act.put, List.setIfInBounds_toArray, List.set_cons_zero, List.set_cons_succ]
            -- 11: Op.binOp BinOp.eql 29 (Operand.tmp 116) (Operand.const (Valu
            refine' anyZ_pure (i := 11) (v := _) rfl (by rfl) (by kernel_rfl) (by kernel_rfl) (by kernel_rfl) hcl11 (fun _ _ _ h => h) (Or.inl ⟨by rfl, fun w _ => ?hc12⟩) (fun _ => hHeld) (fun hcl12 => ?rc12)
            case hc12 => (simp only [List.getElem_toArray, List.getElem_cons_succ, List.getElem_cons_zero]; first | (go_simp; with_reducible rfl) | (go_simp; done) | rfl)
            simp only [List.getElem_toArray, List.getElem_cons_succ, List.getElem_cons_zero, Act.put, List.setIfInBounds_toArray, List.set_cons_zero, List.set_cons_succ]
            -- 12: Op.move (Operand.tmp 117)
            refine' anyZ_pure (i := 12) (v := _) rfl (by rfl) (by kernel_rfl) (by kernel_rfl) (by kernel_rfl) hcl12 (fun _ _ _ h => h) (Or.inl ⟨by rfl, fun w _ => ?hc13⟩) (fun _ => hHeld) (fun hcl13 => ?rc13)
            case hc13 => (simp only [List.getElem_toArray, List.getElem_cons_succ, List.getElem_cons_zero]; first | (go_simp; with_reducible rfl) | (go_simp; done) | rfl)
            simp only [List.getElem_toArray, List.getElem_cons_succ, List.getElem_cons_zero, Act.put, List.setIfInBounds_toArray, List.set_cons_zero, List.set_cons_succ]
            -- 13: Op.load 25 (Operand.tmp 17)
            refine' anyZ_take (i := 13) (v := _) rfl (by rfl) (by kernel_rfl) (by kernel_rfl) (by kernel_rfl) hcl13 7 (by kernel_rfl) (by kernel_rfl) (fun _ _ _ h => h) (Or.inl ⟨by rfl, fun w hSw => ?hc14⟩) hHeld (fun hcl14 => ?rc14)
            case hc14 => (simp only [List.getElem_toArray, List.getElem_cons_succ, List.getElem_cons_zero]; obtain ⟨hS1, hS2⟩ := hSw; have x0 := hS1.c0; have x1 := hS1.c1; have x2 := hS1.c2; have x3 := hS1.c3; have x4 := hS1.c4; have y0 := hS2.c0; have y1 := hS2.c1; have y2 := hS2.c2; have y3 := hS2.c3; have y4 := hS2.c4; first | (go_simp; with_reducible rfl) | (go_simp; done) | rfl)
            simp only [List.getElem_toArray, List.getElem_cons_succ, List.getElem_cons_zero, Act.put, List.setIfInBounds_toArray, List.set_cons_zero, List.set_cons_succ]
            -- 16: Op.move (Operand.tmp 16)
            refine' anyZ_pure (i := 16) (v := _) rfl (by rfl) (by kernel_rfl) (by kernel_rfl) (by kernel_rfl) hcl14 (fun _ _ _ h => h) (Or.inl ⟨by rfl, fun w _ => ?hc15⟩) (fun _ => hHeld) (fun hcl15 => ?rc15)
            case hc15 => (simp only [List.getElem_toArray, List.getElem_cons_succ, List.getElem_cons_zero]; first | (go_simp; with_reducible rfl) | (go_simp; done) | rfl)
            simp only [List.getElem_toArray, List.getElem_cons_succ, List.getElem_cons_zero, Act.put, List.setIfInBounds_toArray, List.set_cons_zero, List.set_cons_succ]
            -- 14: Op.call { callee := Callee.value (Operand.func 13), args := 
            refine anyZ_oneG (i := 14) hcl15 (by kernel_rfl) (by simp only [List.getElem?_toArray, List.getElem?_cons_succ, List.getElem?_cons_zero]; rfl) (by rfl) (fun hcl16 K hK => ?_)
            go_simp
            refine (HOW.out _ hbb1).mono ?_
            rintro e wf ⟨rfl, hbf⟩
            have hbb2 := btr hbb1 hbf
            refine hK _ _ (fun _ => ?_) ?_
            · exact ⟨HRX.out.below hbb2, HRY.out.below hbb2⟩
            clear hK K hHeld
            have hHeld := (show Row5 wf nx P (.slice ax mx cx) ∧ RowR wf ny P (.slice ay my cy) from ⟨HRX.out.below hbb2, HRY.out.below hbb2⟩)
            try simp only [Act.put, List.setIfInBounds_toArray, List.set_cons_zero, List.set_cons_succ]
            -- 15: Op.call { callee := Callee.value (Operand.func 12), args := 
            refine anyZ_oneG (i := 15) hcl16 (by kernel_rfl) (by simp only [List.getElem?_toArray, List.getElem?_cons_succ, List.getElem?_cons_zero]; rfl) (by rfl) (fun hcl17 K hK => ?_)
            go_simp
            refine (HRB.out _ hbb2).mono ?_
            rintro e wg ⟨v8, rfl, hy8, hbg⟩
            obtain ⟨a8, c8, rfl, -, -, -, -⟩ := id hy8
            obtain ⟨l8, hl8⟩ : ∃ l, l = (seal8 P.raw).length := ⟨_, rfl⟩
            rw [← hl8] at hy8 ⊢
            clear hl8
            have hbb3 := btr hbb2 hbg
            refine hK _ _ (fun _ => ?_) ?_
            · exact ⟨HRX.out.below hbb3, HRY.out.below hbb3⟩
            clear hK K hHeld
            have hHeld := (show Row5 wg nx P (.slice ax mx cx) ∧ RowR wg ny P (.slice ay my cy) from ⟨HRX.out.below hbb3, HRY.out.below hbb3⟩)
            try simp only [Act.put, List.setIfInBounds_toArray, List.set_cons_zero, List.set_cons_succ]
            -- 17: Op.call { callee := Callee.value (Operand.func 11), args := 
            refine anyZ_oneG (i := 17) hcl17 (by kernel_rfl) (by simp only [List.getElem?_toArray, List.getElem?_cons_succ, List.getElem?_cons_zero]; rfl) (by rfl) (fun hcl18 K hK => ?_)
            go_simp
            refine (HSQ.out _ _ hbb3 hy8).mono ?_
            rintro e wh ⟨rfl, hbh⟩
            have hbb4 := btr hbb3 hbh
            refine hK _ _ (fun _ => ?_) ?_
            · exact ⟨HRX.out.below hbb4, HRY.out.below hbb4⟩
            clear hK K hHeld
            have hHeld := (show Row5 wh nx P (.slice ax mx cx) ∧ RowR wh ny P (.slice ay my cy) from ⟨HRX.out.below hbb4, HRY.out.below hbb4⟩)
            try simp only [Act.put, List.setIfInBounds_toArray, List.set_cons_zero, List.set_cons_succ]
            -- 18: Op.unOp UnOp.not 4 (Operand.tmp 123)
            refine' anyZ_pure (i := 18) (v := _) rfl (by rfl) (by kernel_rfl) (by kernel_rfl) (by kernel_rfl) hcl18 (fun _ _ _ h => h) (Or.inl ⟨by rfl, fun w _ => ?hc19⟩) (fun _ => hHeld) (fun hcl19 => ?rc19)
            case hc19 => (simp only [List.getElem_toArray, List.getElem_cons_succ, List.getElem_cons_zero]; first | (go_simp; with_reducible rfl) | (go_simp; done) | rfl)
            simp only [List.getElem_toArray, List.getElem_cons_succ, List.getElem_cons_zero, Act.put, List.setIfInBounds_toArray, List.set_cons_zero, List.set_cons_succ]
            -- 19: Op.pick (Operand.tmp 118) (Operand.tmp 124) (Operand.const (
            refine' anyZ_pure (i := 19) (v := _) rfl (by rfl) (by kernel_rfl) (by kernel_rfl) (by kernel_rfl) hcl19 (fun _ _ _ h => h) (Or.inl ⟨by rfl, fun w _ => ?hc20⟩) (fun _ => hHeld) (fun hcl20 => ?rc20)
            case hc20 => (simp only [List.getElem_toArray, List.getElem_cons_succ, List.getElem_cons_zero]; first | (go_simp; with_reducible rfl) | (go_simp; done) | rfl)
            simp only [List.getElem_toArray, List.getElem_cons_succ, List.getElem_cons_zero, Act.put, List.setIfInBounds_toArray, List.set_cons_zero, List.set_cons_succ]
            -- 20: Op.pick (Operand.tmp 115) (Operand.const (Value.bool true)) 
            refine' anyZ_pure (i := 20) (v := _) rfl (by rfl) (by kernel_rfl) (by kernel_rfl) (by kernel_rfl) hcl20 (fun _ _ _ h => h) (Or.inl ⟨by rfl, fun w _ => ?hc21⟩) (fun _ => hHeld) (fun hcl21 => ?rc21)
            case hc21 => (simp only [List.getElem_toArray, List.getElem_cons_succ, List.getElem_cons_zero]; first | (go_simp; with_reducible rfl) | (go_simp; done) | rfl)
            simp only [List.getElem_toArray, List.getElem_cons_succ, List.getElem_cons_zero, Act.put, List.setIfInBounds_toArray, List.set_cons_zero, List.set_cons_succ]
            -- 21: Op.move (Operand.tmp 126)
            refine' anyZ_pure (i := 21) (v := _) rfl (by rfl) (by kernel_rfl) (by kernel_rfl) (by kernel_rfl) hcl21 (fun _ _ _ h => h) (Or.inl ⟨by rfl, fun w _ => ?hc22⟩) (fun _ => hHeld) (fun hcl22 => ?rc22)
            case hc22 => (simp only [List.getElem_toArray, List.getElem_cons_succ, List.getElem_cons_zero]; first | (go_simp; with_reducible rfl) | (go_simp; done) | rfl)
            simp only [List.getElem_toArray, List.getElem_cons_succ, List.getElem_cons_zero, Act.put, List.setIfInBounds_toArray, List.set_cons_zero, List.set_cons_succ]
            -- 22: Op.move (Operand.tmp 16)
            refine' anyZ_pure (i := 22) (v := _) rfl (by rfl) (by kernel_rfl) (by kernel_rfl) (by kernel_rfl) hcl22 (fun _ _ _ h => h) (Or.inl ⟨by rfl, fun w _ => ?hc23⟩) (fun _ => hHeld) (fun hcl23 => ?rc23)
            case hc23 => (simp only [List.getElem_toArray, List.getElem_cons_succ, List.getElem_cons_zero]; first | (go_simp; with_reducible rfl) | (go_simp; done) | rfl)
            simp only [List.getElem_toArray, List.getElem_cons_succ, List.getElem_cons_zero, Act.put, List.setIfInBounds_toArray, List.set_cons_zero, List.set_cons_succ]
            -- 24: Op.move (Operand.tmp 16)
            refine' anyZ_pure (i := 24) (v := _) rfl (by rfl) (by kernel_rfl) (by kernel_rfl) (by kernel_rfl) hcl23 (fun _ _ _ h => h) (Or.inl ⟨by rfl, fun w _ => ?hc24⟩) (fun _ => hHeld) (fun hcl24 => ?rc24)
            case hc24 => (simp only [List.getElem_toArray, List.getElem_cons_succ, List.getElem_cons_zero]; first | (go_simp; with_reducible rfl) | (go_simp; done) | rfl)
            simp only [List.getElem_toArray, List.getElem_cons_succ, List.getElem_cons_zero, Act.put, List.setIfInBounds_toArray, List.set_cons_zero, List.set_cons_succ]
            -- 25: Op.move (Operand.tmp 16)
            refine' anyZ_pure (i := 25) (v := _) rfl (by rfl) (by kernel_rfl) (by kernel_rfl) (by kernel_rfl) hcl24 (fun _ _ _ h => h) (Or.inl ⟨by rfl, fun w _ => ?hc25⟩) (fun _ => hHeld) (fun hcl25 => ?rc25)
            case hc25 => (simp only [List.getElem_toArray, List.getElem_cons_succ, List.getElem_cons_zero]; first | (go_simp; with_reducible rfl) | (go_simp; done) | rfl)
            simp only [List.getElem_toArray, List.getElem_cons_succ, List.getElem_cons_zero, Act.put, List.setIfInBounds_toArray, List.set_cons_zero, List.set_cons_succ]
            -- 26: Op.call { callee := Callee.builtin Builtin.len, args := #[Op
            refine' anyZ_pure (i := 26) (v := _) rfl (by rfl) (by kernel_rfl) (by kernel_rfl) (by kernel_rfl) hcl25 (fun _ _ _ h => h) (Or.inl ⟨by rfl, fun w _ => ?hc26⟩) (fun _ => hHeld) (fun hcl26 => ?rc26)
            case hc26 => (simp only [List.getElem_toArray, List.getElem_cons_succ, List.getElem_cons_zero]; first | (go_simp; with_reducible rfl) | (go_simp; done) | rfl)
            simp only [List.getElem_toArray, List.getElem_cons_succ, List.getElem_cons_zero, Act.put, List.setIfInBounds_toArray, List.set_cons_zero, List.set_cons_succ]
            refine anyZ_twoG (i := 23) (j := 27) hcl26 (by kernel_rfl) (by simp only [List.getElem?_toArray, List.getElem?_cons_succ, List.getElem?_cons_zero]; rfl) (by rfl) (by simp only [List.getElem?_toArray, List.getElem?_cons_succ, List.getElem?_cons_zero]; rfl) (by rfl) (fun hcl27 K hK => ?_) (fun hcl27 K hK => ?_)
            · go_simp
              refine (HBLK.out _ hbb4).mono ?_
              rintro e wi ⟨rfl, hbi⟩
              have hbb5 := btr hbb4 hbi
              refine hK _ _ (fun _ => ⟨HRX.out.below hbb5, HRY.out.below hbb5⟩) ?_
              clear hK K
              try simp only [Act.put, List.setIfInBounds_toArray, List.set_cons_zero, List.set_cons_succ]
              refine anyZ_oneG (i := 27) hcl27 (by kernel_rfl) (by simp only [List.getElem?_toArray, List.getElem?_cons_succ, List.getElem?_cons_zero]; rfl) (by rfl) (fun hcl28 K hK => ?_)
              refine wp_make8 _ _ 23 5 make8 rfl lq rfl rfl (by omega) ?_
              intro wj hmj hbj
              have hbb6 := btr hbb5 hbj
              refine hK _ _ (fun _ => ⟨HRX.out.below hbb6, HRY.out.below hbb6⟩) ?_
              clear hK K
              try simp only [Act.put, List.setIfInBounds_toArray, List.set_cons_zero, List.set_cons_succ]
              refine anyZ_chain_at (by kernel_rfl) ?_
              simp only [List.drop_succ_cons, List.drop_zero]
              go_wp2_with fail
              refine (HSN.out _ _ hbb6 hmj.bytes).mono ?_
              rintro e wk ⟨rfl, hbk⟩
              have hbF := btr hbb6 hbk
              go_wp2_with fail
              go_meet
              case rel => exact ⟨rfl, hbF⟩
            · refine wp_make8 _ _ 23 5 make8 rfl lq rfl rfl (by omega) ?_
              intro wj hmj hbj
              have hbb5 := btr hbb4 hbj
              refine hK _ _ (fun _ => ⟨HRX.out.below hbb5, HRY.out.below hbb5⟩) ?_
              clear hK K
              try simp only [Act.put, List.setIfInBounds_toArray, List.set_cons_zero, List.set_cons_succ]
              refine anyZ_oneG (i := 23) hcl27 (by kernel_rfl) (by simp only [List.getElem?_toArray, List.getElem?_cons_succ, List.getElem?_cons_zero]; rfl) (by rfl) (fun hcl28 K hK => ?_)
              go_simp
              refine (HBLK.out _ hbb5).mono ?_
              rintro e wi ⟨rfl, hbi⟩
              have hbb6 := btr hbb5 hbi
              refine hK _ _ (fun _ => ⟨HRX.out.below hbb6, HRY.out.below hbb6⟩) ?_
              clear hK K
              try simp only [Act.put, List.setIfInBounds_toArray, List.set_cons_zero, List.set_cons_succ]
              refine anyZ_chain_at (by kernel_rfl) ?_
              simp only [List.drop_succ_cons, List.drop_zero]
              go_wp2_with fail
              refine (HSN.out _ _ hbb6 (hmj.bytes.below hbi)).mono ?_
              rintro e wk ⟨rfl, hbk⟩
              have hbF := btr hbb6 hbk
              go_wp2_with fail
              go_meet
              case rel => exact ⟨rfl, hbF⟩
          · have hk1 : (fe == 0) = false := beq_false_of_ne hf0
            have hk2 : decide (fe = 0) = false := decide_eq_false hf0
            clear hf0
            refine region_anyZ (z := 28) (S := fun w' => Row5 w' nx P (.slice ax mx cx) ∧ RowR w' ny P (.slice ay my cy)) (by kernel_rfl) ?_
            refine anyZ_begin (fun hcl0 => ?_)
            refine anyZ_held (by exact ⟨HRX.out.below (bdr (bre wd)), HRY.out.below (bdr (bre wd))⟩) (fun hHeld => ?_)
            -- 0: Op.move (Operand.tmp 18)
            refine' anyZ_pure (i := 0) (v := _) rfl (by rfl) (by kernel_rfl) (by kernel_rfl) (by kernel_rfl) hcl0 (fun _ _ _ h => h) (Or.inl ⟨by rfl, fun w _ => ?hd1⟩) (fun _ => hHeld) (fun hcl1 => ?rd1)
            case hd1 => (simp only [List.getElem_toArray, List.getElem_cons_zero]; first | (go_simp; with_reducible rfl) | (go_simp; done) | rfl)
            simp only [List.getElem_toArray, List.getElem_cons_zero, Act.put, List.setIfInBounds_toArray, List.set_cons_zero, List.set_cons_succ]
            -- 1: Op.move (Operand.tmp 20)
            refine' anyZ_pure (i := 1) (v := _) rfl (by rfl) (by kernel_rfl) (by kernel_rfl) (by kernel_rfl) hcl1 (fun _ _ _ h => h) (Or.inl ⟨by rfl, fun w _ => ?hd2⟩) (fun _ => hHeld) (fun hcl2 => ?rd2)
            case hd2 => (simp only [List.getElem_toArray, List.getElem_cons_succ, List.getElem_cons_zero]; first | (go_simp; with_reducible rfl) | (go_simp; done) | rfl)
            simp only [List.getElem_toArray, List.getElem_cons_succ, List.getElem_cons_zero, Act.put, List.setIfInBounds_toArray, List.set_cons_zero, List.set_cons_succ]
            -- 2: Op.binOp BinOp.neq 3 (Operand.tmp 106) (Operand.tmp 107) 3
            refine' anyZ_pure (i := 2) (v := _) rfl (by rfl) (by kernel_rfl) (by kernel_rfl) (by kernel_rfl) hcl2 (fun _ _ _ h => h) (Or.inl ⟨by rfl, fun w _ => ?hd3⟩) (fun _ => hHeld) (fun hcl3 => ?rd3)
            case hd3 => (simp only [List.getElem_toArray, List.getElem_cons_succ, List.getElem_cons_zero]; first | (go_simp; with_reducible rfl) | (go_simp; done) | rfl)
            simp only [List.getElem_toArray, List.getElem_cons_succ, List.getElem_cons_zero, Act.put, List.setIfInBounds_toArray, List.set_cons_zero, List.set_cons_succ]
            -- 3: Op.move (Operand.tmp 108)
            refine' anyZ_pure (i := 3) (v := _) rfl (by rfl) (by kernel_rfl) (by kernel_rfl) (by kernel_rfl) hcl3 (fun _ _ _ h => h) (Or.inl ⟨by rfl, fun w _ => ?hd4⟩) (fun _ => hHeld) (fun hcl4 => ?rd4)
            case hd4 => (simp only [List.getElem_toArray, List.getElem_cons_succ, List.getElem_cons_zero]; first | (go_simp; with_reducible rfl) | (go_simp; done) | rfl)
            simp only [List.getElem_toArray, List.getElem_cons_succ, List.getElem_cons_zero, Act.put, List.setIfInBounds_toArray, List.set_cons_zero, List.set_cons_succ]
            -- 4: Op.load 25 (Operand.tmp 17)
            refine' anyZ_take (i := 4) (v := _) rfl (by rfl) (by kernel_rfl) (by kernel_rfl) (by kernel_rfl) hcl4 7 (by kernel_rfl) (by kernel_rfl) (fun _ _ _ h => h) (Or.inl ⟨by rfl, fun w hSw => ?hd5⟩) hHeld (fun hcl5 => ?rd5)
            case hd5 => (simp only [List.getElem_toArray, List.getElem_cons_succ, List.getElem_cons_zero]; obtain ⟨hS1, hS2⟩ := hSw; have x0 := hS1.c0; have x1 := hS1.c1; have x2 := hS1.c2; have x3 := hS1.c3; have x4 := hS1.c4; have y0 := hS2.c0; have y1 := hS2.c1; have y2 := hS2.c2; have y3 := hS2.c3; have y4 := hS2.c4; first | (go_simp; with_reducible rfl) | (go_simp; done) | rfl)
            simp only [List.getElem_toArray, List.getElem_cons_succ, List.getElem_cons_zero, Act.put, List.setIfInBounds_toArray, List.set_cons_zero, List.set_cons_succ]
            -- 5: Op.load 34 (Operand.tmp 19)
            refine' anyZ_take (i := 5) (v := _) rfl (by rfl) (by kernel_rfl) (by kernel_rfl) (by kernel_rfl) hcl5 7 (by kernel_rfl) (by kernel_rfl) (fun _ _ _ h => h) (Or.inl ⟨by rfl, fun w hSw => ?hd6⟩) hHeld (fun hcl6 => ?rd6)
            case hd6 => (simp only [List.getElem_toArray, List.getElem_cons_succ, List.getElem_cons_zero]; obtain ⟨hS1, hS2⟩ := hSw; have x0 := hS1.c0; have x1 := hS1.c1; have x2 := hS1.c2; have x3 := hS1.c3; have x4 := hS1.c4; have y0 := hS2.c0; have y1 := hS2.c1; have y2 := hS2.c2; have y3 := hS2.c3; have y4 := hS2.c4; first | (go_simp; with_reducible rfl) | (go_simp; done) | rfl)
            simp only [List.getElem_toArray, List.getElem_cons_succ, List.getElem_cons_zero, Act.put, List.setIfInBounds_toArray, List.set_cons_zero, List.set_cons_succ]
            -- 6: Op.call { callee := Callee.value (Operand.func 20), args := 
            refine anyZ_oneG (i := 6) hcl6 (by kernel_rfl) (by simp only [List.getElem?_toArray, List.getElem?_cons_succ, List.getElem?_cons_zero]; rfl) (by rfl) (fun hcl7 K hK => ?_)
            go_simp
            refine (HLK.out _ (bdr (bre wd))).mono ?_
            rintro e we ⟨rfl, hbe⟩
            have hbb1 := btr (bdr (bre wd)) hbe
            refine hK _ _ (fun _ => ?_) ?_
            · exact ⟨HRX.out.below hbb1, HRY.out.below hbb1⟩
            clear hK K hHeld
            have hHeld := (show Row5 we nx P (.slice ax mx cx) ∧ RowR we ny P (.slice ay my cy) from ⟨HRX.out.below hbb1, HRY.out.below hbb1⟩)
            try simp only [Act.put, List.setIfInBounds_toArray, List.set_cons_zero, List.set_cons_succ]
            -- 7: Op.unOp UnOp.not 4 (Operand.tmp 112)
            refine' anyZ_pure (i := 7) (v := _) rfl (by rfl) (by kernel_rfl) (by kernel_rfl) (by kernel_rfl) hcl7 (fun _ _ _ h => h) (Or.inl ⟨by rfl, fun w _ => ?hd8⟩) (fun _ => hHeld) (fun hcl8 => ?rd8)
            case hd8 => (simp only [List.getElem_toArray, List.getElem_cons_succ, List.getElem_cons_zero]; first | (go_simp; with_reducible rfl) | (go_simp; done) | rfl)
            simp only [List.getElem_toArray, List.getElem_cons_succ, List.getElem_cons_zero, Act.put, List.setIfInBounds_toArray, List.set_cons_zero, List.set_cons_succ]
            -- 8: Op.pick (Operand.tmp 109) (Operand.const (Value.bool true)) 
            refine' anyZ_pure (i := 8) (v := _) rfl (by rfl) (by kernel_rfl) (by kernel_rfl) (by kernel_rfl) hcl8 (fun _ _ _ h => h) (Or.inl ⟨by rfl, fun w _ => ?hd9⟩) (fun _ => hHeld) (fun hcl9 => ?rd9)
            case hd9 => (simp only [List.getElem_toArray, List.getElem_cons_succ, List.getElem_cons_zero]; first | (go_simp; with_reducible rfl) | (go_simp; done) | rfl)
            simp only [List.getElem_toArray, List.getElem_cons_succ, List.getElem_cons_zero, Act.put, List.setIfInBounds_toArray, List.set_cons_zero, List.set_cons_succ]
            -- 9: Op.move (Operand.tmp 114)
            refine' anyZ_pure (i := 9) (v := _) rfl (by rfl) (by kernel_rfl) (by kernel_rfl) (by kernel_rfl) hcl9 (fun _ _ _ h => h) (Or.inl ⟨by rfl, fun w _ => ?hd10⟩) (fun _ => hHeld) (fun hcl10 => ?rd10)
            case hd10 => (simp only [List.getElem_toArray, List.getElem_cons_succ, List.getElem_cons_zero]; first | (go_simp; with_reducible rfl) | (go_simp; done) | rfl)
            simp only [List.getElem_toArray, List.getElem_cons_succ, List.getElem_cons_zero, Act.put, List.setIfInBounds_toArray, List.set_cons_zero, List.set_cons_succ]
            -- 10: Op.move (Operand.tmp 18)
            refine' anyZ_pure (i := 10) (v := _) rfl (by rfl) (by kernel_rfl) (by kernel_rfl) (by kernel_rfl) hcl10 (fun _ _ _ h => h) (Or.inl ⟨by rfl, fun w _ => ?hd11⟩) (fun _ => hHeld) (fun hcl11 => ?rd11)
            case hd11 => (simp only [List.getElem_toArray, List.getElem_cons_succ, List.getElem_cons_zero]; first | (go_simp; with_reducible rfl) | (go_simp; done) | rfl)
            simp only [List.getElem_toArray, List.getElem_cons_succ, List.getElem_cons_zero, Act.put, List.setIfInBounds_toArray, List.set_cons_zero, List.set_cons_succ]
            -- 11: Op.binOp BinOp.eql 29 (Operand.tmp 116) (Operand.const (Valu
            refine' anyZ_pure (i := 11) (v := _) rfl (by rfl) (by kernel_rfl) (by kernel_rfl) (by kernel_rfl) hcl11 (fun _ _ _ h => h) (Or.inl ⟨by rfl, fun w _ => ?hd12⟩) (fun _ => hHeld) (fun hcl12 => ?rd12)
            case hd12 => (simp only [List.getElem_toArray, List.getElem_cons_succ, List.getElem_cons_zero]; first | (go_simp; with_reducible rfl) | (go_simp; done) | rfl)
            simp only [List.getElem_toArray, List.getElem_cons_succ, List.getElem_cons_zero, Act.put, List.setIfInBounds_toArray, List.set_cons_zero, List.set_cons_succ]
            -- 12: Op.move (Operand.tmp 117)
            refine' anyZ_pure (i := 12) (v := _) rfl (by rfl) (by kernel_rfl) (by kernel_rfl) (by kernel_rfl) hcl12 (fun _ _ _ h => h) (Or.inl ⟨by rfl, fun w _ => ?hd13⟩) (fun _ => hHeld) (fun hcl13 => ?rd13)
            case hd13 => (simp only [List.getElem_toArray, List.getElem_cons_succ, List.getElem_cons_zero]; first | (go_simp; with_reducible rfl) | (go_simp; done) | rfl)
            simp only [List.getElem_toArray, List.getElem_cons_succ, List.getElem_cons_zero, Act.put, List.setIfInBounds_toArray, List.set_cons_zero, List.set_cons_succ]
            -- 13 (not wanted): Op.load 25 (Operand.tmp 17)
            refine' anyZ_pure (i := 13) (v := undef) rfl (by rfl) (by kernel_rfl) (by kernel_rfl) (by kernel_rfl) hcl13 (fun _ _ _ h => h) (Or.inr ⟨by rfl, rfl⟩) (fun _ => hHeld) (fun hcl14 => ?rd14)
            simp only [Act.put, List.setIfInBounds_toArray, List.set_cons_zero, List.set_cons_succ]
            -- 14 (not wanted): Op.call { callee := Callee.value (Operand.func 13), args := 
            refine' anyZ_pure (i := 14) (v := undef) rfl (by rfl) (by kernel_rfl) (by kernel_rfl) (by kernel_rfl) hcl14 (fun _ _ _ h => h) (Or.inr ⟨by rfl, rfl⟩) (fun _ => hHeld) (fun hcl15 => ?rd15)
            simp only [Act.put, List.setIfInBounds_toArray, List.set_cons_zero, List.set_cons_succ]
            -- 15 (not wanted): Op.call { callee := Callee.value (Operand.func 12), args := 
            refine' anyZ_pure (i := 15) (v := undef) rfl (by rfl) (by kernel_rfl) (by kernel_rfl) (by kernel_rfl) hcl15 (fun _ _ _ h => h) (Or.inr ⟨by rfl, rfl⟩) (fun _ => hHeld) (fun hcl16 => ?rd16)
            simp only [Act.put, List.setIfInBounds_toArray, List.set_cons_zero, List.set_cons_succ]
            -- 16 (not wanted): Op.move (Operand.tmp 16)
            refine anyZ_oneSkip (i := 16) hcl16 (by kernel_rfl) (by simp only [List.getElem?_toArray, List.getElem?_cons_succ, List.getElem?_cons_zero]; rfl) (by rfl) (fun _ => hHeld) (fun hcl17 => ?_)
            simp only [Act.put, List.setIfInBounds_toArray, List.set_cons_zero, List.set_cons_succ]
            -- 17 (not wanted): Op.call { callee := Callee.value (Operand.func 11), args := 
            refine anyZ_oneSkip (i := 17) hcl17 (by kernel_rfl) (by simp only [List.getElem?_toArray, List.getElem?_cons_succ, List.getElem?_cons_zero]; rfl) (by rfl) (fun _ => hHeld) (fun hcl18 => ?_)
            simp only [Act.put, List.setIfInBounds_toArray, List.set_cons_zero, List.set_cons_succ]
            -- 18 (not wanted): Op.unOp UnOp.not 4 (Operand.tmp 123)
            refine anyZ_oneSkip (i := 18) hcl18 (by kernel_rfl) (by simp only [List.getElem?_toArray, List.getElem?_cons_succ, List.getElem?_cons_zero]; rfl) (by rfl) (fun _ => hHeld) (fun hcl19 => ?_)
            simp only [Act.put, List.setIfInBounds_toArray, List.set_cons_zero, List.set_cons_succ]
            -- 19: Op.pick (Operand.tmp 118) (Operand.tmp 124) (Operand.const (
            refine' anyZ_pure (i := 19) (v := _) rfl (by rfl) (by kernel_rfl) (by kernel_rfl) (by kernel_rfl) hcl19 (fun _ _ _ h => h) (Or.inl ⟨by rfl, fun w _ => ?hd20⟩) (fun _ => hHeld) (fun hcl20 => ?rd20)
            case hd20 => (simp only [List.getElem_toArray, List.getElem_cons_succ, List.getElem_cons_zero]; first | (go_simp; with_reducible rfl) | (go_simp; done) | rfl)
            simp only [List.getElem_toArray, List.getElem_cons_succ, List.getElem_cons_zero, Act.put, List.setIfInBounds_toArray, List.set_cons_zero, List.set_cons_succ]
            -- 20: Op.pick (Operand.tmp 115) (Operand.const (Value.bool true)) 
            refine' anyZ_pure (i := 20) (v := _) rfl (by rfl) (by kernel_rfl) (by kernel_rfl) (by kernel_rfl) hcl20 (fun _ _ _ h => h) (Or.inl ⟨by rfl, fun w _ => ?hd21⟩) (fun _ => hHeld) (fun hcl21 => ?rd21)
            case hd21 => (simp only [List.getElem_toArray, List.getElem_cons_succ, List.getElem_cons_zero]; first | (go_simp; with_reducible rfl) | (go_simp; done) | rfl)
            simp only [List.getElem_toArray, List.getElem_cons_succ, List.getElem_cons_zero, Act.put, List.setIfInBounds_toArray, List.set_cons_zero, List.set_cons_succ]
            -- 21: Op.move (Operand.tmp 126)
            refine' anyZ_pure (i := 21) (v := _) rfl (by rfl) (by kernel_rfl) (by kernel_rfl) (by kernel_rfl) hcl21 (fun _ _ _ h => h) (Or.inl ⟨by rfl, fun w _ => ?hd22⟩) (fun _ => hHeld) (fun hcl22 => ?rd22)
            case hd22 => (simp only [List.getElem_toArray, List.getElem_cons_succ, List.getElem_cons_zero]; first | (go_simp; with_reducible rfl) | (go_simp; done) | rfl)
            simp only [List.getElem_toArray, List.getElem_cons_succ, List.getElem_cons_zero, Act.put, List.setIfInBounds_toArray, List.set_cons_zero, List.set_cons_succ]
            -- 22: Op.move (Operand.tmp 16)
            refine' anyZ_pure (i := 22) (v := _) rfl (by rfl) (by kernel_rfl) (by kernel_rfl) (by kernel_rfl) hcl22 (fun _ _ _ h => h) (Or.inl ⟨by rfl, fun w _ => ?hd23⟩) (fun _ => hHeld) (fun hcl23 => ?rd23)
            case hd23 => (simp only [List.getElem_toArray, List.getElem_cons_succ, List.getElem_cons_zero]; first | (go_simp; with_reducible rfl) | (go_simp; done) | rfl)
            simp only [List.getElem_toArray, List.getElem_cons_succ, List.getElem_cons_zero, Act.put, List.setIfInBounds_toArray, List.set_cons_zero, List.set_cons_succ]
            -- 24: Op.move (Operand.tmp 16)
            refine' anyZ_pure (i := 24) (v := _) rfl (by rfl) (by kernel_rfl) (by kernel_rfl) (by kernel_rfl) hcl23 (fun _ _ _ h => h) (Or.inl ⟨by rfl, fun w _ => ?hd24⟩) (fun _ => hHeld) (fun hcl24 => ?rd24)
            case hd24 => (simp only [List.getElem_toArray, List.getElem_cons_succ, List.getElem_cons_zero]; first | (go_simp; with_reducible rfl) | (go_simp; done) | rfl)
            simp only [List.getElem_toArray, List.getElem_cons_succ, List.getElem_cons_zero, Act.put, List.setIfInBounds_toArray, List.set_cons_zero, List.set_cons_succ]
            -- 25: Op.move (Operand.tmp 16)
            refine' anyZ_pure (i := 25) (v := _) rfl (by rfl) (by kernel_rfl) (by kernel_rfl) (by kernel_rfl) hcl24 (fun _ _ _ h => h) (Or.inl ⟨by rfl, fun w _ => ?hd25⟩) (fun _ => hHeld) (fun hcl25 => ?rd25)
            case hd25 => (simp only [List.getElem_toArray, List.getElem_cons_succ, List.getElem_cons_zero]; first | (go_simp; with_reducible rfl) | (go_simp; done) | rfl)
            simp only [List.getElem_toArray, List.getElem_cons_succ, List.getElem_cons_zero, Act.put, List.setIfInBounds_toArray, List.set_cons_zero, List.set_cons_succ]
            -- 26: Op.call { callee := Callee.builtin Builtin.len, args := #[Op
            refine' anyZ_pure (i := 26) (v := _) rfl (by rfl) (by kernel_rfl) (by kernel_rfl) (by kernel_rfl) hcl25 (fun _ _ _ h => h) (Or.inl ⟨by rfl, fun w _ => ?hd26⟩) (fun _ => hHeld) (fun hcl26 => ?rd26)
            case hd26 => (simp only [List.getElem_toArray, List.getElem_cons_succ, List.getElem_cons_zero]; first | (go_simp; with_reducible rfl) | (go_simp; done) | rfl)
            simp only [List.getElem_toArray, List.getElem_cons_succ, List.getElem_cons_zero, Act.put, List.setIfInBounds_toArray, List.set_cons_zero, List.set_cons_succ]
            refine anyZ_twoG (i := 23) (j := 27) hcl26 (by kernel_rfl) (by simp only [List.getElem?_toArray, List.getElem?_cons_succ, List.getElem?_cons_zero]; rfl) (by rfl) (by simp only [List.getElem?_toArray, List.getElem?_cons_succ, List.getElem?_cons_zero]; rfl) (by rfl) (fun hcl27 K hK => ?_) (fun hcl27 K hK => ?_)
            · go_simp
              refine (HBLK.out _ hbb1).mono ?_
              rintro e wi ⟨rfl, hbi⟩
              have hbb5 := btr hbb1 hbi
              refine hK _ _ (fun _ => ⟨HRX.out.below hbb5, HRY.out.below hbb5⟩) ?_
              clear hK K
              try simp only [Act.put, List.setIfInBounds_toArray, List.set_cons_zero, List.set_cons_succ]
              refine anyZ_oneG (i := 27) hcl27 (by kernel_rfl) (by simp only [List.getElem?_toArray, List.getElem?_cons_succ, List.getElem?_cons_zero]; rfl) (by rfl) (fun hcl28 K hK => ?_)
              refine wp_make8 _ _ 23 5 make8 rfl lq rfl rfl (by omega) ?_
              intro wj hmj hbj
              have hbb6 := btr hbb5 hbj
              refine hK _ _ (fun _ => ⟨HRX.out.below hbb6, HRY.out.below hbb6⟩) ?_
              clear hK K
              try simp only [Act.put, List.setIfInBounds_toArray, List.set_cons_zero, List.set_cons_succ]
              refine anyZ_chain_at (by kernel_rfl) ?_
              simp only [List.drop_succ_cons, List.drop_zero]
              go_wp2_with fail
              refine (HSN.out _ _ hbb6 hmj.bytes).mono ?_
              rintro e wk ⟨rfl, hbk⟩
              have hbF := btr hbb6 hbk
              go_wp2_with fail
              go_meet
              case rel => exact ⟨rfl, hbF⟩
            · refine wp_make8 _ _ 23 5 make8 rfl lq rfl rfl (by omega) ?_
              intro wj hmj hbj
              have hbb5 := btr hbb1 hbj
              refine hK _ _ (fun _ => ⟨HRX.out.below hbb5, HRY.out.below hbb5⟩) ?_
              clear hK K
              try simp only [Act.put, List.setIfInBounds_toArray, List.set_cons_zero, List.set_cons_succ]
              refine anyZ_oneG (i := 23) hcl27 (by kernel_rfl) (by simp only [List.getElem?_toArray, List.getElem?_cons_succ, List.getElem?_cons_zero]; rfl) (by rfl) (fun hcl28 K hK => ?_)
              go_simp
              refine (HBLK.out _ hbb5).mono ?_
              rintro e wi ⟨rfl, hbi⟩
              have hbb6 := btr hbb5 hbi
              refine hK _ _ (fun _ => ⟨HRX.out.below hbb6, HRY.out.below hbb6⟩) ?_
              clear hK K
              try simp only [Act.put, List.setIfInBounds_toArray, List.set_cons_zero, List.set_cons_succ]
              refine anyZ_chain_at (by kernel_rfl) ?_
              simp only [List.drop_succ_cons, List.drop_zero]
              go_wp2_with fail
              refine (HSN.out _ _ hbb6 (hmj.bytes.below hbi)).mono ?_
              rintro e wk ⟨rfl, hbk⟩
              have hbF := btr hbb6 hbk
              go_wp2_with fail
              go_meet
              case rel => exact ⟨rfl, hbF⟩
        case rest =>
        obtain ⟨rfl, hbz⟩ := hcut
        rename World => wz
        have HBZ := Lib.hid (HBD.out.trans (hbz.mono HBD.out.size))
        clear hbz
        go_wp2_with fail
        go_roundw
        case rel => exact ⟨j + 1, by omega, by go_num, HBZ.out⟩
        case measure => simp [intOf]; try omega
      · have e5 : j = 5 := by omega
        subst e5
        have HQ18 := Lib.hid (HQ17.out.below hbr)
        have HYA18 := Lib.hid (HYA17.out.below hbr)
        have HB18 := Lib.hid (HB17.out.trans (hbr.mono HB17.out.size))
        clear hbr hlt hj HQ17 HYA17 HB17 HRL
        go_upto_region 26 with fail
        have hfb : decide (PA.data.length = 491) = ((m2 : Int) == 491) := by
          rw [HM2.out, HLD.out]
          by_cases h : PA.data.length = 491
          · rw [h]; rfl
          · rw [decide_eq_false h]; exact (beq_false_of_ne (by omega)).symm
        obtain ⟨fb, hfb1⟩ : ∃ x, x = ((m2 : Int) == 491) := ⟨_, rfl⟩
        rw [← hfb1] at hfb
        have hs0 : (wr.cell? ⟨n2, 0, none⟩ = some (.int .u32 PA.gen) ∧ wr.cell? ⟨n2, 1, none⟩ = some (.int .u32 PA.serial) ∧ wr.cell? ⟨n2, 2, none⟩ = some (.int .u32 PA.number) ∧ wr.cell? ⟨n2, 3, none⟩ = some (.int .u8 PA.kind) ∧ wr.cell? ⟨n2, 4, none⟩ = some (.slice a2 m2 c2)) := ⟨HQ18.out.c0, HQ18.out.c1, HQ18.out.c2, HQ18.out.c3, HQ18.out.c4⟩
        have HSBL : Hid (∀ w', Below wr.heap.size wr w' → (w'.cell? ⟨n2, 0, none⟩ = some (.int .u32 PA.gen) ∧ w'.cell? ⟨n2, 1, none⟩ = some (.int .u32 PA.serial) ∧ w'.cell? ⟨n2, 2, none⟩ = some (.int .u32 PA.number) ∧ w'.cell? ⟨n2, 3, none⟩ = some (.int .u8 PA.kind) ∧ w'.cell? ⟨n2, 4, none⟩ = some (.slice a2 m2 c2))) := Lib.hid (fun w' hb => ⟨(HQ18.out.below hb).c0, (HQ18.out.below hb).c1, (HQ18.out.below hb).c2, (HQ18.out.below hb).c3, (HQ18.out.below hb).c4⟩)
        have HFULL : Hid (∀ w', Below wr.heap.size wr w' → Calls Tryd.prog 22 #[.agg #[.int .u32 PA.gen, .int .u32 PA.serial, .int .u32 PA.number, .int .u8 PA.kind, .slice a2 m2 c2]] w' fun e w'' => e = .returned (.bool fb) ∧ Below w'.heap.size w' w'') := Lib.hid (fun w' hb => (pfull_any _ PA w' (PgAt.mk' (HYA18.out.below hb))).mono (fun e w2 h => ⟨by rw [h.1, hfb], h.2⟩))
        have hfb2 := hfb1.symm
        clear hfb hfb1
        go_region_held3 (fun w' => (w'.cell? ⟨n2, 0, none⟩ = some (.int .u32 PA.gen) ∧ w'.cell? ⟨n2, 1, none⟩ = some (.int .u32 PA.serial) ∧ w'.cell? ⟨n2, 2, none⟩ = some (.int .u32 PA.number) ∧ w'.cell? ⟨n2, 3, none⟩ = some (.int .u8 PA.kind) ∧ w'.cell? ⟨n2, 4, none⟩ = some (.slice a2 m2 c2))) (first | exact hs0 | (with_reducible exact HSBL.out _ hbb1) | exact HSBL.out _ (bdr (bre wr))) (first | (go_at_call 22; refine (HFULL.out _ (bdr (bre wr))).mono ?_; rintro e wz ⟨rfl, hbz⟩; have hbb1 := btr (bdr (bre wr)) hbz))
        clear hs0 HSBL HFULL
        go_wp2_with fail
        go_ret
        exact ⟨rfl, HB18.out.trans (hbb1.mono HB18.out.size)⟩
  have st3_6_ : ∀ (a86 : Option Addr) (c86 : Nat) (a89 : Option Addr) (c89 : Nat) (w1 : World), Below w16.heap.size w16 w1 → Bytes w1 (.slice a86 512 c86) (fullOf raw) → Bytes w1 (.slice a89 512 c89) (List.replicate 512 0) → T 3 #[true, true, true, true, true, false, true, false, false, true] ((A.put (some 86) (.slice a86 512 c86)).put (some 89) (.slice a89 512 c89)) w1 := by
    intro a86 c86 a89 c89 w1 hb f86 f89
    refine HT _ _ _ _ [5] (by rw [HR]; kernel_rfl) (by decide) ?_
    refine List.forall_mem_cons.2 ⟨?_, fun _ h => by cases h⟩
    · refine M5 _ _ _ hb (by rw [eval_put _ 89 87 _ (by decide), eval_put _ 86 87 _ (by decide)]; exact E87) (fun a88 m88 c88 w2 hf hb2 => ⟨fun _ => HSB.out w2 (btr hb hb2), ?_⟩)
      rw [show (#[true, true, true, true, true, false, true, false, false, true] : Array Bool).setIfInBounds 5 true = #[true, true, true, true, true, true, true, false, false, true] from by kernel_rfl, put_swap _ 89 88 _ _ (by decide)]
      exact st3_5_6_ a86 c86 a88 m88 c88 a89 c89 w2 (btr hb hb2) (f86.below hb2) hf (f89.below hb2)
  have st3_5_ : ∀ (a86 : Option Addr) (c86 : Nat) (a88 : Option Addr) (m88 c88 : Nat) (w1 : World), Below w16.heap.size w16 w1 → Bytes w1 (.slice a86 512 c86) (fullOf raw) → Bytes w1 (.slice a88 m88 c88) (raw.take 600) → T 3 #[true, true, true, true, true, true, false, false, false, true] ((A.put (some 86) (.slice a86 512 c86)).put (some 88) (.slice a88 m88 c88)) w1 := by
    intro a86 c86 a88 m88 c88 w1 hb f86 f88
    refine HT _ _ _ _ [6] (by rw [HR]; kernel_rfl) (by decide) ?_
    refine List.forall_mem_cons.2 ⟨?_, fun _ h => by cases h⟩
    · refine M6 _ _ _  (fun a89 c89 w2 hf hb2 => ⟨fun _ => HSB.out w2 (btr hb hb2), ?_⟩)
      rw [show (#[true, true, true, true, true, true, false, false, false, true] : Array Bool).setIfInBounds 6 true = #[true, true, true, true, true, true, true, false, false, true] from by kernel_rfl]
      exact st3_5_6_ a86 c86 a88 m88 c88 a89 c89 w2 (btr hb hb2) (f86.below hb2) (f88.below hb2) hf
  have st3_ : ∀ (a86 : Option Addr) (c86 : Nat) (w1 : World), Below w16.heap.size w16 w1 → Bytes w1 (.slice a86 512 c86) (fullOf raw) → T 4 #[true, true, true, true, true, false, false, false, false, true] (A.put (some 86) (.slice a86 512 c86)) w1 := by
    intro a86 c86 w1 hb f86
    refine HT _ _ _ _ [5, 6] (by rw [HR]; kernel_rfl) (by decide) ?_
    refine List.forall_mem_cons.2 ⟨?_, List.forall_mem_cons.2 ⟨?_, fun _ h => by cases h⟩⟩
    · refine M5 _ _ _ hb (by rw [eval_put _ 86 87 _ (by decide)]; exact E87) (fun a88 m88 c88 w2 hf hb2 => ⟨fun _ => HSB.out w2 (btr hb hb2), ?_⟩)
      rw [show (#[true, true, true, true, true, false, false, false, false, true] : Array Bool).setIfInBounds 5 true = #[true, true, true, true, true, true, false, false, false, true] from by kernel_rfl]
      exact st3_5_ a86 c86 a88 m88 c88 w2 (btr hb hb2) (f86.below hb2) hf
    · refine M6 _ _ _  (fun a89 c89 w2 hf hb2 => ⟨fun _ => HSB.out w2 (btr hb hb2), ?_⟩)
      rw [show (#[true, true, true, true, true, false, false, false, false, true] : Array Bool).setIfInBounds 6 true = #[true, true, true, true, true, false, true, false, false, true] from by kernel_rfl]
      exact st3_6_ a86 c86 a89 c89 w2 (btr hb hb2) (f86.below hb2) hf
  have st6_ : ∀ (a89 : Option Addr) (c89 : Nat) (w1 : World), Below w16.heap.size w16 w1 → Bytes w1 (.slice a89 512 c89) (List.replicate 512 0) → T 4 #[true, true, true, false, true, false, true, false, false, true] (A.put (some 89) (.slice a89 512 c89)) w1 := by
    intro a89 c89 w1 hb f89
    refine HT _ _ _ _ [3] (by rw [HR]; kernel_rfl) (by decide) ?_
    refine List.forall_mem_cons.2 ⟨?_, fun _ h => by cases h⟩
    · refine M3 _ _ _ hb (by rw [eval_put _ 89 85 _ (by decide)]; exact E85) (fun a86 c86 w2 hf hb2 => ⟨fun _ => HSB.out w2 (btr hb hb2), ?_⟩)
      rw [show (#[true, true, true, false, true, false, true, false, false, true] : Array Bool).setIfInBounds 3 true = #[true, true, true, true, true, false, true, false, false, true] from by kernel_rfl, put_swap _ 89 86 _ _ (by decide)]
      exact st3_6_ a86 c86 a89 c89 w2 (btr hb hb2) hf (f89.below hb2)
  have st : ∀  (w1 : World), Below w16.heap.size w16 w1 → T 5 #[true, true, true, false, true, false, false, false, false, true] A w1 := by
    intro  w1 hb 
    refine HT _ _ _ _ [3, 6] (by rw [HR]; kernel_rfl) (by decide) ?_
    refine List.forall_mem_cons.2 ⟨?_, List.forall_mem_cons.2 ⟨?_, fun _ h => by cases h⟩⟩
    · refine M3 _ _ _ hb (by exact E85) (fun a86 c86 w2 hf hb2 => ⟨fun _ => HSB.out w2 (btr hb hb2), ?_⟩)
      rw [show (#[true, true, true, false, true, false, false, false, false, true] : Array Bool).setIfInBounds 3 true = #[true, true, true, true, true, false, false, false, false, true] from by kernel_rfl]
      exact st3_ a86 c86 w2 (btr hb hb2) hf
    · refine M6 _ _ _  (fun a89 c89 w2 hf hb2 => ⟨fun _ => HSB.out w2 (btr hb hb2), ?_⟩)
      rw [show (#[true, true, true, false, true, false, false, false, false, true] : Array Bool).setIfInBounds 6 true = #[true, true, true, false, true, false, true, false, false, true] from by kernel_rfl]
      exact st6_ a89 c89 w2 (btr hb hb2) hf
  exact st _ (bdr (bre w16))
end Go.Proofs.YtbdjjjnajkeceaaDoor
