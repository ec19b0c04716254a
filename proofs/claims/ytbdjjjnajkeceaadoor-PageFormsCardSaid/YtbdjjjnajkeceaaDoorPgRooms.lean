/- PageRooms, the walk. -/
import Derived.Test.YtbdjjjnajkeceaaDoorPgSame
namespace Go.Proofs.YtbdjjjnajkeceaaDoor
open Go.RowKit

theorem run_make8u {P : Program} (w : World) {t e : TypeId} (T : MakeTy P t e) (n : Nat) (hn : n ≤ 1000000) :
    ∃ w', (Instr.makeSlice t (.int .u16 n) (.int .u16 n)).run P w = .ok (.slice (some ⟨w.heap.size, 0, none⟩) n n) w' ∧ Own8 e w.heap.size w' (.slice (some ⟨w.heap.size, 0, none⟩) n n) (List.replicate n 0) ∧ Below w.heap.size w w' := by
  obtain ⟨i, hi, hz, hs, hb⟩ := T.ex
  obtain ⟨w', hrun, r1, r2⟩ := run_make_full (P := P) w w.heap.size t e i (.int .u8 0) 1 T.ht hi hz hs .u16 .u16 n (by rw [hb]; omega) (by unfold maxLen; omega) (Nat.le_refl _)
  rw [made8] at r1
  exact ⟨w', hrun, by unfold Own8; rw [List.length_replicate]; exact r1, ⟨r2.os, r2.tape, r2.output, r2.size, fun k hk => r2.block k hk (by simp)⟩⟩

theorem wpList_make8u {P : Program} {w : World} {ops : Array Oper} {rest : List Oper} {o : Oper} {a : Act} {Q : Exit → Act → World → Prop} (hgd : o.guard = none) (l c : Operand) (t e : TypeId) (T : MakeTy P t e) (ho : o.op = .makeSlice t l c) (n : Nat) (hl : a.eval l = .int .u16 n) (hc : a.eval c = .int .u16 n) (hn : n ≤ 1000000)
    (h : ∀ w', Own8 e w.heap.size w' (.slice (some ⟨w.heap.size, 0, none⟩) n n) (List.replicate n 0) → Below w.heap.size w w' → wpList P ops Q rest (a.put o.dst (.slice (some ⟨w.heap.size, 0, none⟩) n n)) w') : wpList P ops Q (o :: rest) a w :=
  wpList_plain hgd fun K hK => by
    obtain ⟨w', hr, h1, h2⟩ := run_make8u w T n hn
    unfold Oper.wp execOp
    simp only [ho, hl, hc, Sem.run_bind, hr, Result.andThen_ok]
    exact hK _ _ (h w' h1 h2)

theorem set_fill (k m : Nat) (b : UInt8) : (List.replicate k b ++ List.replicate (m + 1) 0).set k b = List.replicate (k + 1) b ++ List.replicate m 0 := by
  rw [List.set_append_right _ _ (by simp), List.replicate_succ' (n := k)]
  simp [List.replicate_succ]

theorem noughts_zero (n : Nat) : noughts (List.replicate n 0) := fun _ hb => List.eq_of_mem_replicate hb

theorem seal_not_noughts (p : Pg) : ¬ noughts (seal8 p.raw) := by
  intro h
  have h1 : (seal8 p.raw)[0]? = some 104 := rfl
  exact absurd (h _ (List.mem_of_getElem? h1)) (by decide)

structure RoomRel (w1 : World) (g s : Nat) (b : UInt8) (k : Nat) (wr : World) : Prop where
  own : Own8 5 w1.heap.size wr (.slice (some ⟨g, 0, none⟩) s s) (List.replicate k b ++ List.replicate (s - k) 0)
  below : Below w1.heap.size w1 wr

set_option maxRecDepth 10000 in
set_option maxHeartbeats 3200000 in
theorem pageRooms_calls (n : Nat) (hn : n < 65536) (b : UInt8) (gen : Nat) (hgen : gen < 4294967296) (w : World) :
    Calls Tryd.prog 7 #[.int .u16 n, .int .u8 b.toNat, .int .u32 gen] w fun e w' => e = .returned (.bool true) ∧ Below w.heap.size w w' := by
  obtain ⟨s, hs⟩ : ∃ s, s = n % 600 := ⟨_, rfl⟩
  have hsn : (n : Int) % 600 = (s : Int) := by omega
  have hs6 : s < 600 := by omega
  clear hs
  obtain ⟨x, hx⟩ : ∃ x, x = b.toNat := ⟨_, rfl⟩
  rw [← hx]
  have HX := Lib.hid hx
  clear hx
  go_enter Tryd.func7, Tryd.ntmps7
  go_wp2_with fail
  refine (awake_any w).mono ?_
  rintro e w1 ⟨rfl, hb1⟩
  have HB1 := Lib.hid hb1
  clear hb1
  go_wp2_with (refine wpList_make8u rfl _ _ 23 5 make8 rfl s (by first | rfl | exact congrArg (Value.int .u16) hsn) (by first | rfl | exact congrArg (Value.int .u16) hsn) (by omega) (fun W how hbw => ?_))
  generalize hg : w1.heap.size = g at how ⊢
  rw [hg] at hbw
  have HG := Lib.hid hg
  clear hg
  go_loopw [8, 23] (fun _ i wr => ∃ k : Nat, k ≤ s ∧ i = .int .i64 k ∧ RoomRel w1 g s b k wr) (fun _ i _ => s - (intOf i).toNat)
  case atStart => exact ⟨0, by omega, rfl, by rw [HG.out]; exact how, by rw [HG.out]; exact hbw⟩
  case round =>
    obtain ⟨k, hk, rfl, hr⟩ := hrel
    by_cases hlt : k < s
    · have hlen : (List.replicate k b ++ List.replicate (s - k) (0 : UInt8)).length = s := by simp; omega
      obtain ⟨hc, hf⟩ := hr.own.cell k (by rw [hlen]; exact hlt)
      obtain ⟨u0, hu0⟩ : ∃ u, wr.cell? ⟨g, k, none⟩ = some u := ⟨_, hc⟩
      have hst := hr.own.store k b
      rw [show s - k = (s - (k + 1)) + 1 by omega, set_fill, show B8 b = .int .u8 (b.toNat : Int) from rfl, ← HX.out] at hst
      have hbl := hr.below
      have HST := Lib.hid hst
      have HBL := Lib.hid hbl
      clear hc hst hbl hr hlen
      go_wp2
      go_roundw
      case rel => exact ⟨k + 1, by omega, by go_num, HST.out.1, HBL.out.trans HST.out.2⟩
      case measure => simp [intOf]; try omega
    · have e : k = s := by omega
      subst e
      have hown := hr.own
      have hbl := hr.below
      rw [Nat.sub_self, List.replicate_zero, List.append_nil] at hown
      clear hr how hbw hk hlt
      obtain ⟨p, hp⟩ : ∃ p : Pg, p = ⟨gen, 0, 0, 3, List.replicate k b⟩ := ⟨_, rfl⟩
      have hpl : p.data.length = k := by rw [hp]; simp
      have pok : p.Ok := by rw [hp]; exact ⟨hgen, (by decide : (0 : Nat) < 4294967296), (by decide : (0 : Nat) < 4294967296), (by decide : (3 : Nat) < 256)⟩
      have hpk : p.kind ≠ 0 := by rw [hp]; exact (by decide : (3 : Nat) ≠ 0)
      have hbw : Below w.heap.size w wr := HB1.out.trans (hbl.mono HB1.out.size)
      have hy : Bytes wr (.slice (some ⟨g, 0, none⟩) k k) p.data := by rw [hp]; exact Own8.bytes hown
      have hv : (PgVal p (.slice (some ⟨g, 0, none⟩) k k)) = .agg #[.int .u32 gen, .int .u32 0, .int .u32 0, .int .u8 3, .slice (some ⟨g, 0, none⟩) k k] := by rw [hp]; rfl
      have HV := Lib.hid hv
      have HBW := Lib.hid hbw
      have HY := Lib.hid hy
      have HPL := Lib.hid hpl
      have HPK := Lib.hid hpk
      have HOK := Lib.hid pok
      clear hv hbw hy hpl hpk pok hown hbl hp hsn
      have hk6 : (k : Int) < 600 := by omega
      go_upto_region 10 with fail
      have hr0 := heap_alloc_new wr (.cells #[.int .u32 gen, .int .u32 0, .int .u32 0, .int .u8 3, .slice (some ⟨g, 0, none⟩) k k] 25)
      have hb0 := bal (bre wr) (.cells #[.int .u32 gen, .int .u32 0, .int .u32 0, .int .u8 3, .slice (some ⟨g, 0, none⟩) k k] 25)
      generalize wr.alloc (.cells #[.int .u32 gen, .int .u32 0, .int .u32 0, .int .u8 3, .slice (some ⟨g, 0, none⟩) k k] 25) = W2 at *
      obtain ⟨n9, hn9⟩ : ∃ n, n = wr.heap.size := ⟨_, rfl⟩
      rw [← hn9] at hr0 ⊢
      have c0 := cell_of_row W2 n9 0 _ _ _ hr0
      have c1 := cell_of_row W2 n9 1 _ _ _ hr0
      have c2 := cell_of_row W2 n9 2 _ _ _ hr0
      have c3 := cell_of_row W2 n9 3 _ _ _ hr0
      have c4 := cell_of_row W2 n9 4 _ _ _ hr0
      have HBW2 := Lib.hid (HBW.out.trans (hb0.mono HBW.out.size))
      have HY2 := Lib.hid (HY.out.below hb0)
      have HR0 := Lib.hid hr0
      clear hr0 hb0 hn9 HBW HY
      have hpa : PgAt W2 (.agg #[.int .u32 gen, .int .u32 0, .int .u32 0, .int .u8 3, .slice (some ⟨g, 0, none⟩) k k]) p := by rw [← HV.out]; exact PgAt.mk' HY2.out
      have HPA := Lib.hid hpa
      clear hpa
      have hz := parseOf_none (List.replicate 512 0) (by simp) (noughts_zero 512)
      have HZ := Lib.hid hz
      clear hz
      by_cases hbig : 491 < k
      · have hb1 : decide ((491 : Int) < k) = true := decide_eq_true (by omega)
        go_wp2_with fail
        refine (pbytes_long _ p W2 HPA.out HPK.out (by rw [HPL.out]; exact hbig)).mono ?_
        rintro e w3 ⟨rfl, hb3⟩
        have HB3 := Lib.hid (HBW2.out.trans (hb3.mono HBW2.out.size))
        clear hb3 c0 c1 c2 c3 c4
        go_wp2_with (refine wpList_make8 rfl _ _ 23 5 make8 rfl 512 rfl rfl (by omega) (fun w4 how hbw => ?_))
        refine (parse_any _ _ w4 how.bytes).mono ?_
        rintro e w5 ⟨vd, rfl, hod, hb5⟩
        rw [HZ.out] at hod ⊢
        unfold PgVal
        obtain ⟨a5, m5, c5, rfl⟩ := hod.isSlice
        have hb6 := bal (btr hbw hb5) (.cells #[.int .u32 Pg.zero.gen, .int .u32 Pg.zero.serial, .int .u32 Pg.zero.number, .int .u8 Pg.zero.kind, .slice a5 m5 c5] 25)
        have HB6 := Lib.hid (HB3.out.trans (hb6.mono HB3.out.size))
        clear hb6 hbw hb5 how hod
        go_wp2_with fail
        go_ret
        exact ⟨rfl, HB6.out⟩
      · have hb1 : decide ((491 : Int) < k) = false := decide_eq_false (by omega)
        go_wp2_with fail
        refine (pbytes_ok _ p W2 HPA.out HOK.out HPK.out (by rw [HPL.out]; omega)).mono ?_
        rintro e w3 ⟨v3, rfl, ho3, hb3⟩
        have hql : (seal8 p.raw).length = 512 := by rw [seal_length, raw_length _ (by rw [HPL.out]; omega)]
        have hpar := parseOf_seal p HOK.out HPK.out (by rw [HPL.out]; omega)
        have hnn := seal_not_noughts p
        obtain ⟨q, hq⟩ : ∃ q, q = seal8 p.raw := ⟨_, rfl⟩
        rw [← hq] at ho3 hql hpar hnn
        obtain ⟨g3, c3', rfl, -, -, -⟩ := ho3.shape (by intro h; rw [h] at hql; cases hql)
        rw [hql] at ho3 ⊢
        have HQL := Lib.hid hql
        have HPAR := Lib.hid hpar
        have HNN := Lib.hid hnn
        have HO3 := Lib.hid ho3
        have HB3 := Lib.hid hb3
        have hr3 := (hb3.block n9 (Array.getElem?_eq_some_iff.1 HR0.out).1).trans HR0.out
        have HR3 := Lib.hid hr3
        clear hb3 ho3 hql hpar hnn hq hr3 c0 c1 c2 c3 c4
        go_wp2_with (refine wpList_make8 rfl _ _ 23 5 make8 rfl 512 rfl rfl (by omega) (fun w4 how hbw => ?_))
        refine (parse_any _ _ w4 how.bytes).mono ?_
        rintro e w5 ⟨vd, rfl, hod, hb5⟩
        rw [HZ.out] at hod ⊢
        unfold PgVal
        obtain ⟨a5, m5, c5, rfl⟩ := hod.isSlice
        have hb6 := bal (btr hbw hb5) (.cells #[.int .u32 Pg.zero.gen, .int .u32 Pg.zero.serial, .int .u32 Pg.zero.number, .int .u8 Pg.zero.kind, .slice a5 m5 c5] 25)
        have HB6 := Lib.hid hb6
        clear hb6 hbw hb5 how hod
        go_upto_region 12 with fail
        have hb6 := HB6.out
        generalize w5.alloc (.cells #[.int .u32 Pg.zero.gen, .int .u32 Pg.zero.serial, .int .u32 Pg.zero.number, .int .u8 Pg.zero.kind, .slice a5 m5 c5] 25) = W6 at *
        clear HB6
        have HO6 := Lib.hid (Own8.kept HO3.out (Nat.le_refl _) hb6)
        have HR6 := Lib.hid ((hb6.block n9 (Array.getElem?_eq_some_iff.1 HR3.out).1).trans HR3.out)
        have HB26 := Lib.hid (btr HB3.out hb6)
        clear hb6 HO3 HR3 HB3
        go_wp2_with fail
        refine (parse_any _ q W6 HO6.out.bytes).mono ?_
        rintro e w7 ⟨vx, rfl, hox, hb7⟩
        rw [HPAR.out] at hox ⊢
        unfold PgVal
        obtain ⟨ax, mx, cx, rfl⟩ := hox.isSlice
        have HB7 := Lib.hid hb7
        have HOX := Lib.hid hox
        clear hb7 hox
        go_upto_region 15 with fail
        have hb8 := bal HB7.out (.cells #[.int .u32 p.gen, .int .u32 p.serial, .int .u32 p.number, .int .u8 p.kind, .slice ax mx cx] 25)
        have hr8 : Row5 _ w7.heap.size p (.slice ax mx cx) := heap_alloc_new w7 (.cells #[.int .u32 p.gen, .int .u32 p.serial, .int .u32 p.number, .int .u8 p.kind, .slice ax mx cx] 25)
        have hx8 := HOX.out.bytes.below (bal (bre w7) (.cells #[.int .u32 p.gen, .int .u32 p.serial, .int .u32 p.number, .int .u8 p.kind, .slice ax mx cx] 25))
        generalize w7.alloc (.cells #[.int .u32 p.gen, .int .u32 p.serial, .int .u32 p.number, .int .u8 p.kind, .slice ax mx cx] 25) = W8 at *
        obtain ⟨n14, hn14⟩ : ∃ n, n = w7.heap.size := ⟨_, rfl⟩
        rw [← hn14] at hr8 ⊢
        have hr9 := (hb8.block n9 (Array.getElem?_eq_some_iff.1 HR6.out).1).trans HR6.out
        have hq8 := HO6.out.bytes.below hb8
        have hb28 := btr HB26.out hb8
        have hp8 : PgAt W8 (.agg #[.int .u32 gen, .int .u32 0, .int .u32 0, .int .u8 3, .slice (some ⟨g, 0, none⟩) k k]) p := HPA.out.below hb28
        have hB8 := HBW2.out.trans (hb28.mono HBW2.out.size)
        have HB8 := Lib.hid hB8
        have HR8 := Lib.hid hr8
        have HR9 := Lib.hid hr9
        have HQ8 := Lib.hid hq8
        have HP8 := Lib.hid hp8
        have HX8 := Lib.hid hx8
        clear hb8 hr8 hr9 hq8 hp8 hx8 hb28 hB8 hn14 HR0 HPA HY2 HBW2 HO6 HR6 HB26 HB7 HOX
        have e0 := HR8.out.c0
        have e1 := HR8.out.c1
        have e2 := HR8.out.c2
        have e3 := HR8.out.c3
        have e4 := HR8.out.c4
        have i0 := cell_of_row W8 n9 0 _ _ _ HR9.out
        have i1 := cell_of_row W8 n9 1 _ _ _ HR9.out
        have i2 := cell_of_row W8 n9 2 _ _ _ HR9.out
        have i3 := cell_of_row W8 n9 3 _ _ _ HR9.out
        have i4 := cell_of_row W8 n9 4 _ _ _ HR9.out
        go_wp2_with fail
        refine (psame_any _ _ p p W8 (PgAt.mk' HX8.out) HP8.out).mono ?_
        rintro e w9 ⟨rfl, hb9⟩
        rw [pgSame_self]
        have i0 := (hb9.cell (block_lt_of_cell i0)).trans i0
        have i1 := (hb9.cell (block_lt_of_cell i1)).trans i1
        have i2 := (hb9.cell (block_lt_of_cell i2)).trans i2
        have i3 := (hb9.cell (block_lt_of_cell i3)).trans i3
        have i4 := (hb9.cell (block_lt_of_cell i4)).trans i4
        have HB9 := Lib.hid hb9
        clear hb9 e0 e1 e2 e3 e4
        go_wp2_with fail
        refine (pfull_any _ p w9 (HP8.out.below HB9.out)).mono ?_
        rintro e w10 ⟨rfl, hb10⟩
        have HB10 := Lib.hid (btr HB9.out hb10)
        have hfl : decide (p.data.length = 491) = ((k : Int) == 491) := by
          rw [HPL.out]
          by_cases h : k = 491
          · subst h; rfl
          · rw [decide_eq_false h]; exact (beq_false_of_ne (by omega)).symm
        rw [hfl]
        clear hb10 i0 i1 i2 i3 i4 hfl
        go_wp2_with fail
        refine (blank_any _ q w10 (HQ8.out.below HB10.out)).mono ?_
        rintro e w11 ⟨rfl, n11, rfl⟩
        rw [decide_eq_false HNN.out]
        have HB11 := Lib.hid (bdn HB10.out n11)
        go_wp2_with fail
        go_ret
        exact ⟨rfl, HB8.out.trans (HB11.out.mono HB8.out.size)⟩
end Go.Proofs.YtbdjjjnajkeceaaDoor
