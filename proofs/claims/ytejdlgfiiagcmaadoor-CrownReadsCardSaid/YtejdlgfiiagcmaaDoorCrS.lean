/- Walk: the reference's Read of two sectors. -/
import Derived.Test.YtejdlgfiiagcmaaDoorCrJ
import Derived.Test.YtejdlgfiiagcmaaDoorRParse
namespace Go.Proofs.YtejdlgfiiagcmaaDoor
open Go.RowKit

/-- three cells of a crown of the reference's -/
def RowR (w : World) (n : Nat) (c : Cr) : Prop := w.heap[n]? = some (.cells #[.int .u32 c.gen, .int .u8 c.half, .int .u32 c.serial] 35 (0, 0))
theorem RowR.below {w w' : World} {n : Nat} {c : Cr} (h : RowR w n c) (hb : Below w.heap.size w w') : RowR w' n c := (hb.block n (Array.getElem?_eq_some_iff.1 h).1).trans h
theorem RowR.lt {w : World} {n : Nat} {c : Cr} (h : RowR w n c) : n < w.heap.size := (Array.getElem?_eq_some_iff.1 h).1
theorem RowR.only {w w' : World} {n : Nat} {c : Cr} {S : Nat → Prop} (h : RowR w n c) (ho : Only w w' S) (hn : ¬ S n) : RowR w' n c := (ho.block n h.lt hn).trans h
theorem RowR.c0 {w : World} {n : Nat} {c : Cr} (h : RowR w n c) : w.cell? ⟨n, 0, none⟩ = some (.int .u32 c.gen) := cell_of_row w n 0 _ _ _ h
theorem RowR.c1 {w : World} {n : Nat} {c : Cr} (h : RowR w n c) : w.cell? ⟨n, 1, none⟩ = some (.int .u8 c.half) := cell_of_row w n 1 _ _ _ h
theorem RowR.c2 {w : World} {n : Nat} {c : Cr} (h : RowR w n c) : w.cell? ⟨n, 2, none⟩ = some (.int .u32 c.serial) := cell_of_row w n 2 _ _ _ h
theorem RowR.fz {w : World} {n : Nat} {c : Cr} (h : RowR w n c) (i : Nat) : w.frozen? ⟨n, i, none⟩ = false := frozen_of_row w n i _ _ h

theorem crr_put {x : World} {n : Nat} {c : Cr} (p : Cr) (hc : RowR x n c) :
    RowR (((x.setCell ⟨n, 0, none⟩ (.int .u32 p.gen)).setCell ⟨n, 1, none⟩ (.int .u8 p.half)).setCell ⟨n, 2, none⟩ (.int .u32 p.serial)) n p ∧
    Only x (((x.setCell ⟨n, 0, none⟩ (.int .u32 p.gen)).setCell ⟨n, 1, none⟩ (.int .u8 p.half)).setCell ⟨n, 2, none⟩ (.int .u32 p.serial)) (fun q => q = n) ∧
    ∀ B w, B ≤ n → Below B w x → Below B w (((x.setCell ⟨n, 0, none⟩ (.int .u32 p.gen)).setCell ⟨n, 1, none⟩ (.int .u8 p.half)).setCell ⟨n, 2, none⟩ (.int .u32 p.serial)) := by
  refine ⟨?_, ?_, fun B w hn hB => ((hB.setCell hn _).setCell hn _).setCell hn _⟩
  · exact heap_setCell_same _ n 2 _ _ (.int .u32 p.serial) (heap_setCell_same _ n 1 _ _ (.int .u8 p.half) (heap_setCell_same _ n 0 _ _ (.int .u32 p.gen) hc))
  · have h2 : ∀ (y : World) (i : Nat) (u : Value), Only y (y.setCell ⟨n, i, none⟩ u) (fun q => q = n) := fun y i u => Only.setCell y ⟨n, i, none⟩ u
    exact ((h2 _ 0 _).trans (h2 _ 1 _) fun _ _ h => h).trans (h2 _ 2 _) fun _ _ h => h

/-- what is wrong with a page as a crown of slot i -/
def badPg (err : Int) (p : Pg) (i : Nat) : Prop := err ≠ 0 ∨ p.data.length ≠ 1 ∨ 1 < (p.data.getD 0 0).toNat ∨ p.number ≠ 0 ∨ p.kind ≠ 9 ∨ p.gen % 2 ≠ i

theorem pgSame_one (p : Pg) (h : p.data.length = 1) : pgSame p.crown.page p = false ↔ (p.number ≠ 0 ∨ p.kind ≠ 9) := by
  rw [cr_same p h]
  unfold pgSame
  simp only [decide_true, Bool.true_and, Bool.and_true]
  rw [Bool.and_eq_false_iff, decide_eq_false_iff_not, decide_eq_false_iff_not]
  exact ⟨fun h => h.elim (fun h => .inl fun e => h e.symm) (fun h => .inr fun e => h e.symm), fun h => h.elim (fun h => .inl fun e => h e.symm) (fun h => .inr fun e => h e.symm)⟩

theorem atOf_ref (b : List UInt8) (i : Nat) : ((parseOf b).1 = 3 → atOf b i = (.zero, false, 0)) ∧
    ((parseOf b).1 ≠ 3 → badPg (parseOf b).1 (parseOf b).2 i → atOf b i = (.zero, false, 7)) ∧
    ((parseOf b).1 ≠ 3 → ¬ badPg (parseOf b).1 (parseOf b).2 i → atOf b i = ((parseOf b).2.crown, true, 0)) := by
  refine ⟨fun h => by unfold atOf; rw [if_pos h], fun h3 hb => ?_, fun h3 hb => ?_⟩
  · unfold atOf
    rw [if_neg h3]
    by_cases h1 : (parseOf b).1 ≠ 0 ∨ (parseOf b).2.data.length ≠ 1 ∨ 2 ≤ (parseOf b).2.crown.half
    · rw [if_pos h1]
    · rw [if_neg h1, if_pos]
      have hl : (parseOf b).2.data.length = 1 := by
        rcases Nat.decEq (parseOf b).2.data.length 1 with h | h
        · exact absurd (.inr (.inl h)) h1
        · exact h
      rw [pgSame_one _ hl]
      rcases hb with h | h | h | h | h | h
      · exact absurd (.inl h) h1
      · exact absurd (.inr (.inl h)) h1
      · exact absurd (.inr (.inr h)) h1
      · exact .inl (.inl h)
      · exact .inl (.inr h)
      · exact .inr h
  · have hn : ∀ q : Prop, (q → badPg (parseOf b).1 (parseOf b).2 i) → ¬ q := fun q hq h => hb (hq h)
    have hl : (parseOf b).2.data.length = 1 := Classical.byContradiction fun h => hb (.inr (.inl h))
    unfold atOf
    rw [if_neg h3, if_neg, if_neg]
    · rw [pgSame_one _ hl]
      rintro ((h | h) | h)
      · exact hb (.inr (.inr (.inr (.inl h))))
      · exact hb (.inr (.inr (.inr (.inr (.inl h)))))
      · exact hb (.inr (.inr (.inr (.inr (.inr h)))))
    · rintro (h | h | h)
      · exact hb (.inl h)
      · exact hb (.inr (.inl h))
      · exact hb (.inr (.inr (.inl h)))

structure RReadRel (w : World) (n4 n7 n16 : Nat) (v0 v1 : Value) (b : Nat → List UInt8) (k : Nat) (wr : World) : Prop where
  r4 : RowR wr n4 Cr.zero
  r7 : RowR wr n7 (scan b k).1
  r16 : wr.heap[n16]? = some (.cells #[v0, v1] 25 (0, 0))
  below : Below w.heap.size w wr
  none : ∀ j, j < k → (atOf (b j) j).2.2 = 0

theorem bytes_isSlice {w : World} {v : Value} {l : List UInt8} (h : Bytes w v l) : ∃ a n c, v = .slice a n c := by
  obtain ⟨a, c, e, -⟩ := id h
  exact ⟨a, _, c, e⟩

set_option linter.unusedSimpArgs false in
set_option maxRecDepth 60000 in
set_option maxHeartbeats 6400000 in
theorem refread_any (v0 v1 : Value) (b : Nat → List UInt8) (w : World) (hv0 : Bytes w v0 (b 0)) (hv1 : Bytes w v1 (b 1)) :
    Calls Tryd.prog 15 #[v0, v1] w fun e w' => e = .returned (.tuple #[CrVal (readOf b).1, .int .i64 (readOf b).2.1, .int .i64 (readOf b).2.2]) ∧ Below w.heap.size w w' := by
  obtain ⟨x, hx⟩ : ∃ x, x = readOf b := ⟨_, rfl⟩
  rw [← hx]
  have HX := Lib.hid hx
  obtain ⟨a0, m0, c0, rfl⟩ := bytes_isSlice hv0
  obtain ⟨a1, m1, c1, rfl⟩ := bytes_isSlice hv1
  have HV0 := Lib.hid hv0
  have HV1 := Lib.hid hv1
  clear hx hv0 hv1
  go_enter Tryd.func15, Tryd.ntmps15
  go_upto_region 2 with fail
  have hb0 := bal (bal (bre w) (.cells #[.int .u32 0, .int .u8 0, .int .u32 0] 35)) (.cells #[.int .u32 0, .int .u8 0, .int .u32 0] 35)
  obtain ⟨hr1, hr2⟩ := box_two w (.cells #[.int .u32 0, .int .u8 0, .int .u32 0] 35) (.cells #[.int .u32 0, .int .u8 0, .int .u32 0] 35)
  generalize (w.alloc (.cells #[.int .u32 0, .int .u8 0, .int .u32 0] 35)).alloc (.cells #[.int .u32 0, .int .u8 0, .int .u32 0] 35) = W at *
  obtain ⟨n4, hn4⟩ : ∃ n, n = w.heap.size := ⟨_, rfl⟩
  rw [← hn4] at hr1 hr2 ⊢
  obtain ⟨n7, hn7⟩ : ∃ n, n = n4 + 1 := ⟨_, rfl⟩
  rw [← hn7] at hr2
  try rw [← hn7]
  have HN4 : Hid (w.heap.size ≤ n4) := Lib.hid (by omega)
  have HN7 : Hid (w.heap.size ≤ n7) := Lib.hid (by omega)
  have hne : ¬ n7 = n4 := by omega
  have hR1 : RowR W n4 Cr.zero := hr1
  have hR2 : RowR W n7 Cr.zero := hr2
  have HB0 := Lib.hid hb0
  have HR1 := Lib.hid hR1
  have HR2 := Lib.hid hR2
  clear hb0 hr1 hr2 hR1 hR2 hn4 hn7
  go_wp2_with fail
  have hb1 := bal (bre W) (.cells #[(.slice a0 m0 c0), (.slice a1 m1 c1)] 25)
  have hr16 := heap_alloc_new W (.cells #[(.slice a0 m0 c0), (.slice a1 m1 c1)] 25)
  generalize W.alloc (.cells #[(.slice a0 m0 c0), (.slice a1 m1 c1)] 25) = w0 at *
  obtain ⟨n16, hn16⟩ : ∃ n, n = W.heap.size := ⟨_, rfl⟩
  rw [← hn16] at hr16 ⊢
  have hne4 : ¬ n4 = n16 := by have := HR1.out.lt; omega
  have hne7 : ¬ n7 = n16 := by have := HR2.out.lt; omega
  have HREL : Hid (RReadRel w n4 n7 n16 (.slice a0 m0 c0) (.slice a1 m1 c1) b 0 w0) := Lib.hid ⟨HR1.out.below hb1, HR2.out.below hb1, hr16, HB0.out.trans (hb1.mono HB0.out.size), fun j hj => absurd hj (Nat.not_lt_zero j)⟩
  have HNE := Lib.hid hne
  have HNE7 := Lib.hid hne7
  clear hb1 hr16 hn16 hne hne4 hne7 HB0 HR1 HR2
  go_loopw [8, 9, 10, 11, 12, 18] (fun f _ _ _ _ i wr => ∃ k : Nat, k ≤ 2 ∧ i = .int .i64 k ∧ f = .bool (scan b k).2 ∧ RReadRel w n4 n7 n16 (.slice a0 m0 c0) (.slice a1 m1 c1) b k wr) (fun _ _ _ _ _ i _ => 2 - (intOf i).toNat)
  case atStart => exact ⟨0, by omega, rfl, rfl, HREL.out⟩
  case round =>
    obtain ⟨k, hk, rfl, rfl, hr⟩ := hrel
    obtain ⟨hr4, hr7, hr16, hbl, hnone⟩ := hr
    have HR4 := Lib.hid hr4
    have HR7 := Lib.hid hr7
    have HR16 := Lib.hid hr16
    have HBL := Lib.hid hbl
    have HNO := Lib.hid hnone
    clear hr4 hr7 hr16 hbl hnone HREL
    by_cases hlt : k < 2
    · obtain ⟨vk, hvk, hck⟩ : ∃ vk, Bytes wr vk (b k) ∧ wr.cell? ⟨n16, k, none⟩ = some vk := by
        rcases (by omega : k = 0 ∨ k = 1) with rfl | rfl
        · exact ⟨(.slice a0 m0 c0), HV0.out.below HBL.out, cell_of_row wr n16 0 _ _ _ HR16.out⟩
        · exact ⟨(.slice a1 m1 c1), HV1.out.below HBL.out, cell_of_row wr n16 1 _ _ _ HR16.out⟩
      obtain ⟨fb, hfb⟩ : ∃ f, f = (scan b k).2 := ⟨_, rfl⟩
      obtain ⟨out, hout⟩ : ∃ o, o = (scan b k).1 := ⟨_, rfl⟩
      have hsc : scan b (k + 1) = if (atOf (b k) k).2.1 && (!fb || decide (out.gen < (atOf (b k) k).1.gen)) then ((atOf (b k) k).1, true) else scan b k := by rw [hfb, hout]; rfl
      have hsk : scan b k = (out, fb) := by rw [hfb, hout]
      rw [hsk] at hsc
      have hr7 := HR7.out
      rw [← hout] at hr7
      have HR7' := Lib.hid hr7
      rw [← hfb]
      have hbad := readOf_bad b k hlt HNO.out
      have hnx : (atOf (b k) k).2.2 = 0 → ∀ j, j < k + 1 → (atOf (b j) j).2.2 = 0 := fun h j hj => by
        rcases Nat.lt_or_ge j k with h' | h'
        · exact HNO.out j h'
        · have : j = k := by omega
          rw [this]; exact h
      obtain ⟨y, hy⟩ : ∃ y, y = atOf (b k) k := ⟨_, rfl⟩
      rw [← hy] at hsc hbad hnx
      have HY := Lib.hid hy
      have HSC := Lib.hid hsc
      have HBAD := Lib.hid hbad
      have HNX := Lib.hid hnx
      have HVK := Lib.hid hvk
      clear hsc hsk hr7 hout hfb hbad hnx hy hvk HR7
      go_wp2_with fail
      refine (rparse_any vk (b k) wr HVK.out).mono ?_
      rintro e w2 ⟨vd, rfl, hod, hb2⟩
      obtain ⟨ht1, ht2, ht3⟩ := atOf_ref (b k) k
      have hcr : (parseOf (b k)).1 = 0 → (parseOf (b k)).2.Ok := parseOf_ok2 (b k)
      rw [← HY.out] at ht1 ht2 ht3
      obtain ⟨p, hp⟩ : ∃ p, p = (parseOf (b k)).2 := ⟨_, rfl⟩
      obtain ⟨err, herr⟩ : ∃ err, err = (parseOf (b k)).1 := ⟨_, rfl⟩
      rw [← hp] at hod ht2 ht3 hcr
      rw [← herr] at ht1 ht2 ht3 hcr
      rw [← hp, ← herr]
      obtain ⟨ad, md, cd, rfl⟩ := hod.isSlice
      have HT1 := Lib.hid ht1
      have HT2 := Lib.hid ht2
      have HT3 := Lib.hid ht3
      have HCR := Lib.hid hcr
      have HB2 := Lib.hid (HBL.out.trans (hb2.mono HBL.out.size))
      have HR24 := Lib.hid (HR4.out.below hb2)
      have HR27 := Lib.hid (HR7'.out.below hb2)
      have HR216 : Hid (w2.heap[n16]? = some (.cells #[(.slice a0 m0 c0), (.slice a1 m1 c1)] 25 (0, 0))) := Lib.hid ((hb2.block n16 (Array.getElem?_eq_some_iff.1 HR16.out).1).trans HR16.out)
      have HYD := Lib.hid hod.bytes
      clear ht1 ht2 ht3 hcr hp herr hod hb2 HR4 HR7' HR16 HVK HBL HY hck
      unfold PgVal
      go_upto_region 6 with fail
      have hb3 := bal (bre w2) (.cells #[.int .u32 p.gen, .int .u32 p.serial, .int .u32 p.number, .int .u8 p.kind, .slice ad md cd] 39)
      have hr11 := heap_alloc_new w2 (.cells #[.int .u32 p.gen, .int .u32 p.serial, .int .u32 p.number, .int .u8 p.kind, .slice ad md cd] 39)
      generalize w2.alloc (.cells #[.int .u32 p.gen, .int .u32 p.serial, .int .u32 p.number, .int .u8 p.kind, .slice ad md cd] 39) = w3 at *
      obtain ⟨n11, hn11⟩ : ∃ n, n = w2.heap.size := ⟨_, rfl⟩
      rw [← hn11] at hr11 ⊢
      have hne11 : ¬ n7 = n11 := by have := HR27.out.lt; omega
      have HNE11 := Lib.hid hne11
      have HB3 := Lib.hid (HB2.out.trans (hb3.mono HB2.out.size))
      have HR34 := Lib.hid (HR24.out.below hb3)
      have HR37 := Lib.hid (HR27.out.below hb3)
      have HR316 : Hid (w3.heap[n16]? = some (.cells #[(.slice a0 m0 c0), (.slice a1 m1 c1)] 25 (0, 0))) := Lib.hid ((hb3.block n16 (Array.getElem?_eq_some_iff.1 HR216.out).1).trans HR216.out)
      have HYD3 := Lib.hid (HYD.out.below hb3)
      have HR11 := Lib.hid hr11
      clear hb3 hr11 hn11 hne11 HB2 HR24 HR27 HR216 HYD
      by_cases h3 : err = 3
      · subst h3
        have hat := HT1.out rfl
        have hno := HNX.out (by rw [hat])
        have hn : RReadRel w n4 n7 n16 (.slice a0 m0 c0) (.slice a1 m1 c1) b (k + 1) w3 := ⟨HR34.out, by rw [HSC.out, hat]; exact HR37.out, HR316.out, HB3.out, hno⟩
        have hf2 : (scan b (k + 1)).2 = fb := by rw [HSC.out, hat]; rfl
        have HN := Lib.hid hn
        have HF2 := Lib.hid hf2
        clear hat hno hn hf2
        go_wp2_with fail
        go_roundw
        case rel => exact ⟨k + 1, by omega, by go_num, by rw [HF2.out], HN.out⟩
        case measure => simp [intOf]; try omega
      have hk3 : (err == 3) = false := beq_false_of_ne h3
      have hk4 : decide (err = 3) = false := decide_eq_false h3
      have H3 := Lib.hid h3
      clear h3
      obtain ⟨bd, hbd⟩ : ∃ t : Bool, t = true ↔ badPg err p k := ⟨@decide _ (Classical.propDecidable _), @decide_eq_true_iff _ (Classical.propDecidable _)⟩
      have HBD := Lib.hid hbd
      clear hbd
      have hld : md = p.data.length := by obtain ⟨a', c', e', -⟩ := id HYD3.out; cases e'; rfl
      subst hld
      go_upto_region 7 with fail
      go_cut [62] from 30 to 62 (fun t w' => t = .bool bd ∧ w' = w3)
      case first =>
        have f0 := cell_of_row w3 n11 0 _ _ _ HR11.out
        have f2 := cell_of_row w3 n11 2 _ _ _ HR11.out
        have f3 := cell_of_row w3 n11 3 _ _ _ HR11.out
        have f4 := cell_of_row w3 n11 4 _ _ _ HR11.out
        clear hk3 hk4
        by_cases h0 : err = 0
        rotate_left
        · have g1 : (err == 0) = false := beq_false_of_ne h0
          have g2 : decide (err = 0) = false := decide_eq_false h0
          have g3 : (err != 0) = true := by simp [h0]
          have hb : bd = true := HBD.out.2 (.inl h0)
          subst hb
          clear h0
          go_wp2_with fail
          go_meet
          case rel => exact ⟨rfl, rfl⟩
        subst h0
        by_cases hl : p.data.length = 1
        rotate_left
        · have g1 : ((p.data.length : Int) == 1) = false := beq_false_of_ne (by omega)
          have g2 : decide ((p.data.length : Int) = 1) = false := decide_eq_false (by omega)
          have g3 : ((p.data.length : Int) != 1) = true := by simp; omega
          have hb : bd = true := HBD.out.2 (.inr (.inl hl))
          subst hb
          clear hl
          go_wp2_with fail
          go_meet
          case rel => exact ⟨rfl, rfl⟩
        obtain ⟨gq, oq, ee, x0⟩ := HYD3.out.byteAt 0 (by rw [hl]; decide)
        cases ee
        simp only [Nat.add_zero] at x0
        obtain ⟨hh, hhe⟩ : ∃ x, x = (p.data.getD 0 0).toNat := ⟨_, rfl⟩
        have hhe2 : (p.data[0]'(by rw [hl]; decide)).toNat = hh := by rw [hhe, List.getD_eq_getElem?_getD, List.getElem?_eq_getElem (by rw [hl]; decide)]; rfl
        rw [hhe2] at x0
        have HHE := Lib.hid hhe
        clear hhe hhe2
        have HL := Lib.hid hl
        rw [hl] at f4
        clear hl
        by_cases h1 : 1 < hh
        · have g1 : decide ((1 : Int) < hh) = true := decide_eq_true (by omega)
          have hb : bd = true := HBD.out.2 (.inr (.inr (.inl (by rw [← HHE.out]; exact h1))))
          subst hb
          clear h1
          go_wp2_with fail
          go_meet
          case rel => exact ⟨rfl, rfl⟩
        have g1 : decide ((1 : Int) < hh) = false := decide_eq_false (by omega)
        have H1 := Lib.hid h1
        clear h1
        by_cases h2 : p.number = 0
        rotate_left
        · have g2 : ((p.number : Int) == 0) = false := beq_false_of_ne (by omega)
          have g3 : decide ((p.number : Int) = 0) = false := decide_eq_false (by omega)
          have g4 : ((p.number : Int) != 0) = true := by simp; omega
          have hb : bd = true := HBD.out.2 (.inr (.inr (.inr (.inl h2))))
          subst hb
          clear h2
          go_wp2_with fail
          go_meet
          case rel => exact ⟨rfl, rfl⟩
        have H2 := Lib.hid h2
        rw [h2] at f2
        clear h2
        by_cases h9 : p.kind = 9
        rotate_left
        · have g2 : ((p.kind : Int) == 9) = false := beq_false_of_ne (by omega)
          have g3 : decide ((p.kind : Int) = 9) = false := decide_eq_false (by omega)
          have g4 : ((p.kind : Int) != 9) = true := by simp; omega
          have hb : bd = true := HBD.out.2 (.inr (.inr (.inr (.inr (.inl h9)))))
          subst hb
          clear h9
          go_wp2_with fail
          go_meet
          case rel => exact ⟨rfl, rfl⟩
        have H9 := Lib.hid h9
        rw [h9] at f3
        clear h9
        obtain ⟨m2, hm2⟩ : ∃ m, m = p.gen % 2 := ⟨_, rfl⟩
        have hmod : (p.gen : Int) % 2 = (m2 : Int) := by omega
        by_cases h6 : m2 = k
        · have hb : bd = false := Bool.eq_false_iff.2 fun h => by
            rcases HBD.out.1 h with h | h | h | h | h | h
            · exact h rfl
            · exact h HL.out
            · exact H1.out (by rw [HHE.out]; exact h)
            · exact h H2.out
            · exact h H9.out
            · exact h (by rw [← hm2]; exact h6)
          subst hb
          subst h6
          clear hm2
          go_wp2_with fail
          go_meet
          case rel => exact ⟨rfl, rfl⟩
        · have g2 : ((m2 : Int) == (k : Int)) = false := beq_false_of_ne (by omega)
          have g3 : decide ((m2 : Int) = (k : Int)) = false := decide_eq_false (by omega)
          have g4 : ((m2 : Int) != (k : Int)) = true := by simp; omega
          have hb : bd = true := HBD.out.2 (.inr (.inr (.inr (.inr (.inr (by rw [← hm2]; exact h6))))))
          subst hb
          clear h6 hm2
          go_wp2_with fail
          go_meet
          case rel => exact ⟨rfl, rfl⟩
      case rest =>
      obtain ⟨rfl, hwc⟩ := hcut
      rename World => w4
      have hwc' := hwc.symm
      subst hwc'
      clear hwc hk3 hk4
      cases bd with
      | true =>
        have hat := HT2.out H3.out (HBD.out.1 rfl)
        have hro := HBAD.out (by rw [hat]; decide)
        rw [hat] at hro
        have HRO := Lib.hid hro
        clear hat hro
        have z0 := HR34.out.c0
        have z1 := HR34.out.c1
        have z2 := HR34.out.c2
        have zf := HR34.out.fz
        go_wp2_with fail
        obtain ⟨hz1, -, hz3⟩ := crr_put Cr.zero HR34.out
        have hz2 := hz3 _ w HN4.out HB3.out
        have hzz : (((w3.setCell ⟨n4, 0, none⟩ (.int .u32 Cr.zero.gen)).setCell ⟨n4, 1, none⟩ (.int .u8 Cr.zero.half)).setCell ⟨n4, 2, none⟩ (.int .u32 Cr.zero.serial)) = (((w3.setCell ⟨n4, 0, none⟩ (.int .u32 0)).setCell ⟨n4, 1, none⟩ (.int .u8 0)).setCell ⟨n4, 2, none⟩ (.int .u32 0)) := rfl
        rw [hzz] at hz1 hz2
        clear hzz hz3
        generalize (((w3.setCell ⟨n4, 0, none⟩ (.int .u32 0)).setCell ⟨n4, 1, none⟩ (.int .u8 0)).setCell ⟨n4, 2, none⟩ (.int .u32 0)) = W9z at *
        have g0 : W9z.cell? ⟨n4, 0, none⟩ = some (.int .u32 0) := hz1.c0
        have g1 : W9z.cell? ⟨n4, 1, none⟩ = some (.int .u8 0) := hz1.c1
        have g2 : W9z.cell? ⟨n4, 2, none⟩ = some (.int .u32 0) := hz1.c2
        refine bodyPost_ret (v := .tuple #[.agg #[.int .u32 0, .int .u8 0, .int .u32 0], .int .i64 k, .int .i64 7]) (by simp [results, Tryd.results15, go_sem, g0, g1, g2]) rfl ?_
        rw [HX.out, HRO.out]
        exact ⟨rfl, hz2⟩
      | false =>
        have hnb : ¬ badPg err p k := fun h => by have := HBD.out.2 h; cases this
        have hat := HT3.out H3.out hnb
        have he0 : err = 0 := Classical.byContradiction fun h => hnb (.inl h)
        have hl : p.data.length = 1 := Classical.byContradiction fun h => hnb (.inr (.inl h))
        have hno := HNX.out (by rw [hat])
        obtain ⟨c, hc⟩ : ∃ c, c = p.crown := ⟨_, rfl⟩
        rw [← hc] at hat
        have hsc := HSC.out
        rw [hat] at hsc
        simp only [Bool.true_and] at hsc
        obtain ⟨gq, oq, ee, x0⟩ := HYD3.out.byteAt 0 (by rw [hl]; decide)
        cases ee
        simp only [Nat.add_zero] at x0
        have hc0 : p.gen = c.gen := by rw [hc]; rfl
        have hc1 : (p.data[0]'(by rw [hl]; decide)).toNat = c.half := by rw [hc]; show _ = (p.data.getD 0 0).toNat; rw [List.getD_eq_getElem?_getD, List.getElem?_eq_getElem (by rw [hl]; decide)]; rfl
        have hc2 : p.serial = c.serial := by rw [hc]; rfl
        rw [hc1] at x0
        have f0 : w3.cell? ⟨n11, 0, none⟩ = some (.int .u32 c.gen) := by rw [← hc0]; exact cell_of_row w3 n11 0 _ _ _ HR11.out
        have f1 : w3.cell? ⟨n11, 1, none⟩ = some (.int .u32 c.serial) := by rw [← hc2]; exact cell_of_row w3 n11 1 _ _ _ HR11.out
        have f4 : w3.cell? ⟨n11, 4, none⟩ = some (.slice (some ⟨gq, oq, none⟩) 1 cd) := by rw [← hl]; exact cell_of_row w3 n11 4 _ _ _ HR11.out
        have hlt11 := (Array.getElem?_eq_some_iff.1 HR11.out).1
        have HSB : Hid (∀ w', Below w3.heap.size w3 w' → (w'.cell? ⟨n11, 0, none⟩ = some (.int .u32 c.gen) ∧ w'.cell? ⟨n11, 1, none⟩ = some (.int .u32 c.serial) ∧ w'.cell? ⟨n11, 4, none⟩ = some (.slice (some ⟨gq, oq, none⟩) 1 cd) ∧ w'.cell? ⟨gq, oq, none⟩ = some (.int .u8 c.half))) := Lib.hid (fun w' hb => ⟨(hb.cell (p := ⟨n11, 0, none⟩) hlt11).trans f0, (hb.cell (p := ⟨n11, 1, none⟩) hlt11).trans f1, (hb.cell (p := ⟨n11, 4, none⟩) hlt11).trans f4, (hb.cell (p := ⟨gq, oq, none⟩) (block_lt_of_cell x0)).trans x0⟩)
        obtain ⟨take, htake⟩ : ∃ t, t = (!fb || decide (out.gen < c.gen)) := ⟨_, rfl⟩
        rw [← htake] at hsc
        have HSC' := Lib.hid hsc
        have HTK := Lib.hid htake
        have HNO' := Lib.hid hno
        have hgd : decide ((out.gen : Int) < c.gen) = decide (out.gen < c.gen) := by rw [Bool.eq_iff_iff, decide_eq_true_iff, decide_eq_true_iff]; omega
        obtain ⟨gt, hgt⟩ : ∃ t, t = decide (out.gen < c.gen) := ⟨_, rfl⟩
        rw [← hgt] at hgd
        have HGT := Lib.hid hgt
        have b0 := HR37.out.c0
        clear hnb hat he0 hno hc hsc hc0 hc1 hc2 f1 f4 x0 hlt11 htake hgt hl HBD HT1 HT2 HT3 HCR HSC HBAD HNX HYD3
        go_upto_region 9 with fail
        go_cut [73] from 65 to 73 (fun t w' => t = .bool take ∧ w' = w3)
        case first =>
          have htk := HTK.out
          rw [← HGT.out] at htk
          cases fb <;> cases gt <;> (
            go_wp2_with fail
            go_meet
            case rel => exact ⟨by first | (rw [htk]; rfl) | (rw [htk, ← HGT.out]; rfl), rfl⟩)
        case rest =>
        obtain ⟨rfl, hwc⟩ := hcut
        rename World => w4
        have hwc' := hwc.symm
        subst hwc'
        clear hwc f0 hgd b0
        cases take with
        | false =>
          have hn : RReadRel w n4 n7 n16 (.slice a0 m0 c0) (.slice a1 m1 c1) b (k + 1) w3 := ⟨HR34.out, by rw [HSC'.out]; exact HR37.out, HR316.out, HB3.out, HNO'.out⟩
          have hf2 : (scan b (k + 1)).2 = fb := by rw [HSC'.out]; rfl
          have HN := Lib.hid hn
          have HF2 := Lib.hid hf2
          clear hn hf2
          go_wp2_with fail
          go_roundw
          case rel => exact ⟨k + 1, by omega, by go_num, by rw [HF2.out], HN.out⟩
          case measure => simp [intOf]; try omega
        | true =>
          have hbd : Below w3.heap.size w3 w3.drew := bdr (bre w3)
          have HR7d := Lib.hid (HR37.out.below hbd)
          have z0 := HR7d.out.c0
          have z1 := HR7d.out.c1
          have z2 := HR7d.out.c2
          have zf := HR7d.out.fz
          obtain ⟨q1, q2, q3⟩ := crr_put c HR7d.out
          have hbe := q3 _ w HN7.out (HB3.out.trans (hbd.mono HB3.out.size))
          have hn : RReadRel w n4 n7 n16 (.slice a0 m0 c0) (.slice a1 m1 c1) b (k + 1) _ := ⟨(HR34.out.below hbd).only q2 (fun h => HNE.out h.symm), by rw [HSC'.out]; exact q1, (q2.block n16 (by have := (Array.getElem?_eq_some_iff.1 HR316.out).1; exact Nat.lt_of_lt_of_le this hbd.size) (fun h => HNE7.out h.symm)).trans ((hbd.block n16 (Array.getElem?_eq_some_iff.1 HR316.out).1).trans HR316.out), hbe, HNO'.out⟩
          have hf2 : (scan b (k + 1)).2 = true := by rw [HSC'.out]; rfl
          have HN := Lib.hid hn
          have HF2 := Lib.hid hf2
          clear hn hf2 q1 q2 q3 hbe hbd
          go_upto_region 10 with fail
          refine region_anyZ (z := 9) (S := fun w' => (w'.cell? ⟨n11, 0, none⟩ = some (.int .u32 c.gen) ∧ w'.cell? ⟨n11, 1, none⟩ = some (.int .u32 c.serial) ∧ w'.cell? ⟨n11, 4, none⟩ = some (.slice (some ⟨gq, oq, none⟩) 1 cd) ∧ w'.cell? ⟨gq, oq, none⟩ = some (.int .u8 c.half))) (by kernel_rfl) ?_
          refine anyZ_begin (fun hcl0 => ?_)
          refine anyZ_held (by exact HSB.out _ (bdr (bre w3))) (fun hHeld => ?_)
          -- 0: Op.fieldAddr 39 (Operand.tmp 11) 0
          refine' anyZ_pure (i := 0) (v := _) rfl (by rfl) (by kernel_rfl) (by kernel_rfl) (by kernel_rfl) hcl0 (fun _ _ _ h => h) (Or.inl ⟨by rfl, fun w _ => ?hb1⟩) (fun _ => hHeld) (fun hcl1 => ?rb1)
          case hb1 => (simp only [List.getElem_toArray, List.getElem_cons_zero]; first | (go_simp; with_reducible rfl) | (go_simp; done) | rfl)
          simp only [List.getElem_toArray, List.getElem_cons_zero, Act.put, List.setIfInBounds_toArray, List.set_cons_zero, List.set_cons_succ]
          -- 1: Op.load 22 (Operand.tmp 74)
          refine' anyZ_take (i := 1) (v := _) rfl (by rfl) (by kernel_rfl) (by kernel_rfl) (by kernel_rfl) hcl1 6 (by kernel_rfl) (by kernel_rfl) (fun _ _ _ h => h) (Or.inl ⟨by rfl, fun w hSw => ?hb2⟩) hHeld (fun hcl2 => ?rb2)
          case hb2 => (simp only [List.getElem_toArray, List.getElem_cons_succ, List.getElem_cons_zero]; obtain ⟨hS1, hS2, hS3, hS4⟩ := hSw; first | (go_simp; with_reducible rfl) | (go_simp; done) | rfl)
          simp only [List.getElem_toArray, List.getElem_cons_succ, List.getElem_cons_zero, Act.put, List.setIfInBounds_toArray, List.set_cons_zero, List.set_cons_succ]
          -- 2: Op.fieldAddr 39 (Operand.tmp 11) 4
          refine' anyZ_pure (i := 2) (v := _) rfl (by rfl) (by kernel_rfl) (by kernel_rfl) (by kernel_rfl) hcl2 (fun _ _ _ h => h) (Or.inl ⟨by rfl, fun w _ => ?hb3⟩) (fun _ => hHeld) (fun hcl3 => ?rb3)
          case hb3 => (simp only [List.getElem_toArray, List.getElem_cons_succ, List.getElem_cons_zero]; first | (go_simp; with_reducible rfl) | (go_simp; done) | rfl)
          simp only [List.getElem_toArray, List.getElem_cons_succ, List.getElem_cons_zero, Act.put, List.setIfInBounds_toArray, List.set_cons_zero, List.set_cons_succ]
          -- 3: Op.load 25 (Operand.tmp 76)
          refine' anyZ_take (i := 3) (v := _) rfl (by rfl) (by kernel_rfl) (by kernel_rfl) (by kernel_rfl) hcl3 6 (by kernel_rfl) (by kernel_rfl) (fun _ _ _ h => h) (Or.inl ⟨by rfl, fun w hSw => ?hb4⟩) hHeld (fun hcl4 => ?rb4)
          case hb4 => (simp only [List.getElem_toArray, List.getElem_cons_succ, List.getElem_cons_zero]; obtain ⟨hS1, hS2, hS3, hS4⟩ := hSw; first | (go_simp; with_reducible rfl) | (go_simp; done) | rfl)
          simp only [List.getElem_toArray, List.getElem_cons_succ, List.getElem_cons_zero, Act.put, List.setIfInBounds_toArray, List.set_cons_zero, List.set_cons_succ]
          -- 4: Op.indexAddr 25 (Operand.tmp 77) (Operand.const (Value.int I
          refine' anyZ_pure (i := 4) (v := _) rfl (by rfl) (by kernel_rfl) (by kernel_rfl) (by kernel_rfl) hcl4 (fun _ _ _ h => h) (Or.inl ⟨by rfl, fun w _ => ?hb5⟩) (fun _ => hHeld) (fun hcl5 => ?rb5)
          case hb5 => (simp only [List.getElem_toArray, List.getElem_cons_succ, List.getElem_cons_zero]; first | (go_simp; with_reducible rfl) | (go_simp; done) | rfl)
          simp only [List.getElem_toArray, List.getElem_cons_succ, List.getElem_cons_zero, Act.put, List.setIfInBounds_toArray, List.set_cons_zero, List.set_cons_succ]
          -- 5: Op.load 5 (Operand.tmp 78)
          refine' anyZ_take (i := 5) (v := _) rfl (by rfl) (by kernel_rfl) (by kernel_rfl) (by kernel_rfl) hcl5 6 (by kernel_rfl) (by kernel_rfl) (fun _ _ _ h => h) (Or.inl ⟨by rfl, fun w hSw => ?hb6⟩) hHeld (fun hcl6 => ?rb6)
          case hb6 => (simp only [List.getElem_toArray, List.getElem_cons_succ, List.getElem_cons_zero]; obtain ⟨hS1, hS2, hS3, hS4⟩ := hSw; first | (go_simp; with_reducible rfl) | (go_simp; done) | rfl)
          simp only [List.getElem_toArray, List.getElem_cons_succ, List.getElem_cons_zero, Act.put, List.setIfInBounds_toArray, List.set_cons_zero, List.set_cons_succ]
          -- 6: Op.fieldAddr 39 (Operand.tmp 11) 1
          refine' anyZ_pure (i := 6) (v := _) rfl (by rfl) (by kernel_rfl) (by kernel_rfl) (by kernel_rfl) hcl6 (fun _ _ _ h => h) (Or.inl ⟨by rfl, fun w _ => ?hb7⟩) (fun _ => hHeld) (fun hcl7 => ?rb7)
          case hb7 => (simp only [List.getElem_toArray, List.getElem_cons_succ, List.getElem_cons_zero]; first | (go_simp; with_reducible rfl) | (go_simp; done) | rfl)
          simp only [List.getElem_toArray, List.getElem_cons_succ, List.getElem_cons_zero, Act.put, List.setIfInBounds_toArray, List.set_cons_zero, List.set_cons_succ]
          -- 7: Op.load 22 (Operand.tmp 80)
          refine' anyZ_take (i := 7) (v := _) rfl (by rfl) (by kernel_rfl) (by kernel_rfl) (by kernel_rfl) hcl7 6 (by kernel_rfl) (by kernel_rfl) (fun _ _ _ h => h) (Or.inl ⟨by rfl, fun w hSw => ?hb8⟩) hHeld (fun hcl8 => ?rb8)
          case hb8 => (simp only [List.getElem_toArray, List.getElem_cons_succ, List.getElem_cons_zero]; obtain ⟨hS1, hS2, hS3, hS4⟩ := hSw; first | (go_simp; with_reducible rfl) | (go_simp; done) | rfl)
          simp only [List.getElem_toArray, List.getElem_cons_succ, List.getElem_cons_zero, Act.put, List.setIfInBounds_toArray, List.set_cons_zero, List.set_cons_succ]
          -- 8: Op.build 35 #[(0, Operand.tmp 75), (1, Operand.tmp 79), (2, 
          refine' anyZ_pure (i := 8) (v := _) rfl (by rfl) (by kernel_rfl) (by kernel_rfl) (by kernel_rfl) hcl8 (fun _ _ _ h => h) (Or.inl ⟨by rfl, fun w _ => ?hb9⟩) (fun _ => hHeld) (fun hcl9 => ?rb9)
          case hb9 => (simp only [List.getElem_toArray, List.getElem_cons_succ, List.getElem_cons_zero]; first | (go_simp; with_reducible rfl) | (go_simp; done) | rfl)
          simp only [List.getElem_toArray, List.getElem_cons_succ, List.getElem_cons_zero, Act.put, List.setIfInBounds_toArray, List.set_cons_zero, List.set_cons_succ]
          clear hHeld
          refine anyZ_chain_at (by kernel_rfl) ?_
          simp only [List.drop_succ_cons, List.drop_zero]
          generalize w3.drew = w5 at *
          go_wp2_with fail
          go_roundw
          case rel => exact ⟨k + 1, by omega, by go_num, by rw [HF2.out], HN.out⟩
          case measure => simp [intOf]; try omega
    · have e2 : k = 2 := by omega
      subst e2
      have hre := readOf_end b HNO.out
      obtain ⟨fb, hfb⟩ : ∃ f, f = (scan b 2).2 := ⟨_, rfl⟩
      obtain ⟨out, hout⟩ : ∃ o, o = (scan b 2).1 := ⟨_, rfl⟩
      have hr7 := HR7.out
      rw [← hout] at hr7 hre
      rw [← hfb] at hre ⊢
      have HR7' := Lib.hid hr7
      have HRE := Lib.hid hre
      clear hr7 hre hfb hout HR7 hlt hk HNO HR16
      cases fb with
      | false =>
        have hx0 : x = (Cr.zero, 0, 3) := by rw [HX.out, HRE.out]; rfl
        have HX0 := Lib.hid hx0
        clear hx0
        have z0 := HR4.out.c0
        have z1 := HR4.out.c1
        have z2 := HR4.out.c2
        have zf := HR4.out.fz
        go_wp2_with fail
        obtain ⟨hz1, -, hz3⟩ := crr_put Cr.zero HR4.out
        have hz2 := hz3 _ w HN4.out HBL.out
        have hzz : (((wr.setCell ⟨n4, 0, none⟩ (.int .u32 Cr.zero.gen)).setCell ⟨n4, 1, none⟩ (.int .u8 Cr.zero.half)).setCell ⟨n4, 2, none⟩ (.int .u32 Cr.zero.serial)) = (((wr.setCell ⟨n4, 0, none⟩ (.int .u32 0)).setCell ⟨n4, 1, none⟩ (.int .u8 0)).setCell ⟨n4, 2, none⟩ (.int .u32 0)) := rfl
        rw [hzz] at hz1 hz2
        clear hzz hz3
        generalize (((wr.setCell ⟨n4, 0, none⟩ (.int .u32 0)).setCell ⟨n4, 1, none⟩ (.int .u8 0)).setCell ⟨n4, 2, none⟩ (.int .u32 0)) = W9z at *
        have g0 : W9z.cell? ⟨n4, 0, none⟩ = some (.int .u32 0) := hz1.c0
        have g1 : W9z.cell? ⟨n4, 1, none⟩ = some (.int .u8 0) := hz1.c1
        have g2 : W9z.cell? ⟨n4, 2, none⟩ = some (.int .u32 0) := hz1.c2
        refine bodyPost_ret (v := .tuple #[.agg #[.int .u32 0, .int .u8 0, .int .u32 0], .int .i64 0, .int .i64 3]) (by simp [results, Tryd.results15, go_sem, g0, g1, g2]) rfl ?_
        rw [HX0.out]
        exact ⟨rfl, hz2⟩
      | true =>
        have hx0 : x = (out, 0, 0) := by rw [HX.out, HRE.out]; rfl
        have HX0 := Lib.hid hx0
        have b0 := HR7'.out.c0
        have b1 := HR7'.out.c1
        have b2 := HR7'.out.c2
        have z0 := HR4.out.c0
        have z1 := HR4.out.c1
        have z2 := HR4.out.c2
        have zf := HR4.out.fz
        obtain ⟨q1, q2, q3⟩ := crr_put out HR4.out
        have hb9 := q3 _ w HN4.out HBL.out
        have HQ1 := Lib.hid q1
        have HB9 := Lib.hid hb9
        clear hx0 q1 q2 q3 hb9
        go_wp2_with fail
        have q1 := HQ1.out
        have hb9 := HB9.out
        generalize (((wr.setCell ⟨n4, 0, none⟩ (.int .u32 out.gen)).setCell ⟨n4, 1, none⟩ (.int .u8 out.half)).setCell ⟨n4, 2, none⟩ (.int .u32 out.serial)) = W9 at *
        have g0 := q1.c0
        have g1 := q1.c1
        have g2 := q1.c2
        refine bodyPost_ret (v := .tuple #[.agg #[.int .u32 out.gen, .int .u8 out.half, .int .u32 out.serial], .int .i64 0, .int .i64 0]) (by simp [results, Tryd.results15, go_sem, g0, g1, g2]) rfl ?_
        rw [HX0.out]
        exact ⟨rfl, hb9⟩
end Go.Proofs.YtejdlgfiiagcmaaDoor
