/- PageShows, the walk. -/
import Derived.Test.YtbdjjjnajkeceaaDoorPgApart
import Derived.RegionTactic
import Derived.BigRegion
namespace Go.Proofs.YtbdjjjnajkeceaaDoor
open Go.RowKit

theorem xor_byte (x t : Nat) (hx : x < 2 ^ 8) (ht : t < 8) : bits .xor .u8 (x : Int) (2 ^ t % 256) = ((x ^^^ 2 ^ t : Nat) : Int) := by
  have h1 : (2 : Int) ^ t % 256 = ((2 ^ t : Nat) : Int) := by
    have h := Crc.pow_lt8 ht
    have e : (2 : Int) ^ t = ((2 ^ t : Nat) : Int) := by simp
    rw [e]
    generalize 2 ^ t = y at h
    omega
  rw [h1]
  exact u8_xor_nat x _ hx (Crc.pow_lt8 ht)

theorem mask_bit (mask k : Nat) : (((mask : Int) / 2 ^ k).tmod 2 == 1) = decide (mask / 2 ^ k % 2 = 1) := by
  have h1 : (mask : Int) / 2 ^ k = ((mask / 2 ^ k : Nat) : Int) := by simp
  rw [h1]
  generalize mask / 2 ^ k = c
  rw [Int.tmod_eq_emod_of_nonneg (by omega), Bool.eq_iff_iff]
  simp
  omega

theorem turns8_far (s mask : Nat) (l : List UInt8) (j : Nat) : ∀ k, (∀ i, i < k → (s + i) / 8 ≠ j) → (turns8 s mask k l)[j]? = l[j]? := by
  intro k
  induction k with
  | zero => intro _; rfl
  | succ k ih =>
    intro h
    simp only [turns8]
    split
    · unfold turn8
      rw [List.getElem?_set_ne (h k (by omega))]
      exact ih fun i hi => h i (by omega)
    · exact ih fun i hi => h i (by omega)

/-- turned within 32 bits, a page isn't noughts -/
theorem turned_not_noughts (p : Pg) (ok : p.Ok) (hk : p.kind ≠ 0) (s mask : Nat) : ¬ noughts (turns8 s mask 32 (seal8 p.raw)) := by
  intro h
  by_cases hs : 7 < s
  · have h1 := turns8_far s mask (seal8 p.raw) 0 32 (fun i _ => by omega)
    exact absurd (h _ (List.mem_of_getElem? (h1.trans (show (seal8 p.raw)[0]? = some 104 from rfl)))) (by decide)
  · have h1 := turns8_far s mask (seal8 p.raw) 14 32 (fun i hi => by omega)
    have h2 := h _ (List.mem_of_getElem? (h1.trans (show (seal8 p.raw)[14]? = some (UInt8.ofNat p.kind) from rfl)))
    have h3 : (UInt8.ofNat p.kind).toNat = p.kind := toNat_ofNat8 _ ok.kind
    rw [h2] at h3
    exact hk h3.symm

/-- what Parse tells of a page that has rotted -/
theorem parse_turned (p : Pg) (ok : p.Ok) (hk : p.kind ≠ 0) (hd : p.data.length ≤ 491) (s mask : Nat) (q : List UInt8) (hq : q = turns8 s mask 32 (seal8 p.raw)) (hne : q ≠ seal8 p.raw) : parseOf q = (7, Pg.zero) := by
  have hl : q.length = 512 := by rw [hq, length_turns8, seal_length, raw_length _ hd]
  refine parseOf_corrupt q hl (by rw [hq]; exact turned_not_noughts p ok hk s mask) (fun h => hne ?_)
  exact shows_plain p.raw s mask q hq (by rw [raw_length _ hd]; exact h)

/-- a page's kind and data are set -/
theorem one_put {x : World} {n : Nat} {p : Pg} {u : Value} (hp : Row5 x n p u) (p' : Pg) (u' : Value) (e1 : p'.gen = p.gen) (e2 : p'.serial = p.serial) (e3 : p'.number = p.number) :
    Row5 ((x.setCell ⟨n, 3, none⟩ (.int .u8 p'.kind)).setCell ⟨n, 4, none⟩ u') n p' u' ∧
    Only x ((x.setCell ⟨n, 3, none⟩ (.int .u8 p'.kind)).setCell ⟨n, 4, none⟩ u') (fun k => k = n) ∧
    ∀ B w, B ≤ n → Below B w x → Below B w ((x.setCell ⟨n, 3, none⟩ (.int .u8 p'.kind)).setCell ⟨n, 4, none⟩ u') := by
  refine ⟨?_, ?_, fun B w hn hB => (hB.setCell hn _).setCell hn _⟩
  · have h := heap_setCell_same _ n 4 _ _ u' (heap_setCell_same _ n 3 _ _ (.int .u8 p'.kind) hp)
    unfold Row5
    rw [e1, e2, e3]
    exact h
  · have h1 : ∀ (y : World) (i : Nat) (c : Value), Only y (y.setCell ⟨n, i, none⟩ c) (fun k => k = n) := fun y i c => Only.setCell y ⟨n, i, none⟩ c
    exact (h1 _ 3 _).trans (h1 _ 4 _) fun _ _ h => h

/-- the state of the loop: the bytes behind k turns, in memory of the call's own -/
structure TurnRel (W : World) (s mask g c : Nat) (q : List UInt8) (k : Nat) (wr : World) : Prop where
  own : Own8 5 W.heap.size wr (.slice (some ⟨g, 0, none⟩) 512 c) (turns8 s mask k q)
  below : Below W.heap.size W wr

set_option maxRecDepth 60000 in
set_option maxHeartbeats 3200000 in
theorem pageShows_calls (va : Value) (a : Pg) (oa : a.Ok) (at' mask : Nat) (hat : at' < 65536) (w : World) (ha : Bytes w va a.data) :
    Calls Tryd.prog 4 #[PgVal a va, .int .u16 at', .int .u32 mask] w fun e w' => e = .returned (.bool true) ∧ Below w.heap.size w w' := by
  have OA := Lib.hid (oa.cut 520).may
  clear oa
  have HA := Lib.hid ha
  unfold PgVal
  obtain ⟨aa, ca, rfl, -, -, -, -⟩ := id ha
  clear ha
  obtain ⟨la, hla⟩ : ∃ l, l = a.data.length := ⟨_, rfl⟩
  rw [← hla] at HA ⊢
  clear hla
  go_enter Tryd.func4, Tryd.ntmps4
  go_wp2_with fail
  have hr1 := heap_alloc_new w (.cells #[.int .u32 a.gen, .int .u32 a.serial, .int .u32 a.number, .int .u8 a.kind, .slice aa la ca] 25)
  have hb0 := bal (bre w) (.cells #[.int .u32 a.gen, .int .u32 a.serial, .int .u32 a.number, .int .u8 a.kind, .slice aa la ca] 25)
  generalize w.alloc (.cells #[.int .u32 a.gen, .int .u32 a.serial, .int .u32 a.number, .int .u8 a.kind, .slice aa la ca] 25) = W at *
  obtain ⟨n2, hn2⟩ : ∃ n, n = w.heap.size := ⟨_, rfl⟩
  rw [← hn2] at hr1 ⊢
  have HN2 := Lib.hid hn2
  have HR1 : Hid (Row5 W n2 a (.slice aa la ca)) := Lib.hid hr1
  have HA0 := Lib.hid (HA.out.below hb0)
  have HBW := Lib.hid hb0
  clear hn2 hr1 hb0 HA
  refine (awake_any W).mono ?_
  rintro e w1 ⟨rfl, hb1⟩
  have HR3 := Lib.hid (HR1.out.below hb1)
  have HA1 := Lib.hid (HA0.out.below hb1)
  have HBW1 := Lib.hid (HBW.out.trans (hb1.mono HBW.out.size))
  clear hb1 HR1 HA0 HBW
  obtain ⟨PA, hA⟩ : ∃ A, A = a.cut 520 := ⟨_, rfl⟩
  have HAA := Lib.hid hA
  clear hA
  have e0 := HR3.out.c0
  have e1 := HR3.out.c1
  have e2 := HR3.out.c2
  have e3 := HR3.out.c3
  have e4 := HR3.out.c4
  go_wp2_with fail
  refine (few_any (.slice aa la ca) a w1 HA1.out).mono ?_
  rintro e w2 ⟨v2, rfl, ho2, hb2⟩
  rw [← HAA.out] at ho2 ⊢
  unfold PgVal
  obtain ⟨a2, m2, c2, rfl⟩ := ho2.isSlice
  have hr2 := HR3.out.below hb2
  have HB2 := Lib.hid hb2
  have HO2 := Lib.hid ho2
  have HR2 := Lib.hid hr2
  clear e0 e1 e2 e3 e4 ho2 hb2
  have z0 := hr2.c0
  have z1 := hr2.c1
  have z2 := hr2.c2
  have z3 := hr2.c3
  have z4 := hr2.c4
  have zf := hr2.fz
  obtain ⟨q1, q2, q3⟩ := page_put PA (.slice a2 m2 c2) hr2
  have hbw := q3 w.heap.size w (by have := HN2.out; omega) (HBW1.out.trans (HB2.out.mono HBW1.out.size))
  have hl1 := HR3.out.lt
  have hoA := own_only HO2.out q2 (fun k hk e => by
    have h1 := (World.ownsRow.lt HO2.out k hk).1
    have h2 : w1.heap.size ≤ k := h1
    omega)
  have HQ1 : Hid (Row5 _ n2 PA (.slice a2 m2 c2)) := Lib.hid q1
  have HBE := Lib.hid hbw
  have HYA := Lib.hid (Own8.bytes hoA)
  clear hr2 q1 q2 q3 hoA hbw hl1 HR3 HA1 HBW1 HB2 HO2 HR2
  go_upto_region 4 with fail
  have hq1 := HQ1.out
  have hya := HYA.out
  have hbe := HBE.out
  clear HQ1 HYA HBE z0 z1 z2 z3 z4 zf
  generalize (((((w2.setCell ⟨n2, 0, none⟩ (.int .u32 PA.gen)).setCell ⟨n2, 1, none⟩ (.int .u32 PA.serial)).setCell ⟨n2, 2, none⟩ (.int .u32 PA.number)).setCell ⟨n2, 3, none⟩ (.int .u8 PA.kind)).setCell ⟨n2, 4, none⟩ (.slice a2 m2 c2)) = W4 at *
  have HBE := Lib.hid hbe
  have HQ1 : Hid (Row5 W4 n2 PA (.slice a2 m2 c2)) := Lib.hid hq1
  have HYA := Lib.hid hya
  clear hq1 hya hbe
  refine region_anyZ (z := 7) (S := fun w' => Row5 w' n2 PA (.slice a2 m2 c2)) (by kernel_rfl) ?_
  refine anyZ_begin (fun hcl0 => ?_)
  refine anyZ_held (by exact HQ1.out.below (bdr (bre W4))) (fun hHeld => ?_)
  -- 0: Op.fieldAddr 25 (Operand.tmp 3) 3
  refine' anyZ_pure (i := 0) (v := _) rfl (by rfl) (by kernel_rfl) (by kernel_rfl) (by kernel_rfl) hcl0 (fun _ _ _ h => h) (Or.inl ⟨by rfl, fun w _ => ?hb1⟩) (fun _ => hHeld) (fun hcl1 => ?rb1)
  case hb1 => (simp only [List.getElem_toArray, List.getElem_cons_zero]; first | (go_simp; with_reducible rfl) | (go_simp; done) | rfl)
  simp only [List.getElem_toArray, List.getElem_cons_zero, Act.put, List.setIfInBounds_toArray, List.set_cons_zero, List.set_cons_succ]
  -- 1: Op.load 5 (Operand.tmp 18)
  refine' anyZ_take (i := 1) (v := _) rfl (by rfl) (by kernel_rfl) (by kernel_rfl) (by kernel_rfl) hcl1 6 (by kernel_rfl) (by kernel_rfl) (fun _ _ _ h => h) (Or.inl ⟨by rfl, fun w hSw => ?hb2⟩) hHeld (fun hcl2 => ?rb2)
  case hb2 => (simp only [List.getElem_toArray, List.getElem_cons_succ, List.getElem_cons_zero]; have e3 := hSw.c3; have e4 := hSw.c4; first | (go_simp; with_reducible rfl) | (go_simp; done) | rfl)
  simp only [List.getElem_toArray, List.getElem_cons_succ, List.getElem_cons_zero, Act.put, List.setIfInBounds_toArray, List.set_cons_zero, List.set_cons_succ]
  -- 2: Op.call { callee := Callee.builtin Builtin.max, args := #[Op
  refine' anyZ_pure (i := 2) (v := _) rfl (by rfl) (by kernel_rfl) (by kernel_rfl) (by kernel_rfl) hcl2 (fun _ _ _ h => h) (Or.inl ⟨by rfl, fun w _ => ?hb3⟩) (fun _ => hHeld) (fun hcl3 => ?rb3)
  case hb3 => (simp only [List.getElem_toArray, List.getElem_cons_succ, List.getElem_cons_zero]; first | (go_simp; with_reducible rfl) | (go_simp; done) | rfl)
  simp only [List.getElem_toArray, List.getElem_cons_succ, List.getElem_cons_zero, Act.put, List.setIfInBounds_toArray, List.set_cons_zero, List.set_cons_succ]
  -- 3: Op.fieldAddr 25 (Operand.tmp 3) 4
  refine' anyZ_pure (i := 3) (v := _) rfl (by rfl) (by kernel_rfl) (by kernel_rfl) (by kernel_rfl) hcl3 (fun _ _ _ h => h) (Or.inl ⟨by rfl, fun w _ => ?hb4⟩) (fun _ => hHeld) (fun hcl4 => ?rb4)
  case hb4 => (simp only [List.getElem_toArray, List.getElem_cons_succ, List.getElem_cons_zero]; first | (go_simp; with_reducible rfl) | (go_simp; done) | rfl)
  simp only [List.getElem_toArray, List.getElem_cons_succ, List.getElem_cons_zero, Act.put, List.setIfInBounds_toArray, List.set_cons_zero, List.set_cons_succ]
  -- 4: Op.load 23 (Operand.tmp 21)
  refine' anyZ_take (i := 4) (v := _) rfl (by rfl) (by kernel_rfl) (by kernel_rfl) (by kernel_rfl) hcl4 6 (by kernel_rfl) (by kernel_rfl) (fun _ _ _ h => h) (Or.inl ⟨by rfl, fun w hSw => ?hb5⟩) hHeld (fun hcl5 => ?rb5)
  case hb5 => (simp only [List.getElem_toArray, List.getElem_cons_succ, List.getElem_cons_zero]; have e3 := hSw.c3; have e4 := hSw.c4; first | (go_simp; with_reducible rfl) | (go_simp; done) | rfl)
  simp only [List.getElem_toArray, List.getElem_cons_succ, List.getElem_cons_zero, Act.put, List.setIfInBounds_toArray, List.set_cons_zero, List.set_cons_succ]
  -- 6: Op.fieldAddr 25 (Operand.tmp 3) 3
  refine' anyZ_pure (i := 6) (v := _) rfl (by rfl) (by kernel_rfl) (by kernel_rfl) (by kernel_rfl) hcl5 (fun _ _ _ h => h) (Or.inl ⟨by rfl, fun w _ => ?hb6⟩) (fun _ => hHeld) (fun hcl6 => ?rb6)
  case hb6 => (simp only [List.getElem_toArray, List.getElem_cons_succ, List.getElem_cons_zero]; first | (go_simp; with_reducible rfl) | (go_simp; done) | rfl)
  simp only [List.getElem_toArray, List.getElem_cons_succ, List.getElem_cons_zero, Act.put, List.setIfInBounds_toArray, List.set_cons_zero, List.set_cons_succ]
  -- 5: Op.call { callee := Callee.value (Operand.func 17), args := 
  refine anyZ_one (i := 5) hcl6 (by kernel_rfl) (by simp only [List.getElem?_toArray, List.getElem?_cons_succ, List.getElem?_cons_zero]; rfl) (by rfl) (fun hcl7 K hK => ?_)
  go_simp
  refine (cut_any (.slice a2 m2 c2) PA.data 491 (by omega) (by omega) _ (HYA.out.below (bdr (bre W4)))).mono ?_
  rintro e w5 ⟨v5, rfl, ho5, hb5⟩
  rw [show (491 : Int).toNat = 491 by rfl] at ho5
  have hb45 := btr (bdr (bre W4)) hb5
  obtain ⟨a25, m25, c25, rfl⟩ := ho5.isSlice
  have HB45 := Lib.hid hb45
  have HO5 := Lib.hid ho5
  clear ho5 hb45
  refine hK _ _ (fun _ => ?_) ?_
  · exact HQ1.out.below HB45.out
  clear hK K hHeld
  try simp only [Act.put, List.setIfInBounds_toArray, List.set_cons_zero, List.set_cons_succ]
  refine anyZ_chain_at (by kernel_rfl) ?_
  simp only [List.drop_succ_cons, List.drop_zero]
  have hr1 := HQ1.out.below HB45.out
  have hk1 : ((PA.may.kind : Nat) : Int) = max (PA.kind : Int) 1 := by show ((max PA.kind 1 : Nat) : Int) = _; omega
  obtain ⟨t1, t3, t4⟩ := one_put hr1 PA.may (.slice a25 m25 c25) rfl rfl rfl
  rw [hk1] at t1 t3 t4
  have l1 := HQ1.out.lt
  have mA := Own8.bytes (own_only HO5.out t3 (fun k hk e => by
    have h1 := (World.ownsRow.lt HO5.out k hk).1
    have h2 : W4.heap.size ≤ k := h1
    omega))
  have t5 := t4 w.heap.size w (by have := HN2.out; omega) (HBE.out.trans (HB45.out.mono HBE.out.size))
  have z0 := hr1.c0
  have z1 := hr1.c1
  have z2 := hr1.c2
  have z3 := hr1.c3
  have z4 := hr1.c4
  have zf := hr1.fz
  have HT1 := Lib.hid t1
  have HT5 := Lib.hid t5
  have HMA := Lib.hid mA
  clear t1 t3 t4 t5 mA hr1 hk1 l1 HQ1 HYA HBE HO5 HB45 hcl0 hcl1 hcl2 hcl3 hcl4 hcl5 hcl6 hcl7 hb5
  go_upto_region 5 with fail
  have hq1 := HT1.out
  have hya := HMA.out
  have hbe := HT5.out
  clear HT1 HT5 HMA z0 z1 z2 z3 z4 zf
  generalize ((w5.setCell ⟨n2, 3, none⟩ (.int .u8 (max (PA.kind : Int) 1))).setCell ⟨n2, 4, none⟩ (.slice a25 m25 c25)) = W5 at *
  have ka := may_kind PA
  have da := may_data PA
  have oa := OA.out
  rw [← HAA.out] at oa
  have hya' : Bytes W5 (.slice a25 m25 c25) PA.may.data := hya
  clear hya OA HAA
  generalize PA.may = XA at *
  have hpar := parseOf_seal XA oa ka da
  have hla : (seal8 XA.raw).length = 512 := by rw [seal_length, raw_length _ da]
  have HYA := Lib.hid (PgAt.mk' hya')
  have HBE := Lib.hid hbe
  have HR1 := Lib.hid hq1
  obtain ⟨s, hs⟩ : ∃ s, s = at' % 4096 := ⟨_, rfl⟩
  have hsi : (at' : Int) % 4096 = (s : Int) := by omega
  have hs4 : s < 4096 := by omega
  have hcor := parse_turned XA oa ka da s mask (turns8 s mask 32 (seal8 XA.raw)) rfl
  have HOA := Lib.hid oa
  have HKA := Lib.hid ka
  have HDA := Lib.hid da
  obtain ⟨qa, hqa⟩ : ∃ q, q = seal8 XA.raw := ⟨_, rfl⟩
  rw [← hqa] at hpar hla hcor
  have HQA := Lib.hid hqa
  have HPAR := Lib.hid hpar
  have HLA := Lib.hid hla
  have HCOR := Lib.hid hcor
  have c0 := hq1.c0
  have c1 := hq1.c1
  have c2' := hq1.c2
  have c3' := hq1.c3
  have c4 := hq1.c4
  clear hpar hla hya' hbe hq1 oa ka da hqa hcor hs
  unfold PgVal at HYA
  go_wp2_with fail
  refine (pbytes_ok _ XA W5 HYA.out HOA.out HKA.out HDA.out).mono ?_
  rintro e w6 ⟨v6, rfl, ho6, hb6⟩
  rw [← HQA.out] at ho6
  obtain ⟨g6, k6, rfl, -, -, -⟩ := ho6.shape (by intro h; have := HLA.out; rw [h] at this; cases this)
  have hla := HLA.out
  rw [hla] at ho6 ⊢
  have HO6 := Lib.hid ho6
  have HBE6 := Lib.hid (HBE.out.trans (hb6.mono HBE.out.size))
  have HR6 := Lib.hid (HR1.out.below hb6)
  have HYA6 := Lib.hid (HYA.out.below hb6)
  clear c0 c1 c2' c3' c4 hla ho6 hb6 HR1 HYA HBE
  go_wp2_with fail
  have hrl := rows_lit1 w6 (.slice (some ⟨g6, 0, none⟩) 512 k6) qa 23 w6.heap.size rfl HO6.out.bytes
  have hb7 := bal (bre w6) (.cells #[.slice (some ⟨g6, 0, none⟩) 512 k6] 23)
  generalize w6.alloc (.cells #[.slice (some ⟨g6, 0, none⟩) 512 k6] 23) = w7 at *
  have hfl : [qa].flatten = qa := by simp
  refine (join_any _ [qa] w7 hrl (by rw [hfl, HLA.out]; omega)).mono ?_
  rintro e w8 ⟨v8, rfl, ho8, hb8⟩
  rw [hfl] at ho8
  obtain ⟨g, c, rfl, hg8, -, -⟩ := ho8.shape (by intro h; have := HLA.out; rw [h] at this; cases this)
  have hla := HLA.out
  rw [hla] at ho8 ⊢
  have HO8 := Lib.hid ho8
  have HB8 := Lib.hid hb8
  have HO67 := Lib.hid (Own8.kept HO6.out (Nat.le_refl _) hb7).bytes
  have HR7 := Lib.hid (HR6.out.below hb7)
  have HYA7 := Lib.hid (HYA6.out.below hb7)
  have HBE7 := Lib.hid (HBE6.out.trans (hb7.mono HBE6.out.size))
  clear hrl hb7 hfl hla ho8 hb8 hg8 HO6 HR6 HYA6 HBE6
  go_wp2_with fail
  go_loopw [10, 11, 36] (fun _ _ i wr => ∃ k : Nat, k ≤ 32 ∧ i = .int .i64 k ∧ TurnRel w7 s mask g c qa k wr) (fun _ _ i _ => 32 - (intOf i).toNat)
  case atStart => exact ⟨0, by omega, rfl, HO8.out, HB8.out⟩
  case round =>
    obtain ⟨k, hk, rfl, hr⟩ := hrel
    by_cases hlt32 : k < 32
    · obtain ⟨b, hbe⟩ : ∃ b, b = s + k := ⟨_, rfl⟩
      have hbi : (s : Int) + k = (b : Int) := by omega
      have hlq : (turns8 s mask k qa).length = 512 := by rw [length_turns8]; exact HLA.out
      by_cases hbit : b < 4096
      · by_cases hone : mask / 2 ^ k % 2 = 1
        · have hm1 : (((mask : Int) / 2 ^ k).tmod 2 == 1) = true := (mask_bit mask k).trans (by simp [hone])
          obtain ⟨hcell, hfr⟩ := hr.own.cell (b / 8) (by omega)
          have hnext : turns8 s mask (k + 1) qa = turn8 (turns8 s mask k qa) b := by
            simp only [turns8]; rw [← hbe, if_pos ⟨by rw [HLA.out]; omega, hone⟩]
          have hput : turn8 (turns8 s mask k qa) b = (turns8 s mask k qa).set (b / 8) ((turns8 s mask k qa)[b / 8]'(by omega) ^^^ UInt8.ofNat (2 ^ (b % 8))) := by
            unfold turn8
            rw [List.getD_eq_getElem?_getD, List.getElem?_eq_getElem (by omega)]
            rfl
          have hst := hr.own.store (b / 8) ((turns8 s mask k qa)[b / 8]'(by omega) ^^^ UInt8.ofNat (2 ^ (b % 8)))
          rw [← hput, ← hnext, turn8_byte _ _ (by omega)] at hst
          have HST := Lib.hid hst
          unfold B8 at hcell
          have hx := ((turns8 s mask k qa)[b / 8]'(by omega)).toNat_lt
          generalize ((turns8 s mask k qa)[b / 8]'(by omega)).toNat = x at *
          have hb8 : (b : Int) / 8 < 512 := by omega
          have hbel := Lib.hid hr.below
          have hd : decide ((b : Int) < 4096) = true := decide_eq_true (by omega)
          have HS4 := Lib.hid hs4
          have HBIT := Lib.hid hbit
          clear hst hput hone hnext hlq hbe hr hs4 hbit
          go_wp2_with fail
          go_region
          go_wp2
          go_roundw
          case rel =>
            refine ⟨k + 1, by omega, by go_num, ?_, ?_⟩
            · rw [xor_byte x (b % 8) hx (by omega)]
              exact World.ownsRow.drew HST.out.1
            · rw [xor_byte x (b % 8) hx (by omega)]
              exact (hbel.out.trans HST.out.2).drew
          case measure => simp [intOf]; try omega
        · have hm1 : (((mask : Int) / 2 ^ k).tmod 2 == 1) = false := (mask_bit mask k).trans (by simp [hone])
          have hnext : turns8 s mask (k + 1) qa = turns8 s mask k qa := by
            simp only [turns8]; rw [if_neg (fun h => hone h.2)]
          have hr1 : TurnRel w7 s mask g c qa (k + 1) wr := ⟨by rw [hnext]; exact hr.own, hr.below⟩
          have HR1 := Lib.hid hr1
          have hd : decide ((b : Int) < 4096) = true := decide_eq_true (by omega)
          clear hone hnext hlq hbe hr hr1 hs4 hbit
          go_wp2
          go_roundw
          case rel => exact ⟨k + 1, by omega, by go_num, HR1.out⟩
          case measure => simp [intOf]; try omega
      · have hd : decide ((b : Int) < 4096) = false := by simp; omega
        have hnext : turns8 s mask (k + 1) qa = turns8 s mask k qa := by
          simp only [turns8]; rw [if_neg (fun h => hbit (by have := h.1; rw [HLA.out] at this; omega))]
        have hr1 : TurnRel w7 s mask g c qa (k + 1) wr := ⟨by rw [hnext]; exact hr.own, hr.below⟩
        have HR1 := Lib.hid hr1
        clear hnext hlq hbe hr hr1 hs4 hbit
        go_wp2
        go_roundw
        case rel => exact ⟨k + 1, by omega, by go_num, HR1.out⟩
        case measure => simp [intOf]; try omega
    · have e32 : k = 32 := by omega
      subst e32
      obtain ⟨q', hqe'⟩ : ∃ q', q' = turns8 s mask 32 qa := ⟨_, rfl⟩
      have hown := hr.own
      have hbr := hr.below
      have hcor := HCOR.out
      rw [← hqe'] at hown hcor
      have HQ' := Lib.hid hown.bytes
      have HBR := Lib.hid hbr
      have HCOR' := Lib.hid hcor
      have hqb := HO67.out.below hbr
      have hrr := HR7.out.below hbr
      have HQB := Lib.hid hqb
      have HRR := Lib.hid hrr
      have HYR := Lib.hid (HYA7.out.below hbr)
      have HBER := Lib.hid (HBE7.out.trans (hbr.mono HBE7.out.size))
      clear hr hown hbr hcor hqe' hqb hrr hlt32 HCOR HO67 HR7 HYA7 HBE7 HO8 HB8 hsi hk
      go_wp2_with fail
      refine (parse_any _ q' wr HQ'.out).mono ?_
      rintro e w9 ⟨vx, rfl, hox, hb9⟩
      unfold PgVal
      obtain ⟨ax, mx, cx, rfl⟩ := hox.isSlice
      by_cases heq : q' = qa
      · have hp : parseOf q' = (0, XA) := by rw [heq]; exact HPAR.out
        rw [hp] at hox ⊢
        have HB9 := Lib.hid hb9
        have HOX := Lib.hid hox
        have HEQ := Lib.hid heq
        clear hox hb9 heq hp
        go_upto_region 17 with fail
        have hb10 := bal HB9.out (.cells #[.int .u32 XA.gen, .int .u32 XA.serial, .int .u32 XA.number, .int .u8 XA.kind, .slice ax mx cx] 25)
        have hr10 : Row5 _ w9.heap.size XA (.slice ax mx cx) := heap_alloc_new w9 (.cells #[.int .u32 XA.gen, .int .u32 XA.serial, .int .u32 XA.number, .int .u8 XA.kind, .slice ax mx cx] 25)
        have hx10 := HOX.out.bytes.below (bal (bre w9) (.cells #[.int .u32 XA.gen, .int .u32 XA.serial, .int .u32 XA.number, .int .u8 XA.kind, .slice ax mx cx] 25))
        generalize w9.alloc (.cells #[.int .u32 XA.gen, .int .u32 XA.serial, .int .u32 XA.number, .int .u8 XA.kind, .slice ax mx cx] 25) = W10 at *
        obtain ⟨n12, hn12⟩ : ∃ n, n = w9.heap.size := ⟨_, rfl⟩
        rw [← hn12] at hr10 ⊢
        have HB10 := Lib.hid hb10
        have HR10 := Lib.hid hr10
        have HX10 := Lib.hid (PgAt.mk' hx10 : PgAt W10 (PgVal XA (.slice ax mx cx)) XA)
        unfold PgVal at HX10
        clear hb10 hr10 hx10 hn12 HB9 HOX
        go_wp2_with fail
        refine (same_any _ _ q' qa W10 (HQ'.out.below HB10.out) (HQB.out.below HB10.out)).mono ?_
        rintro e w11 ⟨rfl, n11, rfl⟩
        rw [decide_eq_true HEQ.out]
        have hb11 := bdn (bre W10) n11
        have e0 := (HR10.out.below hb11).c0
        have e1 := (HR10.out.below hb11).c1
        have e2 := (HR10.out.below hb11).c2
        have e3 := (HR10.out.below hb11).c3
        have e4 := (HR10.out.below hb11).c4
        have i0 := ((HRR.out.below HB10.out).below hb11).c0
        have i1 := ((HRR.out.below HB10.out).below hb11).c1
        have i2 := ((HRR.out.below HB10.out).below hb11).c2
        have i3 := ((HRR.out.below HB10.out).below hb11).c3
        have i4 := ((HRR.out.below HB10.out).below hb11).c4
        have HX11 := Lib.hid (HX10.out.below hb11)
        have HY11 := Lib.hid ((HYR.out.below HB10.out).below hb11)
        have HF := Lib.hid (HBER.out.trans ((btr HB10.out hb11).mono HBER.out.size))
        generalize W10.drewN n11 = W11 at *
        clear hb11
        go_wp2_with fail
        refine (psame_any _ _ XA XA W11 HX11.out HY11.out).mono ?_
        rintro e w12 ⟨rfl, hb12⟩
        rw [pgSame_self]
        have HFF := Lib.hid (HF.out.trans (hb12.mono HF.out.size))
        clear e0 e1 e2 e3 e4 i0 i1 i2 i3 i4 hb12
        go_wp2_with fail
        go_ret
        exact ⟨rfl, HFF.out⟩
      · have hp := HCOR'.out heq
        rw [hp] at hox ⊢
        have HB9 := Lib.hid hb9
        have HNE := Lib.hid heq
        clear hox hb9 heq hp
        go_upto_region 17 with fail
        have hb10 := bal HB9.out (.cells #[.int .u32 Pg.zero.gen, .int .u32 Pg.zero.serial, .int .u32 Pg.zero.number, .int .u8 Pg.zero.kind, .slice ax mx cx] 25)
        generalize w9.alloc (.cells #[.int .u32 Pg.zero.gen, .int .u32 Pg.zero.serial, .int .u32 Pg.zero.number, .int .u8 Pg.zero.kind, .slice ax mx cx] 25) = W10 at *
        have HB10 := Lib.hid hb10
        clear hb10
        go_wp2_with fail
        refine (same_any _ _ q' qa W10 (HQ'.out.below HB10.out) (HQB.out.below HB10.out)).mono ?_
        rintro e w11 ⟨rfl, n11, rfl⟩
        rw [decide_eq_false HNE.out]
        have HF := Lib.hid (HBER.out.trans ((btr HB10.out (bdn (bre W10) n11)).mono HBER.out.size))
        go_wp2_with fail
        go_ret
        exact ⟨rfl, HF.out⟩
end Go.Proofs.YtbdjjjnajkeceaaDoor
