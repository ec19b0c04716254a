/- Walks of the law: the sectors of a half; a record. -/
import Derived.Test.YtacfkhnajdneeaaDoorRlLive
import Derived.Test.YtacfkhnajdneeaaDoorPreA
namespace Go.Proofs.YtacfkhnajdneeaaDoor
open Go.RowKit

theorem run_make8k {P : Program} (w : World) {t e : TypeId} (T : MakeTy P t e) (k : IntKind) (n : Nat) (hn : n ≤ 1000000) :
    ∃ w', (Instr.makeSlice t (.int k n) (.int k n)).run P w = .ok (.slice (some ⟨w.heap.size, 0, none⟩) n n) w' ∧ Own8 e w.heap.size w' (.slice (some ⟨w.heap.size, 0, none⟩) n n) (List.replicate n 0) ∧ Below w.heap.size w w' := by
  obtain ⟨i, hi, hz, hs, hb⟩ := T.ex
  obtain ⟨w', hrun, r1, r2⟩ := run_make_full (P := P) w w.heap.size t e i (.int .u8 0) 1 T.ht hi hz hs k k n (by rw [hb]; omega) (by unfold maxLen; omega) (Nat.le_refl _)
  rw [made8] at r1
  exact ⟨w', hrun, by unfold Own8; rw [List.length_replicate]; exact r1, ⟨r2.os, r2.tape, r2.output, r2.size, fun k hk => r2.block k hk (by simp)⟩⟩

theorem own8_put {base g c : Nat} {w : World} {l : List UInt8} (h : Own8 5 base w (.slice (some ⟨g, 0, none⟩) l.length c) l) (i : Nat) (b : UInt8) : Own8 5 base (w.setCell ⟨g, i, none⟩ (B8 b)) (.slice (some ⟨g, 0, none⟩) l.length c) (l.set i b) := by
  have := (World.ownsRow.stored h i (B8 b)).1
  unfold Own8
  rw [List.length_set, List.map_set]
  exact this

/-- the bytes of an act's record -/
def recOf (m B : Nat) : List UInt8 := (List.range m).map fun i => UInt8.ofNat (B + i)
def recAt (m B k : Nat) : List UInt8 := (recOf m B).take k ++ List.replicate (m - k) 0
theorem recOf_len (m B : Nat) : (recOf m B).length = m := by unfold recOf; simp
theorem recAt_len (m B k : Nat) (hk : k ≤ m) : (recAt m B k).length = m := by unfold recAt; rw [List.length_append, List.length_take, recOf_len, List.length_replicate]; omega
theorem recAt_next (m B k : Nat) (hk : k < m) : (recAt m B k).set k (UInt8.ofNat (B + k)) = recAt m B (k + 1) := by
  have hl := recOf_len m B
  have hg : (recOf m B)[k]? = some (UInt8.ofNat (B + k)) := by unfold recOf; rw [List.getElem?_map, List.getElem?_range hk]; rfl
  unfold recAt
  rw [List.set_append_right _ _ (by rw [List.length_take]; omega), List.length_take, Nat.min_eq_left (by omega), Nat.sub_self, List.take_succ_eq_append_getElem (by omega), (List.getElem?_eq_some_iff.1 hg).2, show m - k = (m - (k + 1)) + 1 by omega, List.replicate_succ, List.set_cons_zero, List.append_assoc]
  rfl
theorem recAt_zero (m B : Nat) : recAt m B 0 = List.replicate m 0 := by unfold recAt; simp
theorem recAt_all (m B : Nat) : recAt m B m = recOf m B := by unfold recAt; rw [List.take_of_length_le (by rw [recOf_len]; exact Nat.le_refl _)]; simp

set_option maxRecDepth 20000 in
set_option maxHeartbeats 1600000 in
theorem half_any (gd : Nat) (d : Dk) (F : Nat → Prop) (c : Cr) (w : World) (hd : DiskAt w gd d F) (hh : c.half < 256) (hw : d.wait.length ≤ 1000000) :
    Calls Tryd.prog 27 #[.pointer (some ⟨gd, 0, none⟩), CrVal c] w fun e w' => ∃ v', e = .returned v' ∧ RecsAt w.heap.size w' v' (halfOf d (c.from d.safe.length).1 (c.from d.safe.length).2) ∧ Below w.heap.size w w' := by
  have hfew := hd.ok.few
  have HD := Lib.hid hd
  have HW := Lib.hid hw
  have hle := cr_from_le c d.safe.length
  have HFA : Hid (∀ w1, Calls Tryd.prog 34 #[CrVal c, .int .i64 d.safe.length] w1 fun e w' => e = .returned (.tuple #[.int .i64 (c.from d.safe.length).1, .int .i64 (c.from d.safe.length).2]) ∧ Below w1.heap.size w1 w') := Lib.hid fun w1 => from_any c d.safe.length (by omega) hh w1
  obtain ⟨fr, hfr⟩ : ∃ x, x = (c.from d.safe.length).1 := ⟨_, rfl⟩
  obtain ⟨n, hn⟩ : ∃ x, x = (c.from d.safe.length).2 := ⟨_, rfl⟩
  rw [← hfr, ← hn] at hle HFA
  rw [← hfr, ← hn]
  obtain ⟨N, hN⟩ : ∃ N, N = d.safe.length := ⟨_, rfl⟩
  rw [← hN] at hle hfew HFA
  have HN := Lib.hid hN
  unfold CrVal at HFA ⊢
  obtain ⟨n3, hn3⟩ : ∃ n, n = w.heap.size := ⟨_, rfl⟩
  clear hd hw hfr hn hN hh
  go_enter Tryd.func27, Tryd.ntmps27
  go_upto_region 2 with fail
  have hb0 := bal (bre w) (.cells #[.int .u32 c.gen, .int .u8 c.half, .int .u32 c.serial] 36)
  have hr1 := heap_alloc_new w (.cells #[.int .u32 c.gen, .int .u8 c.half, .int .u32 c.serial] 36)
  generalize w.alloc (.cells #[.int .u32 c.gen, .int .u8 c.half, .int .u32 c.serial] 36) = W at *
  rw [← hn3] at hr1 ⊢
  have hcr : Row3 W n3 c := hr1
  have HCR := Lib.hid hcr
  have HB0 := Lib.hid hb0
  clear hb0 hr1 hcr hn3
  refine region_anyZ (z := 7) (S := fun w' => (w'.cell? ⟨n3, 0, none⟩ = some (.int .u32 c.gen) ∧ w'.cell? ⟨n3, 1, none⟩ = some (.int .u8 c.half) ∧ w'.cell? ⟨n3, 2, none⟩ = some (.int .u32 c.serial))) (by kernel_rfl) ?_
  refine anyZ_begin (fun hcl0 => ?_)
  refine anyZ_held (by exact ⟨(HCR.out.below (bdr (bre W))).c0, (HCR.out.below (bdr (bre W))).c1, (HCR.out.below (bdr (bre W))).c2⟩) (fun hHeld => ?_)
  -- 0: Op.load 36 (Operand.tmp 3)
  refine' anyZ_take (i := 0) (v := _) rfl (by rfl) (by kernel_rfl) (by kernel_rfl) (by kernel_rfl) hcl0 8 (by kernel_rfl) (by kernel_rfl) (fun _ _ _ h => h) (Or.inl ⟨by rfl, fun w hSw => ?hy1⟩) hHeld (fun hcl1 => ?ry1)
  case hy1 => (simp only [List.getElem_toArray, List.getElem_cons_zero]; obtain ⟨hS1, hS2, hS3⟩ := hSw; first | (go_simp; with_reducible rfl) | (go_simp; done) | rfl)
  simp only [List.getElem_toArray, List.getElem_cons_zero, Act.put, List.setIfInBounds_toArray, List.set_cons_zero, List.set_cons_succ]
  -- 1: Op.move (Operand.tmp 0)
  refine' anyZ_pure (i := 1) (v := _) rfl (by rfl) (by kernel_rfl) (by kernel_rfl) (by kernel_rfl) hcl1 (fun _ _ _ h => h) (Or.inl ⟨by rfl, fun w _ => ?hy2⟩) (fun _ => hHeld) (fun hcl2 => ?ry2)
  case hy2 => (simp only [List.getElem_toArray, List.getElem_cons_succ, List.getElem_cons_zero]; first | (go_simp; with_reducible rfl) | (go_simp; done) | rfl)
  simp only [List.getElem_toArray, List.getElem_cons_succ, List.getElem_cons_zero, Act.put, List.setIfInBounds_toArray, List.set_cons_zero, List.set_cons_succ]
  -- 2: Op.call { callee := Callee.value (Operand.func 35), args := 
  refine anyZ_one (i := 2) hcl2 (by kernel_rfl) (by simp only [List.getElem?_toArray, List.getElem?_cons_succ, List.getElem?_cons_zero]; rfl) (by rfl) (fun hcl3 K hK => ?_)
  go_simp
  refine (sectors_any gd d F _ (HD.out.below (btr HB0.out (bdr (bre W))))).mono ?_
  rintro e w2 ⟨rfl, hw⟩
  have hw' := hw.symm
  subst hw'
  clear hw
  rw [← HN.out]
  refine hK _ _ (fun _ => ?_) ?_
  · exact ⟨(HCR.out.below (bdr (bre W))).c0, (HCR.out.below (bdr (bre W))).c1, (HCR.out.below (bdr (bre W))).c2⟩
  clear hK K hHeld
  have hHeld := (⟨(HCR.out.below (bdr (bre W))).c0, (HCR.out.below (bdr (bre W))).c1, (HCR.out.below (bdr (bre W))).c2⟩ : _ ∧ _ ∧ _)
  try simp only [Act.put, List.setIfInBounds_toArray, List.set_cons_zero, List.set_cons_succ]
  -- 3: Op.call { callee := Callee.value (Operand.func 34), args := 
  refine anyZ_one (i := 3) hcl3 (by kernel_rfl) (by simp only [List.getElem?_toArray, List.getElem?_cons_succ, List.getElem?_cons_zero]; rfl) (by rfl) (fun hcl4 K hK => ?_)
  go_simp
  refine (HFA.out _).mono ?_
  rintro e w5 ⟨rfl, hb5⟩
  have hb5' := btr (bdr (bre W)) hb5
  have HB5 := Lib.hid (btr HB0.out hb5')
  have HCR5 := Lib.hid (HCR.out.below hb5')
  clear hb5 hb5'
  refine hK _ _ (fun _ => ?_) ?_
  · exact ⟨HCR5.out.c0, HCR5.out.c1, HCR5.out.c2⟩
  clear hK K hHeld
  have hHeld := (⟨HCR5.out.c0, HCR5.out.c1, HCR5.out.c2⟩ : _ ∧ _ ∧ _)
  try simp only [Act.put, List.setIfInBounds_toArray, List.set_cons_zero, List.set_cons_succ]
  -- 4: Op.move (Operand.tmp 15)
  refine' anyZ_pure (i := 4) (v := _) rfl (by rfl) (by kernel_rfl) (by kernel_rfl) (by kernel_rfl) hcl4 (fun _ _ _ h => h) (Or.inl ⟨by rfl, fun w _ => ?hy5⟩) (fun _ => hHeld) (fun hcl5 => ?ry5)
  case hy5 => (simp only [List.getElem_toArray, List.getElem_cons_succ, List.getElem_cons_zero]; first | (go_simp; with_reducible rfl) | (go_simp; done) | rfl)
  simp only [List.getElem_toArray, List.getElem_cons_succ, List.getElem_cons_zero, Act.put, List.setIfInBounds_toArray, List.set_cons_zero, List.set_cons_succ]
  -- 5: Op.extract (Operand.tmp 11) 0
  refine' anyZ_pure (i := 5) (v := _) rfl (by rfl) (by kernel_rfl) (by kernel_rfl) (by kernel_rfl) hcl5 (fun _ _ _ h => h) (Or.inl ⟨by rfl, fun w _ => ?hy6⟩) (fun _ => hHeld) (fun hcl6 => ?ry6)
  case hy6 => (simp only [List.getElem_toArray, List.getElem_cons_succ, List.getElem_cons_zero]; first | (go_simp; with_reducible rfl) | (go_simp; done) | rfl)
  simp only [List.getElem_toArray, List.getElem_cons_succ, List.getElem_cons_zero, Act.put, List.setIfInBounds_toArray, List.set_cons_zero, List.set_cons_succ]
  -- 6: Op.extract (Operand.tmp 11) 1
  refine' anyZ_pure (i := 6) (v := _) rfl (by rfl) (by kernel_rfl) (by kernel_rfl) (by kernel_rfl) hcl6 (fun _ _ _ h => h) (Or.inl ⟨by rfl, fun w _ => ?hy7⟩) (fun _ => hHeld) (fun hcl7 => ?ry7)
  case hy7 => (simp only [List.getElem_toArray, List.getElem_cons_succ, List.getElem_cons_zero]; first | (go_simp; with_reducible rfl) | (go_simp; done) | rfl)
  simp only [List.getElem_toArray, List.getElem_cons_succ, List.getElem_cons_zero, Act.put, List.setIfInBounds_toArray, List.set_cons_zero, List.set_cons_succ]
  clear hHeld
  refine anyZ_chain_at (by kernel_rfl) ?_
  simp only [List.drop_succ_cons, List.drop_zero]
  clear HCR HB0 HFA HCR5
  go_wp2_with fail
  go_loopw [5, 8, 9, 10, 19] (fun out _ _ _ i wr => ∃ k : Nat, k ≤ n ∧ i = .int .i64 k ∧ Hid (RecsAt w.heap.size wr out ((halfOf d fr n).take k)) ∧ Hid (Below w.heap.size w wr)) (fun _ _ _ _ i _ => n - (intOf i).toNat)
  case atStart => exact ⟨0, by omega, rfl, Lib.hid (RecsAt.nil _ _), HB5⟩
  case round =>
    obtain ⟨k, hk, rfl, hown, hb⟩ := hrel
    by_cases hlt : k < n
    · have d1 : decide ((k : Int) < (n : Int)) = true := decide_eq_true (by omega)
      have d1n : decide (k < n) = true := decide_eq_true hlt
      obtain ⟨m, hm⟩ : ∃ m, m = fr + k := ⟨_, rfl⟩
      have hadd : IntKind.i64.wrap (m : Int) = (m : Int) := by rw [IntKind.wrap_i64]; omega
      have hadd2 : (fr : Int) + (k : Int) = (m : Int) := by omega
      have HTS := Lib.hid (half_take d fr n k hlt)
      have htl : ((halfOf d fr n).take k).length ≤ 5000 := by rw [List.length_take]; omega
      have HTL := Lib.hid htl
      have HM := Lib.hid hm
      clear hm htl
      go_wp2_with fail
      refine (dread_ok gd d F m wr (HD.out.below hb.out) (by rw [← HN.out]; have := HM.out; omega) HW.out).mono ?_
      rintro e w3 ⟨v3, rfl, ho3, hb3⟩
      have HB3 := Lib.hid (btr hb.out hb3)
      have HO3 := Lib.hid (hown.out.below hb3)
      have HRC := Lib.hid ((Rec8.of_own ho3).low hb.out.size)
      obtain ⟨a3, n3', c3, rfl⟩ := Rec8.isSlice HRC.out
      have hsz := HB3.out.size
      clear ho3 hb3 hown hb hadd hadd2
      go_wp2_with (at_builtin; refine wpList_appRec rfl _ _ rfl w.heap.size _ _ rfl HO3.out _ _ HRC.out _ rfl rfl (by have := HTL.out; omega) hsz ?_; intro v5 w5 ho5 hb5)
      have HB5' := Lib.hid (HB3.out.trans hb5)
      rw [HM.out, ← HTS.out] at ho5
      have HO5 := Lib.hid ho5
      clear ho5 hb5 HB3 HO3 HRC HTS
      go_wp2_with fail
      go_roundw
      case rel => exact ⟨k + 1, by omega, by go_num, HO5, HB5'⟩
      case measure => simp [intOf]; omega
    · have e : k = n := by omega
      have hl : (halfOf d fr n).take k = halfOf d fr n := by rw [e]; exact half_whole d fr n
      have d1 : decide ((k : Int) < (n : Int)) = false := decide_eq_false (by omega)
      have d1n : decide (k < n) = false := decide_eq_false hlt
      rw [hl] at hown
      clear hl e
      go_wp2_with fail
      go_ret
      exact ⟨_, rfl, hown.out, hb.out⟩

theorem mk8R : MakeTy Tryd.prog 23 5 := MakeTy.mk' Tryd.underlying23 (by kernel_rfl)

set_option maxRecDepth 20000 in
set_option maxHeartbeats 1600000 in
theorem record_any (dd N B : Nat) (ka : Option Addr) (kn kc : Nat) (w : World) :
    Calls Tryd.prog 31 #[.agg #[.int .u8 dd, .int .u16 N, .int .u8 B, .slice ka kn kc]] w fun e w' => ∃ v', e = .returned v' ∧ Own8 5 w.heap.size w' v' (recOf (N % 1200) B) ∧ Below w.heap.size w w' := by
  obtain ⟨m, hm⟩ : ∃ m, m = N % 1200 := ⟨_, rfl⟩
  have hr : (N : Int) % 1200 = (m : Int) := by omega
  have hm2 : m ≤ 1200 := by omega
  rw [← hm]
  obtain ⟨n1, hn1⟩ : ∃ n, n = w.heap.size := ⟨_, rfl⟩
  clear hm
  go_enter Tryd.func31, Tryd.ntmps31
  go_upto_region 1 with fail
  have hb0 := bal (bre w) (.cells #[.int .u8 dd, .int .u16 N, .int .u8 B, .slice ka kn kc] 56)
  have hr0 := heap_alloc_new w (.cells #[.int .u8 dd, .int .u16 N, .int .u8 B, .slice ka kn kc] 56)
  generalize w.alloc (.cells #[.int .u8 dd, .int .u16 N, .int .u8 B, .slice ka kn kc] 56) = W at *
  rw [← hn1] at hr0 ⊢
  have x1 := cell_of_row W n1 1 _ _ _ hr0
  have HR0 := Lib.hid hr0
  have HB0 := Lib.hid hb0
  have HNN := Lib.hid hn1
  have HLT : Hid (n1 < W.heap.size) := Lib.hid (Array.getElem?_eq_some_iff.1 hr0).1
  clear hb0 hr0 hn1
  obtain ⟨w1, hrun, ho1, hb1⟩ := run_make8k (P := Tryd.prog) W mk8R .u16 m (by omega)
  have HB1 := Lib.hid (btr HB0.out hb1)
  have hrow1 := (hb1.block n1 HLT.out).trans HR0.out
  obtain ⟨g1, hg1⟩ : ∃ g, g = W.heap.size := ⟨_, rfl⟩
  rw [← hg1] at ho1
  have hne : ¬ (n1 = g1) := by have := HLT.out; omega
  have ho1' : Own8 5 w.heap.size w1 (.slice (some ⟨g1, 0, none⟩) m m) (recAt m B 0) := by rw [recAt_zero]; exact ownsRow_base ho1 (by rw [hg1]; exact HB0.out.size)
  have HO1 := Lib.hid ho1'
  have HROW1 := Lib.hid hrow1
  have HGE : Hid (w.heap.size ≤ g1) := Lib.hid (by rw [hg1]; exact HB0.out.size)
  rw [← hg1] at hrun
  clear ho1 hb1 hrow1 ho1' hg1
  go_wp2_with fail
  clear x1 hr hrun
  go_loopw [4, 11] (fun _ i wr => ∃ k : Nat, k ≤ m ∧ i = .int .i64 k ∧ Hid (Own8 5 w.heap.size wr (.slice (some ⟨g1, 0, none⟩) m m) (recAt m B k)) ∧ Hid (wr.heap[n1]? = some (.cells #[.int .u8 dd, .int .u16 N, .int .u8 B, .slice ka kn kc] 56 (0, 0))) ∧ Hid (Below w.heap.size w wr)) (fun _ i _ => m - (intOf i).toNat)
  case atStart => exact ⟨0, by omega, rfl, HO1, HROW1, HB1⟩
  case round =>
    obtain ⟨k, hk, rfl, hown, hrow, hb⟩ := hrel
    by_cases hlt : k < m
    · have d1 : decide ((k : Int) < (m : Int)) = true := decide_eq_true (by omega)
      have d1n : decide (k < m) = true := decide_eq_true hlt
      have hl := recAt_len m B k hk
      have x2 := cell_of_row wr n1 2 _ _ _ hrow.out
      obtain ⟨kk, hkk⟩ : ∃ x, x = k % 256 := ⟨_, rfl⟩
      obtain ⟨y, hy⟩ : ∃ x, x = (B + k) % 256 := ⟨_, rfl⟩
      have e1 : IntKind.u8.wrap (k : Int) = (kk : Int) := by rw [hkk]; exact wrap8 k
      have e2 : IntKind.u8.wrap ((B : Int) + (kk : Int)) = (y : Int) := by rw [show (B : Int) + (kk : Int) = ((B + kk : Nat) : Int) by omega, wrap8]; omega
      have hv : B8 (UInt8.ofNat (B + k)) = .int .u8 y := by unfold B8; rw [hy]; simp
      have ho' : Own8 5 w.heap.size wr (.slice (some ⟨g1, 0, none⟩) (recAt m B k).length m) (recAt m B k) := by rw [hl]; exact hown.out
      have hp := own8_put ho' k (UInt8.ofNat (B + k))
      rw [recAt_next m B k hlt, hl, hv] at hp
      have HP := Lib.hid hp
      have x5 : wr.cell? ⟨g1, k, none⟩ = some (((recAt m B k).map B8)[k]'(by rw [List.length_map, hl]; exact hlt)) := by
        rw [World.ownsRow.cellAt ho' k (by rw [hl]; omega)]
        rw [List.getElem?_eq_getElem (by rw [List.length_map, hl]; exact hlt)]
      have f5 : wr.frozen? ⟨g1, k, none⟩ = false := World.ownsRow.frozenAt ho' k
      generalize ((recAt m B k).map B8)[k]'(by rw [List.length_map, hl]; exact hlt) = old at x5
      have HR2 : Hid ((wr.setCell ⟨g1, k, none⟩ (.int .u8 y)).heap[n1]? = some (.cells #[.int .u8 dd, .int .u16 N, .int .u8 B, .slice ka kn kc] 56 (0, 0))) := Lib.hid (((Only.setCell wr ⟨g1, k, none⟩ (.int .u8 y)).block n1 (Array.getElem?_eq_some_iff.1 hrow.out).1 hne).trans hrow.out)
      have HB2 : Hid (Below w.heap.size w (wr.setCell ⟨g1, k, none⟩ (.int .u8 y))) := Lib.hid (hb.out.setCell HGE.out _)
      clear hp ho' hv hkk hy hown hrow hb hl
      go_wp2_with fail
      go_roundw
      case rel => exact ⟨k + 1, by omega, by go_num, HP, HR2, HB2⟩
      case measure => simp [intOf]; omega
    · have e : k = m := by omega
      have d1 : decide ((k : Int) < (m : Int)) = false := decide_eq_false (by omega)
      have d1n : decide (k < m) = false := decide_eq_false hlt
      rw [e, recAt_all] at hown
      clear e
      go_wp2_with fail
      go_ret
      exact ⟨_, rfl, hown.out, hb.out⟩
end Go.Proofs.YtacfkhnajdneeaaDoor
