/- Walks: writes and syncs of a disk that has no limit, whatever its number says. -/
import Derived.Test.YtkonjjanoifinaaDkSync
import Derived.Test.YtkonjjanoifinaaDkWrites
namespace Go.Proofs.Ytkonjjanoifinaa
open Go.RowKit

set_option maxRecDepth 10000 in
set_option maxHeartbeats 400000 in
theorem spend_free (g : Nat) (d : Dk) (F : Nat → Prop) (w : World) (h : DiskAt w g d F) (hl0 : d.bound = true → -9223372036854775808 < d.left) (hl1 : d.left ≤ 9223372036854775807) :
    Calls Try.prog 30 #[.pointer (some ⟨g, 0, none⟩)] w fun e w' => e = .returned (.bool d.may) ∧ DiskAt w' g d.spent F ∧ Moved w w' F F ∧ Only w w' (fun k => k = g) := by
  cases hb : d.bound with
  | true => exact spend_any g d F w h (hl0 hb) hl1
  | false =>
    have HD := Lib.hid h
    obtain ⟨h0, vs, vw, h1, h2, h3, h4⟩ := h
    obtain ⟨_, _, _, c3, c4, fr⟩ := row5 h1
    clear h1 h2 h3 h4 h0 hl0
    unfold Dk.spent Dk.may
    rw [hb] at c3 ⊢
    simp only [Bool.false_and, Bool.not_false, Bool.and_false, Bool.false_eq_true, if_false]
    go_enter Try.func30, Try.ntmps30
    go_wp2
    go_ret
    exact ⟨rfl, HD.out, Moved.refl _ _, Only.refl _ _⟩

set_option maxRecDepth 10000 in
set_option maxHeartbeats 3200000 in
theorem write_ok_free (g : Nat) (d : Dk) (F : Nat → Prop) (i : Nat) (v : Value) (p : List UInt8) (w : World) (h : DiskAt w g d F) (hi : i < d.safe.length) (hm : d.may = true) (hv : Bytes w v p) (hp : p.length = 512)
    (hl0 : d.bound = true → -9223372036854775808 < d.left) (hl1 : d.left ≤ 9223372036854775807) (hc : d.count ≤ 1000000) (hw : d.wait.length ≤ 1000000) :
    Calls Try.prog 14 #[.pointer (some ⟨g, 0, none⟩), .int .i64 i, v] w fun e w' => ∃ F', e = .returned (.int .i64 0) ∧ DiskAt w' g (d.wrote i p) F' ∧ Moved w w' F F' := by
  have ht := there_any g d F i w h
  rw [if_pos (by omega)] at ht
  have HT := Lib.hid ht
  have hs := spend_free g d F w h hl0 hl1
  rw [hm] at hs
  have HS := Lib.hid hs
  have hap := h.apart hv
  obtain ⟨a, c, rfl, hpm, hpc, _⟩ := id hv
  rw [hp] at hpc ⊢
  have HP := Lib.hid hp
  have HAP := Lib.hid hap
  have HV := Lib.hid hv
  clear ht hs hap hv hp hpm
  go_enter Try.func14, Try.ntmps14
  go_wp2_with (go_at_call 31; refine HT.out.mono ?_; rintro e w1 ⟨rfl, rfl⟩)
  refine HS.out.mono ?_
  rintro e w2 ⟨rfl, hd2, hm2, ho2⟩
  have hv2 := HV.out.only ho2 HAP.out
  rw [d.spent_bound hm] at hd2
  rw [HP.out] at hv2
  have hsz := hm2.only.size
  obtain ⟨z, hzs, hzo, hz⟩ := zeroW'
  have hzne : z ≠ #[] := by rintro rfl; simp at hzs
  obtain ⟨y, hy⟩ : ∃ y : Array Value, y = z.setIfInBounds 0 (.int .i64 (i : Int)) := ⟨_, rfl⟩
  have hyl : y.size = 513 := by rw [hy, Array.size_setIfInBounds, hzs]
  have hy0 : ∃ r : List Value, y.toList = .int .i64 i :: r ∧ r.length = 512 := by
    have hl : z.toList.length = 513 := by rw [Array.length_toList, hzs]
    obtain ⟨zl, hzl⟩ : ∃ zl, zl = z.toList := ⟨_, rfl⟩
    rw [hy, Array.toList_setIfInBounds, ← hzl]
    rw [← hzl] at hl
    cases zl with
    | nil => cases hl
    | cons x r => exact ⟨r, rfl, by simpa using hl⟩
  have hib : (Try.prog.info? 69).map (·.size) = some (z.setIfInBounds 0 (.int .i64 (i : Int))).size := by rw [← hy, hyl]; exact infoW
  have hzc : z.size = (z.setIfInBounds 0 (.int .i64 (i : Int))).size := by rw [← hy, hyl, hzs]
  have hyo : (z.setIfInBounds 0 (.int .i64 (i : Int))).all (·.oneCell') = true := by
    rw [Array.all_eq_true_iff_forall_mem]
    intro v hv
    have hv' : v ∈ (z.setIfInBounds 0 (.int .i64 (i : Int))).toList := Array.mem_toList_iff.2 hv
    rw [Array.toList_setIfInBounds] at hv'
    rcases List.mem_or_eq_of_mem_set hv' with h | h
    · exact hzo v h
    · rw [h]; rfl
  have HB := Lib.hid hib
  have HZ := Lib.hid hzc
  have HO := Lib.hid hyo
  have HY0 := Lib.hid hy0
  have HY := Lib.hid hy
  clear hib hzc hyo hyl hy hy0 hzo
  go_upto_region 9 with (with_reducible refine wpList_store_new rfl 69 _ _ rfl z (z.setIfInBounds 0 (.int .i64 (i : Int))) w2.heap.size rfl rfl rfl HB.out HZ.out HO.out ?_)
  rw [← HY.out]
  have hbA := bal (bre w2) (.cells y 69)
  have hgA : (w2.alloc (.cells y 69)).heap[w2.heap.size]? = some (.cells y.toList.toArray 69 (0, 0)) := heap_alloc_new w2 _
  have hvA := hv2.below hbA
  generalize w2.alloc (.cells y 69) = WA at *
  have hsA := hbA.size
  have hpl : (p.map B8).length = 512 := by rw [List.length_map]; exact HP.out
  have hfit : 1 + (p.map B8).length ≤ y.toList.length := by
    obtain ⟨r, hr, hrl⟩ := HY0.out
    rw [hr, List.length_cons, hrl, hpl]
    omega
  have hposn : 0 < (p.map B8).length → (some (⟨w2.heap.size, 1, none⟩ : Addr)) = some ⟨w2.heap.size, 1, none⟩ ∧ ∃ ad, a = some ad ∧ ∀ j v, (p.map B8)[j]? = some v → WA.cell? (ad.add j) = some v := by
    intro h0
    refine ⟨rfl, ?_⟩
    obtain ⟨a', c', e, _, _, _, hl⟩ := hvA.lies
    obtain ⟨rfl, _, rfl⟩ := Value.slice.inj e
    rcases hl with h | ⟨g', o', ha, hr⟩
    · rw [h] at h0; simp at h0
    · exact ⟨_, ha, fun j v hj => by rw [Addr.add_mid]; exact hr j v hj⟩
  have hspl : splice y.toList 1 (p.map B8) = wrCells (i, p) := by
    obtain ⟨r, hr, hrl⟩ := HY0.out
    rw [hr]
    exact splice_head _ _ _ (by rw [hrl, hpl])
  have HPN := Lib.hid hposn
  have HF := Lib.hid hfit
  have HPL := Lib.hid hpl
  have HSP := Lib.hid hspl
  have HGA := Lib.hid hgA
  clear hposn hfit hpl hspl hgA hv2 hvA
  go_upto_region 10 with (refine wpList_copy_splice rfl _ _ 22 22 rfl 5 Try.underlying22 (by kernel_rfl) _ _ _ _ _ _ rfl rfl w2.heap.size 1 y.toList 69 HGA.out (p.map B8) HPL.out HPN.out HF.out (B8_one p) w2.heap.size w2 hbA (Nat.le_refl _) ?_; intro w3 hg3 hb3)
  have hg4 := hg3.out
  rw [HSP.out] at hg4
  have hd3 := hd2.below hb3
  have hlt3 : w2.heap.size < w3.heap.size := (Array.getElem?_eq_some_iff.1 hg4).1
  obtain ⟨h30, vs, vw, h31, h32, h33, h34⟩ := hd3
  obtain ⟨a4, c4, rfl, hc4, hm4, hn4, _⟩ := ownsRow_lies h33
  obtain ⟨_, c1, c2, _, _, fr⟩ := row5 h31
  have hrg : w3.rangeAt w2.heap.size 0 (wrCells (i, p)) := fun j u hu => by
    rw [Nat.zero_add, cell_row hg4]; simpa using hu
  have hwl : (wrCells (i, p)).length = 513 := by unfold wrCells; rw [List.length_cons, HPL.out]
  have hia : (Try.prog.info? 69).map (·.size) = some (wrCells (i, p)).length := by rw [hwl]; exact infoW
  have HD2 := Lib.hid hd2
  have H34 := Lib.hid h34
  have H33 := Lib.hid h33
  have H32 := Lib.hid h32
  have H31 := Lib.hid h31
  have HRG := Lib.hid hrg
  have HIA := Lib.hid hia
  have HG4 := Lib.hid hg4
  have HWL := Lib.hid hwl
  clear hd2 h34 h33 h32 h31 hrg hia hg4 hg3 HSP HGA HY0 HY HB HZ HO HPN HF hwl
  have hlt2 : g < w2.heap.size := HD2.out.lt g HD2.out.g
  have hbB := bal (bre w3.drew) (.cells (wrCells (i, p)).toArray 69)
  refine region_anyZ (z := 7) (S := fun w' => w'.cell? ⟨g, 1, none⟩ = some (.slice a4 d.wait.length c4) ∧ w'.rangeAt w2.heap.size 0 (wrCells (i, p))) (by kernel_rfl) ?_
  refine anyZ_begin (fun hcl0 => ?_)
  refine anyZ_held (by exact ⟨c1, HRG.out⟩) (fun hHeld => ?_)
  -- 0: Op.move (Operand.tmp 0)
  refine' anyZ_pure (i := 0) (v := _) rfl (by rfl) (by kernel_rfl) (by kernel_rfl) (by kernel_rfl) hcl0 (fun _ _ _ h => h) (Or.inl ⟨by rfl, fun w _ => ?h1⟩) (fun _ => hHeld) (fun hcl1 => ?r1)
  case h1 => (simp only [List.getElem_toArray, List.getElem_cons_zero]; first | (go_simp; with_reducible rfl) | (go_simp; done) | rfl)
  simp only [List.getElem_toArray, List.getElem_cons_zero, Act.put, List.setIfInBounds_toArray, List.set_cons_zero, List.set_cons_succ]
  -- 1: Op.move (Operand.tmp 0)
  refine' anyZ_pure (i := 1) (v := _) rfl (by rfl) (by kernel_rfl) (by kernel_rfl) (by kernel_rfl) hcl1 (fun _ _ _ h => h) (Or.inl ⟨by rfl, fun w _ => ?h2⟩) (fun _ => hHeld) (fun hcl2 => ?r2)
  case h2 => (simp only [List.getElem_toArray, List.getElem_cons_succ, List.getElem_cons_zero]; first | (go_simp; with_reducible rfl) | (go_simp; done) | rfl)
  simp only [List.getElem_toArray, List.getElem_cons_succ, List.getElem_cons_zero, Act.put, List.setIfInBounds_toArray, List.set_cons_zero, List.set_cons_succ]
  -- 2: Op.nilCheck (Operand.tmp 35)
  refine' anyZ_pure (i := 2) (v := _) rfl (by rfl) (by kernel_rfl) (by kernel_rfl) (by kernel_rfl) hcl2 (fun _ _ _ h => h) (Or.inl ⟨by rfl, fun w _ => ?h3⟩) (fun _ => hHeld) (fun hcl3 => ?r3)
  case h3 => (simp only [List.getElem_toArray, List.getElem_cons_succ, List.getElem_cons_zero]; first | (go_simp; with_reducible rfl) | (go_simp; done) | rfl)
  simp only [List.getElem_toArray, List.getElem_cons_succ, List.getElem_cons_zero, Act.put, List.setIfInBounds_toArray, List.set_cons_zero, List.set_cons_succ]
  -- 3: Op.fieldAddr 63 (Operand.tmp 36) 1
  refine' anyZ_pure (i := 3) (v := _) rfl (by rfl) (by kernel_rfl) (by kernel_rfl) (by kernel_rfl) hcl3 (fun _ _ _ h => h) (Or.inl ⟨by rfl, fun w _ => ?h4⟩) (fun _ => hHeld) (fun hcl4 => ?r4)
  case h4 => (simp only [List.getElem_toArray, List.getElem_cons_succ, List.getElem_cons_zero]; first | (go_simp; with_reducible rfl) | (go_simp; done) | rfl)
  simp only [List.getElem_toArray, List.getElem_cons_succ, List.getElem_cons_zero, Act.put, List.setIfInBounds_toArray, List.set_cons_zero, List.set_cons_succ]
  -- 4: Op.load 61 (Operand.tmp 37)
  refine' anyZ_take (i := 4) (v := _) rfl (by rfl) (by kernel_rfl) (by kernel_rfl) (by kernel_rfl) hcl4 2 (by kernel_rfl) (by kernel_rfl) (fun _ _ _ h => h) (Or.inl ⟨by rfl, fun w hSw => ?h5⟩) hHeld (fun hcl5 => ?r5)
  case h5 => (simp only [List.getElem_toArray, List.getElem_cons_succ, List.getElem_cons_zero]; obtain ⟨hS1, hS2⟩ := hSw; first | (go_simp; with_reducible rfl) | (go_simp; done) | rfl)
  simp only [List.getElem_toArray, List.getElem_cons_succ, List.getElem_cons_zero, Act.put, List.setIfInBounds_toArray, List.set_cons_zero, List.set_cons_succ]
  -- 5: Op.load 69 (Operand.tmp 8)
  refine' anyZ_take (i := 5) (v := _) rfl (by rfl) (by kernel_rfl) (by kernel_rfl) (by kernel_rfl) hcl5 2 (by kernel_rfl) (by kernel_rfl) (fun _ _ _ h => h) (yieldsIf_load_mid (by rfl) 69 _ rfl w2.heap.size 0 rfl (wrCells (i, p)) _ (fun w hSw => hSw.2) Try.underlying69 rfl HIA.out) hHeld (fun hcl6 => ?r6)
  simp only [List.getElem_toArray, List.getElem_cons_succ, List.getElem_cons_zero, Act.put, List.setIfInBounds_toArray, List.set_cons_zero, List.set_cons_succ]
  -- 6: Op.buildSlice 61 1 #[(0, Operand.tmp 39)]
  refine anyZ_one (i := 6) hcl6 (by kernel_rfl) (by simp only [List.getElem?_toArray, List.getElem?_cons_succ, List.getElem?_cons_zero]; rfl) (by rfl) (fun hcl7 K hK => ?_)
  refine wp_buildSlice_row 61 69 513 520 rowW _ rfl (wrCells (i, p)).toArray rfl (by rw [List.size_toArray]; exact HWL.out) (by omega) ?_
  refine hK _ _ (fun _ => ?_) ?_
  · exact ⟨(hbB.cell (p := ⟨g, 1, none⟩) (show g < w3.heap.size by omega)).trans c1, rangeAt_keep (W := w3.drew) HRG.out hlt3 hbB⟩
  clear hK K hHeld
  try simp only [Act.put, List.setIfInBounds_toArray, List.set_cons_zero, List.set_cons_succ]
  refine anyZ_chain_at (by kernel_rfl) ?_
  simp only [List.drop_succ_cons, List.drop_zero]
  have hO5 : (w3.drew.alloc (.cells (wrCells (i, p)).toArray 69)).ownsRow 0 69 513 (.slice a4 d.wait.length c4) d.wait.length (d.wait.flatMap wrCells) := World.ownsRow.alloc H33.out _
  have hS5 : (w3.drew.alloc (.cells (wrCells (i, p)).toArray 69)).ownsRow 0 67 512 vs d.safe.length (d.safe.flatMap secCells) := World.ownsRow.alloc H32.out _
  have hN5 : ∀ j u, (wrCells (i, p))[j]? = some u → (w3.drew.alloc (.cells (wrCells (i, p)).toArray 69)).cell? ((⟨w3.heap.size, 0, none⟩ : Addr).add j) = some u := fun j u hu => by
    have hgN : (w3.drew.alloc (.cells (wrCells (i, p)).toArray 69)).heap[w3.heap.size]? = some (.cells (wrCells (i, p)).toArray 69 (0, 0)) := heap_alloc_new w3.drew _
    rw [Addr.add_mid, Nat.zero_add, cell_row hgN]; simpa using hu
  have hR5 := (hbB.block g (show g < w3.heap.size by omega)).trans H31.out
  have hs5 : (w3.drew.alloc (.cells (wrCells (i, p)).toArray 69)).heap.size = w3.heap.size + 1 := by simp
  have HBB := Lib.hid hbB
  have HO5 := Lib.hid hO5
  have HS5 := Lib.hid hS5
  have HN5 := Lib.hid hN5
  clear hO5 hS5 hN5 hbB
  generalize w3.drew.alloc (.cells (wrCells (i, p)).toArray 69) = W5 at *
  obtain ⟨_, e1, e2, _, _, er⟩ := row5 hR5
  have HR5 := Lib.hid hR5
  clear hR5
  have hone : ∀ u ∈ wrCells (i, p), u.oneCell' = true := fun u hu => by
    unfold wrCells at hu
    rcases List.mem_cons.1 hu with rfl | h
    · rfl
    · exact B8_one _ u h
  have HONE := Lib.hid hone
  clear hone
  have hgne : ∀ k, (Value.slice a4 d.wait.length c4).ownBlock = some k → k ≠ g := fun k hk e => by
    subst e
    exact own_ne HO5.out HR5.out (by decide) hk
  go_wp2_with (at_builtin; refine wpList_app' rfl _ _ 61 69 513 520 rowW rfl 0 _ d.wait.length _ rfl HO5.out ⟨w3.heap.size, 0, none⟩ 1 1 (wrCells (i, p)) rfl HWL.out HN5.out HONE.out (by unfold maxLen; omega) (by omega) (Nat.zero_le _) ?_; intro v' w6 h6 hg6 hs6; obtain ⟨a6, c6, rfl, _⟩ := ownsRow_lies h6; have hR6 := (Only.block (Only.of_grown hg6) g (by have := hg6.size; omega) (fun e => hgne g e rfl)).trans HR5.out; obtain ⟨_, f1, f2, _, _, fr6⟩ := row5 hR6; have HR6 := Lib.hid hR6; have H6 := Lib.hid h6; have HG6 := Lib.hid hg6; have HS6 := Lib.hid hs6; clear hR6 h6 hg6 hs6)
  go_ret
  have hR7 := heap_setCell_same w6 g 1 _ _ (.slice a6 (d.wait.length + 1) c6) HR6.out
  have hR8 := heap_setCell_same _ g 2 _ _ (.int .i64 (d.count + 1 : Int)) hR7
  have hsz6 := HG6.out.size
  have ho8 : Only w6 ((w6.setCell ⟨g, 1, none⟩ (.slice a6 (d.wait.length + 1) c6)).setCell ⟨g, 2, none⟩ (.int .i64 (d.count + 1 : Int))) (fun k => k = g) := (Only.setCell _ _ _).trans (Only.setCell _ _ _) fun _ _ h => h
  refine ⟨rfl, fun k => k = g ∨ vs.ownBlock = some k ∨ (Value.slice a6 (d.wait.length + 1) c6).ownBlock = some k, ⟨⟨h30.safe, fun x hx => ?_, h30.few⟩, vs, .slice a6 (d.wait.length + 1) c6, ?_, ?_, ?_, fun k => Iff.rfl⟩, ?_⟩
  · rcases List.mem_append.1 hx with h | h
    · exact h30.wait x h
    · rw [List.mem_singleton.1 h]; exact ⟨HP.out, hi⟩
  · exact hR8
  · refine own_only (own_only HS5.out (Only.of_grown HG6.out) fun k hk e => ?_) ho8 fun k hk e => ?_
    · rcases own_apart HS5.out HO5.out (by decide) with h | h
      · rw [h] at hk; cases hk
      · exact h (hk.trans e.symm)
    · subst e
      exact own_ne HS5.out HR5.out (by decide) hk
  · have : (d.wrote i p).wait.flatMap wrCells = d.wait.flatMap wrCells ++ wrCells (i, p) := by unfold Dk.wrote; simp
    rw [this]
    have hl : (d.wrote i p).wait.length = d.wait.length + 1 := by unfold Dk.wrote; simp
    rw [hl]
    refine own_only H6.out ho8 fun k hk e => ?_
    subst e
    exact own_ne H6.out HR6.out (by decide) hk
  · have hF := H34.out
    have h12 := hm2.only
    have h23 : Only w2 w3 F := Only.of_below hb3 _
    have h35 : Only w3 W5 F := Only.of_below (show Below w3.heap.size w3 W5 from ⟨HBB.out.os, HBB.out.tape, HBB.out.output, HBB.out.size, HBB.out.block⟩) _
    have h56 : Only W5 w6 F := (Only.of_grown HG6.out).mono fun k _ hk => (hF k).2 (.inr (.inr hk))
    have h68 := ho8.mono (T := F) fun k _ hk => (hF k).2 (.inl hk)
    refine ⟨(((h12.trans h23 fun _ _ h => h).trans h35 fun _ _ h => h).trans h56 fun _ _ h => h).trans h68 fun _ _ h => h, fun k hk => ?_⟩
    rcases hk with h | h | h
    · exact .inl ((hF k).2 (.inl h))
    · exact .inl ((hF k).2 (.inr (.inl h)))
    · rcases HS6.out with h' | h'
      · rw [h'] at h
        exact .inl ((hF k).2 (.inr (.inr h)))
      · have := h' k h
        exact .inr (by omega)

set_option maxRecDepth 10000 in
theorem write_off_free (g : Nat) (d : Dk) (F : Nat → Prop) (i : Nat) (v : Value) (p : List UInt8) (w : World) (h : DiskAt w g d F) (hi : i < d.safe.length) (hm : d.may = false) (hv : Bytes w v p) (hp : p.length = 512)
    (hl0 : d.bound = true → -9223372036854775808 < d.left) (hl1 : d.left ≤ 9223372036854775807) :
    Calls Try.prog 14 #[.pointer (some ⟨g, 0, none⟩), .int .i64 i, v] w fun e w' => e = .returned (.int .i64 8) ∧ DiskAt w' g d F ∧ Moved w w' F F := by
  have ht := there_any g d F i w h
  rw [if_pos (by omega)] at ht
  have HT := Lib.hid ht
  have hs := spend_free g d F w h hl0 hl1
  have hsp : d.spent = d := by unfold Dk.spent; rw [hm]; rfl
  rw [hm, hsp] at hs
  have HS := Lib.hid hs
  obtain ⟨a, c, rfl, hpm, hpc, _⟩ := hv
  rw [hp] at hpc ⊢
  clear ht hp hs hsp
  go_enter Try.func14, Try.ntmps14
  go_wp2_with first
    | (go_at_call 31; refine HT.out.mono ?_; rintro e w1 ⟨rfl, rfl⟩)
    | (go_at_call 30; refine HS.out.mono ?_; rintro e w2 ⟨rfl, hd2, hm2, ho2⟩)
  go_ret
  exact ⟨rfl, hd2, hm2⟩

set_option maxRecDepth 10000 in
set_option maxHeartbeats 3200000 in
theorem sync_ok_free (g : Nat) (d : Dk) (F : Nat → Prop) (w : World) (h : DiskAt w g d F) (hm : d.may = true)
    (hl0 : d.bound = true → -9223372036854775808 < d.left) (hl1 : d.left ≤ 9223372036854775807) (hw : d.wait.length ≤ 1000000) :
    Calls Try.prog 13 #[.pointer (some ⟨g, 0, none⟩)] w fun e w' => ∃ F', e = .returned (.int .i64 0) ∧ DiskAt w' g d.synced F' ∧ Moved w w' F F' := by
  have hs := spend_free g d F w h hl0 hl1
  rw [hm] at hs
  have HS := Lib.hid hs
  clear hs
  obtain ⟨z, hzs, hz⟩ : ∃ z : Array Value, z.size = 513 ∧ (∀ w, (zeroValue 69).run Try.prog w = .ok (.agg z) w) := ⟨_, by simp, zeroW⟩
  go_enter Try.func13, Try.ntmps13
  go_wp2_with fail
  refine HS.out.mono ?_
  rintro e w2 ⟨rfl, hd2, hm2, ho2⟩
  rw [d.spent_bound hm] at hd2
  obtain ⟨h30, vs, vw, h31, h32, h33, h34⟩ := hd2
  obtain ⟨a3, c3, rfl, hc3, hm3, hn3, _⟩ := ownsRow_lies h33
  obtain ⟨a2, c2, rfl, hc2, hm4, hn2, _⟩ := ownsRow_lies h32
  obtain ⟨c0, c1, _, _, _, fr⟩ := row5 h31
  have hfew := h30.few
  have H30 := Lib.hid h30
  have H31 := Lib.hid h31
  have H32 := Lib.hid h32
  have H33 := Lib.hid h33
  have H34 := Lib.hid h34
  have HM2 := Lib.hid hm2
  clear h31 h32 h33 h34 h30 hm2 ho2 HS hn2 hn3 hm
  simp only at hfew hc3 hc2
  go_wp2
  go_loopw [4, 15] (fun _ i wr => ∃ (k : Nat) (sl : List (List UInt8)), i = .int .i64 k ∧ k ≤ d.wait.length ∧ Hid (sl = syncOf d.safe (d.wait.take k)) ∧
      Hid (wr.heap[g]? = some (.cells #[.slice a2 d.safe.length c2, .slice a3 d.wait.length c3, .int .i64 d.count, .bool d.bound, .int .i64 (if d.bound then d.left - 1 else d.left)] 63 (0, 0))) ∧
      Hid (wr.ownsRow 0 67 512 (.slice a2 d.safe.length c2) d.safe.length (sl.flatMap secCells)) ∧ Hid (wr.ownsRow 0 69 513 (.slice a3 d.wait.length c3) d.wait.length (d.wait.flatMap wrCells)) ∧ Only w2 wr F) (fun _ i _ => d.wait.length - (intOf i).toNat)
  case atStart => exact ⟨0, d.safe, rfl, by omega, Lib.hid (by simp [syncOf]), H31, H32, H33, Only.refl _ _⟩
  case round =>
    obtain ⟨k, sl, rfl, hk, HL, HR, HSA, HWA, hb⟩ := hrel
    by_cases hlt : k < d.wait.length
    · obtain ⟨x, hx⟩ : ∃ x, d.wait[k]? = some x := ⟨_, List.getElem?_eq_getElem hlt⟩
      have hxo := H30.out.wait x (List.mem_of_getElem? hx)
      have hxl : (wrCells x).length = 513 := H30.out.wrs x (List.mem_of_getElem? hx)
      have h3 := HWA.out
      obtain ⟨g3, rfl⟩ : ∃ g3, a3 = some ⟨g3, 0, none⟩ := by
        rcases h3.2 with ⟨h, h'⟩ | ⟨g', c', cur, h, _⟩
        · omega
        · cases h; exact ⟨_, rfl⟩
      have h2 := HSA.out
      obtain ⟨g2, rfl⟩ : ∃ g2, a2 = some ⟨g2, 0, none⟩ := by
        rcases h2.2 with ⟨h, h'⟩ | ⟨g', c', cur, h, _⟩
        · have := hxo.2; simp only at this; omega
        · cases h; exact ⟨_, rfl⟩
      have hsl : sl.length = d.safe.length := by rw [HL.out, syncOf_length]
      have hr := own_range H30.out.wrs h3 k x hx
      have hl2 : syncOf d.safe (d.wait.take (k + 1)) = sl.set x.1 x.2 := by
        rw [List.take_succ_eq_append_getElem hlt, syncOf_snoc, ← HL.out]
        have hg := List.getElem?_eq_getElem hlt
        rw [hx] at hg
        rw [← Option.some.inj hg]
      have hia : (Try.prog.info? 69).map (·.size) = some (wrCells x).length := by rw [hxl]; exact infoW
      have hib : (Try.prog.info? 69).map (·.size) = some (wrCells x).toArray.size := by rw [List.size_toArray]; exact hia
      have hzc : z.size = (wrCells x).toArray.size := by rw [hzs, List.size_toArray, hxl]
      have hxs : (secCells x.2).length = 512 := by unfold secCells; rw [List.length_map]; exact hxo.1
      have his : (Try.prog.info? 67).map (·.size) = some (secCells x.2).length := by rw [hxs]; exact infoS
      have hit : (Try.prog.info? 67).map (·.size) = some (secCells x.2).toArray.size := by rw [List.size_toArray]; exact his
      have hx1 : (x.1 : Int) < d.safe.length := by have := hxo.2; simp only at this; omega
      have hgl : g < wr.heap.size := (Array.getElem?_eq_some_iff.1 HR.out).1
      have hg2l : g2 < wr.heap.size := (World.ownsRow.lt h2 g2 rfl).2
      have HRN := Lib.hid hr
      have HL2 := Lib.hid hl2
      have HSL := Lib.hid hsl
      have HXO := Lib.hid hxo
      have HA := Lib.hid hia
      have HB := Lib.hid hib
      have HZ := Lib.hid hzc
      have HO := Lib.hid (wr_one x)
      have HXS := Lib.hid hxs
      have HIS := Lib.hid his
      have HIT := Lib.hid hit
      obtain ⟨d0, d1, _, _, _, _⟩ := row5 HR.out
      clear hr hl2 hia hib hzc hxl h3 h2 hx his hit hxs hxo hsl
      go_upto_region 8 with (first | (with_reducible refine wpList_load_mid rfl 69 _ rfl g3 (k * 513) rfl (wrCells x) _ HRN.out Try.underlying69 rfl HA.out ?_) | (with_reducible refine wpList_store_new rfl 69 _ _ rfl z (wrCells x).toArray wr.heap.size rfl rfl rfl HB.out HZ.out HO.out ?_))
      have hnr : (wr.alloc (.cells (wrCells x).toArray 69)).rangeAt wr.heap.size 0 (wrCells x) := rangeAt_new wr _ _ _ rfl
      have f0 := rangeAt_head hnr
      have hrb := rangeAt_tail hnr
      have hbA := bal (bre wr) (.cells (wrCells x).toArray 69)
      have hrA := (hbA.block g hgl).trans HR.out
      have hsA := World.ownsRow.alloc HSA.out (.cells (wrCells x).toArray 69)
      have hwA := World.ownsRow.alloc HWA.out (.cells (wrCells x).toArray 69)
      have hszA : (wr.alloc (.cells (wrCells x).toArray 69)).heap.size = wr.heap.size + 1 := by simp
      generalize wr.alloc (.cells (wrCells x).toArray 69) = W at *
      obtain ⟨e0, e1, _, _, _, er⟩ := row5 hrA
      have HRB := Lib.hid (show W.rangeAt wr.heap.size 1 (secCells x.2) from hrb)
      have HSA2 := Lib.hid hsA
      have HWA2 := Lib.hid hwA
      have HRA2 := Lib.hid hrA
      have HBA := Lib.hid hbA
      clear hnr hrb hsA hwA hrA hbA
      obtain ⟨nb, hnb⟩ : ∃ nb, nb = wr.heap.size := ⟨_, rfl⟩
      rw [← hnb] at f0 HRB hszA ⊢
      have HNB := Lib.hid hnb
      clear hnb
      have e0' : W.cell? ⟨g, 0, none⟩ = some (.slice (some ⟨g2, 0, none⟩) sl.length c2) := by rw [HSL.out]; exact e0
      clear e0
      have e0 := e0'
      clear e0'
      refine region_anyZ (z := 8) (S := fun w' => w'.cell? ⟨g, 0, none⟩ = some (.slice (some ⟨g2, 0, none⟩) sl.length c2) ∧ w'.cell? ⟨nb, 0, none⟩ = some (.int .i64 x.1) ∧ w'.rangeAt nb 1 (secCells x.2)) (by kernel_rfl) ?_
      refine anyZ_begin (fun hcl0 => ?_)
      refine anyZ_held (by exact ⟨e0, f0, HRB.out⟩) (fun hHeld => ?_)
      -- 0: Op.move (Operand.tmp 0)
      refine' anyZ_pure (i := 0) (v := _) rfl (by rfl) (by kernel_rfl) (by kernel_rfl) (by kernel_rfl) hcl0 (fun _ _ _ h => h) (Or.inl ⟨by rfl, fun w _ => ?h1⟩) (fun _ => hHeld) (fun hcl1 => ?r1)
      case h1 => (simp only [List.getElem_toArray, List.getElem_cons_zero]; first | (go_simp; with_reducible rfl) | (go_simp; done) | rfl)
      simp only [List.getElem_toArray, List.getElem_cons_zero, Act.put, List.setIfInBounds_toArray, List.set_cons_zero, List.set_cons_succ]
      -- 1: Op.nilCheck (Operand.tmp 19)
      refine' anyZ_pure (i := 1) (v := _) rfl (by rfl) (by kernel_rfl) (by kernel_rfl) (by kernel_rfl) hcl1 (fun _ _ _ h => h) (Or.inl ⟨by rfl, fun w _ => ?h2⟩) (fun _ => hHeld) (fun hcl2 => ?r2)
      case h2 => (simp only [List.getElem_toArray, List.getElem_cons_succ, List.getElem_cons_zero]; first | (go_simp; with_reducible rfl) | (go_simp; done) | rfl)
      simp only [List.getElem_toArray, List.getElem_cons_succ, List.getElem_cons_zero, Act.put, List.setIfInBounds_toArray, List.set_cons_zero, List.set_cons_succ]
      -- 2: Op.fieldAddr 63 (Operand.tmp 20) 0
      refine' anyZ_pure (i := 2) (v := _) rfl (by rfl) (by kernel_rfl) (by kernel_rfl) (by kernel_rfl) hcl2 (fun _ _ _ h => h) (Or.inl ⟨by rfl, fun w _ => ?h3⟩) (fun _ => hHeld) (fun hcl3 => ?r3)
      case h3 => (simp only [List.getElem_toArray, List.getElem_cons_succ, List.getElem_cons_zero]; first | (go_simp; with_reducible rfl) | (go_simp; done) | rfl)
      simp only [List.getElem_toArray, List.getElem_cons_succ, List.getElem_cons_zero, Act.put, List.setIfInBounds_toArray, List.set_cons_zero, List.set_cons_succ]
      -- 3: Op.load 60 (Operand.tmp 21)
      refine' anyZ_take (i := 3) (v := _) rfl (by rfl) (by kernel_rfl) (by kernel_rfl) (by kernel_rfl) hcl3 2 (by kernel_rfl) (by kernel_rfl) (fun _ _ _ h => h) (Or.inl ⟨by rfl, fun w hSw => ?h4⟩) hHeld (fun hcl4 => ?r4)
      case h4 => (simp only [List.getElem_toArray, List.getElem_cons_succ, List.getElem_cons_zero]; obtain ⟨hS1, hS2, hS3⟩ := hSw; first | (go_simp; with_reducible rfl) | (go_simp; done) | rfl)
      simp only [List.getElem_toArray, List.getElem_cons_succ, List.getElem_cons_zero, Act.put, List.setIfInBounds_toArray, List.set_cons_zero, List.set_cons_succ]
      -- 4: Op.fieldAddr 69 (Operand.tmp 4) 0
      refine' anyZ_pure (i := 4) (v := _) rfl (by rfl) (by kernel_rfl) (by kernel_rfl) (by kernel_rfl) hcl4 (fun _ _ _ h => h) (Or.inl ⟨by rfl, fun w _ => ?h5⟩) (fun _ => hHeld) (fun hcl5 => ?r5)
      case h5 => (simp only [List.getElem_toArray, List.getElem_cons_succ, List.getElem_cons_zero]; first | (go_simp; with_reducible rfl) | (go_simp; done) | rfl)
      simp only [List.getElem_toArray, List.getElem_cons_succ, List.getElem_cons_zero, Act.put, List.setIfInBounds_toArray, List.set_cons_zero, List.set_cons_succ]
      -- 5: Op.load 3 (Operand.tmp 23)
      refine' anyZ_take (i := 5) (v := _) rfl (by rfl) (by kernel_rfl) (by kernel_rfl) (by kernel_rfl) hcl5 2 (by kernel_rfl) (by kernel_rfl) (fun _ _ _ h => h) (Or.inl ⟨by rfl, fun w hSw => ?h6⟩) hHeld (fun hcl6 => ?r6)
      case h6 => (simp only [List.getElem_toArray, List.getElem_cons_succ, List.getElem_cons_zero]; obtain ⟨hS1, hS2, hS3⟩ := hSw; first | (go_simp; with_reducible rfl) | (go_simp; done) | rfl)
      simp only [List.getElem_toArray, List.getElem_cons_succ, List.getElem_cons_zero, Act.put, List.setIfInBounds_toArray, List.set_cons_zero, List.set_cons_succ]
      -- 6: Op.fieldAddr 69 (Operand.tmp 4) 1
      refine' anyZ_pure (i := 6) (v := _) rfl (by rfl) (by kernel_rfl) (by kernel_rfl) (by kernel_rfl) hcl6 (fun _ _ _ h => h) (Or.inl ⟨by rfl, fun w _ => ?h7⟩) (fun _ => hHeld) (fun hcl7 => ?r7)
      case h7 => (simp only [List.getElem_toArray, List.getElem_cons_succ, List.getElem_cons_zero]; first | (go_simp; with_reducible rfl) | (go_simp; done) | rfl)
      simp only [List.getElem_toArray, List.getElem_cons_succ, List.getElem_cons_zero, Act.put, List.setIfInBounds_toArray, List.set_cons_zero, List.set_cons_succ]
      -- 7: Op.load 67 (Operand.tmp 25)
      refine' anyZ_take (i := 7) (v := _) rfl (by rfl) (by kernel_rfl) (by kernel_rfl) (by kernel_rfl) hcl7 2 (by kernel_rfl) (by kernel_rfl) (fun _ _ _ h => h) (yieldsIf_load_mid (by rfl) 67 _ rfl nb 1 rfl (secCells x.2) _ (fun w hSw => hSw.2.2) Try.underlying67 rfl HIS.out) hHeld (fun hcl8 => ?r8)
      simp only [List.getElem_toArray, List.getElem_cons_succ, List.getElem_cons_zero, Act.put, List.setIfInBounds_toArray, List.set_cons_zero, List.set_cons_succ]
      clear hHeld
      refine anyZ_chain_at (by kernel_rfl) ?_
      simp only [List.drop_succ_cons, List.drop_zero]
      have hxi : (x.1 : Int) < sl.length := by rw [HSL.out]; exact hx1
      have hth : W.drew.there g2 (x.1 * 512) (secCells x.2).toArray.size := by
        rw [List.size_toArray, HXS.out]
        refine own_there (w := W.drew) HSA2.out _ _ ?_
        have h := HXO.out.2
        simp only at h
        have : (x.1 + 1) * 512 ≤ d.safe.length * 512 := Nat.mul_le_mul_right _ h
        omega
      have hso : (secCells x.2).toArray.all (·.oneCell') = true := sec_one _
      have HTH := Lib.hid hth
      have HSO := Lib.hid hso
      clear hth hso
      go_wp2_with (with_reducible refine wpList_store_mid rfl 67 _ _ rfl g2 (x.1 * 512) (secCells x.2).toArray rfl rfl HTH.out HIT.out HSO.out ?_)
      have ho9 := only_setCells g2 (secCells x.2) W.drew (x.1 * 512)
      have hs9 := own_setCells (secCells x.2) (x.1 * 512) (show W.drew.ownsRow 0 67 512 (.slice (some ⟨g2, 0, none⟩) d.safe.length c2) d.safe.length (sl.flatMap secCells) from HSA2.out)
      have hok : ∀ s ∈ sl, (secCells s).length = 512 := fun s hs => by
        unfold secCells; rw [List.length_map]
        rw [HL.out] at hs
        exact syncOf_ok _ (fun y hy => (H30.out.wait y (List.mem_of_mem_take hy)).1) _ H30.out.safe s hs
      rw [setAll_flat secCells 512 sl hok x.1 x.2 (by rw [HSL.out]; exact HXO.out.2) HXS.out] at hs9
      have hne2 : g2 ≠ g := fun e => by subst e; exact own_ne HSA2.out HRA2.out (by decide) rfl
      have hr9 := (ho9.block g (by rw [show W.drew.heap.size = W.heap.size from rfl, hszA]; have := HNB.out; omega) (fun e => hne2 e.symm)).trans HRA2.out
      have hw9 := own_only (show W.drew.ownsRow 0 69 513 (.slice (some ⟨g3, 0, none⟩) d.wait.length c3) d.wait.length (d.wait.flatMap wrCells) from HWA2.out) ho9 (fun q hq e => by
        rcases own_apart HWA2.out HSA2.out (by decide) with h | h
        · cases h
        · exact h (hq.trans (by rw [e]; rfl)))
      have hf2 : F g2 := (H34.out g2).2 (.inr (.inl rfl))
      have hb9 : Only w2 (W.drew.setCells g2 (x.1 * 512) (secCells x.2)) F := (hb.trans (Only.of_below (bdr HBA.out) F) fun _ _ h => h).trans (ho9.mono fun i _ e => by rw [e]; exact hf2) fun _ _ h => h
      go_roundw
      case rel => exact ⟨k + 1, sl.set x.1 x.2, by go_num, by omega, Lib.hid HL2.out.symm, Lib.hid hr9, Lib.hid hs9, Lib.hid hw9, hb9⟩
      case measure => first | (simp [intOf]; done) | (simp [intOf]; omega)
    · have e : k = d.wait.length := by omega
      subst e
      have hl := HL.out
      rw [List.take_length] at hl
      obtain ⟨d0, d1, _, _, _, er⟩ := row5 HR.out
      go_wp2_with fail
      go_ret
      have ho9 : Only wr (wr.setCell ⟨g, 1, none⟩ (.slice none 0 0)) (fun k => k = g) := Only.setCell _ _ _
      have hr9 := heap_setCell_same wr g 1 _ _ (.slice none 0 0) HR.out
      have hsl : sl.length = d.safe.length := by rw [HL.out, syncOf_length]
      refine ⟨fun k => k = g ∨ (Value.slice a2 d.safe.length c2).ownBlock = some k, rfl, ⟨⟨?_, (fun x hx => by cases hx), ?_⟩, .slice a2 d.safe.length c2, .slice none 0 0, hr9, ?_, World.ownsRow_nil _ _ _ _, fun k => ?_⟩, ?_⟩
      · show ∀ s ∈ syncOf d.safe d.wait, s.length = 512
        exact syncOf_ok _ (fun y hy => (H30.out.wait y hy).1) _ H30.out.safe
      · show (syncOf d.safe d.wait).length ≤ 4096
        rw [syncOf_length]; exact H30.out.few
      · have hs9 := own_only HSA.out ho9 (fun q hq e => by subst e; exact own_ne HSA.out HR.out (by decide) hq)
        have e1 : d.synced.safe = sl := hl.symm
        rw [e1, hsl]
        exact hs9
      · simp [Value.ownBlock]
      · have hF := H34.out
        refine ⟨(HM2.out.only.trans hb fun _ _ h => h).trans (ho9.mono fun i _ e => (hF i).2 (.inl e)) fun _ _ h => h, fun k hk => .inl ?_⟩
        rcases hk with h | h
        · exact (hF k).2 (.inl h)
        · exact (hF k).2 (.inr (.inl h))

set_option maxRecDepth 10000 in
theorem sync_off_free (g : Nat) (d : Dk) (F : Nat → Prop) (w : World) (h : DiskAt w g d F) (hm : d.may = false)
    (hl0 : d.bound = true → -9223372036854775808 < d.left) (hl1 : d.left ≤ 9223372036854775807) :
    Calls Try.prog 13 #[.pointer (some ⟨g, 0, none⟩)] w fun e w' => e = .returned (.int .i64 8) ∧ DiskAt w' g d F ∧ Moved w w' F F := by
  have hs := spend_free g d F w h hl0 hl1
  have hsp : d.spent = d := by unfold Dk.spent; rw [hm]; rfl
  rw [hm, hsp] at hs
  have HS := Lib.hid hs
  clear hs hsp
  go_enter Try.func13, Try.ntmps13
  go_wp2_with (go_at_call 30; refine HS.out.mono ?_; rintro e w2 ⟨rfl, hd2, hm2, ho2⟩)
  go_ret
  exact ⟨rfl, hd2, hm2⟩

end Go.Proofs.Ytkonjjanoifinaa
