/- Walk: a sector is written. -/
import Derived.Test.YtacfkhnajdneeaaDoorDkMake
import Derived.Test.YtacfkhnajdneeaaDoorDkWait
import Derived.Test.YtacfkhnajdneeaaDoorPreA
namespace Go.Proofs.YtacfkhnajdneeaaDoor
open Go.RowKit

theorem bytes_apart {w : World} {g T : Nat} {cs : Array Value} {u : Value} {l : List UInt8} (hg : w.heap[g]? = some (.cells cs T (0, 0))) (hc : ∀ (j : Nat) b, cs[j]? ≠ some (B8 b)) (h : Bytes w u l) :
    ∀ k o n c, l ≠ [] → u = .slice (some ⟨k, o, none⟩) n c → k ≠ g := by
  rintro k o n c hl e rfl
  subst e
  obtain ⟨a', c', e, _, _, _, h | ⟨g', o', ha, h⟩⟩ := h
  · exact hl h
  · cases e
    cases ha
    cases l with
    | nil => exact hl rfl
    | cons y l =>
      obtain ⟨z, hz, rfl⟩ := h 0 y rfl
      rw [cell_row hg] at hz
      exact hc _ _ hz

theorem DiskAt.apart {w : World} {g : Nat} {d : Dk} {F : Nat → Prop} {u : Value} {l : List UInt8} (h : DiskAt w g d F) (hu : Bytes w u l) : ∀ k o n c, l ≠ [] → u = .slice (some ⟨k, o, none⟩) n c → k ≠ g := by
  obtain ⟨_, vs, vw, h1, h2, h3, h4⟩ := h
  obtain ⟨a2, c2, rfl, _⟩ := ownsRow_lies h2
  obtain ⟨a3, c3, rfl, _⟩ := ownsRow_lies h3
  refine bytes_apart h1 (fun j b => ?_) hu
  unfold B8
  rcases j with _ | _ | _ | _ | _ | j <;> simp

theorem zeroW' : ∃ z : Array Value, z.size = 513 ∧ (∀ v ∈ z.toList, v.oneCell' = true) ∧ (∀ w, (zeroValue 106).run Tryd.prog w = .ok (.agg z) w) :=
  ⟨_, by simp, fun v hv => by
    simp only [Array.toList_append, Array.toList_replicate, List.mem_append] at hv
    rcases hv with h | h
    · simp at h; subst h; rfl
    · rw [List.eq_of_mem_replicate h]; rfl, zeroW⟩

theorem splice_head (x : Value) (r cs : List Value) (h : r.length = cs.length) : splice (x :: r) 1 cs = x :: cs := by
  unfold splice
  rw [List.take_succ_cons, List.take_zero, List.drop_of_length_le (by simp [h]; omega)]
  simp

/-- a disk, one thing more on it -/
def Dk.wrote (d : Dk) (i : Nat) (p : List UInt8) : Dk := ⟨d.safe, d.wait ++ [(i, p)], d.count + 1, d.bound, if d.bound then d.left - 1 else d.left⟩

theorem Dk.spent_bound (d : Dk) (h : d.may = true) : d.spent = ⟨d.safe, d.wait, d.count, d.bound, if d.bound then d.left - 1 else d.left⟩ := by
  unfold Dk.spent
  rw [h]
  obtain ⟨a, b, c, e, f⟩ := d
  cases e <;> rfl

set_option maxRecDepth 10000 in
set_option maxHeartbeats 3200000 in
theorem write_ok (g : Nat) (d : Dk) (F : Nat → Prop) (i : Nat) (v : Value) (p : List UInt8) (w : World) (h : DiskAt w g d F) (hi : i < d.safe.length) (hm : d.may = true) (hv : Bytes w v p) (hp : p.length = 512)
    (hl0 : -9223372036854775808 < d.left) (hl1 : d.left ≤ 9223372036854775807) (hc : d.count ≤ 1000000) (hw : d.wait.length ≤ 1000000) :
    Calls Tryd.prog 38 #[.pointer (some ⟨g, 0, none⟩), .int .i64 i, v] w fun e w' => ∃ F', e = .returned (.int .i64 0) ∧ DiskAt w' g (d.wrote i p) F' ∧ Moved w w' F F' := by
  have ht := there_any g d F i w h
  rw [if_pos (by omega)] at ht
  have HT := Lib.hid ht
  have hs := spend_any g d F w h hl0 hl1
  rw [hm] at hs
  have HS := Lib.hid hs
  have hap := h.apart hv
  obtain ⟨a, c, rfl, hpm, hpc, _⟩ := id hv
  rw [hp] at hpc ⊢
  have HP := Lib.hid hp
  have HAP := Lib.hid hap
  have HV := Lib.hid hv
  clear ht hs hap hv hp hpm
  go_enter Tryd.func38, Tryd.ntmps38
  go_wp2_with (go_at_call 62; refine HT.out.mono ?_; rintro e w1 ⟨rfl, rfl⟩)
  refine HS.out.mono ?_
  rintro e w2 ⟨rfl, hd2, hm2, ho2⟩
  have hv2 := HV.out.only ho2 HAP.out
  rw [d.spent_bound hm] at hd2
  rw [HP.out] at hv2
  have hsz := hm2.only.size
  obtain ⟨z, hzs, hzo, hz⟩ := zeroW'
  have hzne : z ≠ #[] := by rintro rfl; simp at hzs
  obtain ⟨y, hy⟩ : ∃ y : Array Value, y = z.setIfInBounds 0 (.int .i64 (i : Int)) := ⟨_, rfl⟩
  have hyl : y.size = 513 := by rw [hy, Array.size_setIfInBounds, hzs]
  have hy0 : ∃ r : List Value, y.toList = .int .i64 i :: r ∧ r.length = 512 := by
    have hl : z.toList.length = 513 := by rw [Array.length_toList, hzs]
    obtain ⟨zl, hzl⟩ : ∃ zl, zl = z.toList := ⟨_, rfl⟩
    rw [hy, Array.toList_setIfInBounds, ← hzl]
    rw [← hzl] at hl
    cases zl with
    | nil => cases hl
    | cons x r => exact ⟨r, rfl, by simpa using hl⟩
  have hib : (Tryd.prog.info? 106).map (·.size) = some (z.setIfInBounds 0 (.int .i64 (i : Int))).size := by rw [← hy, hyl]; exact infoW
  have hzc : z.size = (z.setIfInBounds 0 (.int .i64 (i : Int))).size := by rw [← hy, hyl, hzs]
  have hyo : (z.setIfInBounds 0 (.int .i64 (i : Int))).all (·.oneCell') = true := by
    rw [Array.all_eq_true_iff_forall_mem]
    intro v hv
    have hv' : v ∈ (z.setIfInBounds 0 (.int .i64 (i : Int))).toList := Array.mem_toList_iff.2 hv
    rw [Array.toList_setIfInBounds] at hv'
    rcases List.mem_or_eq_of_mem_set hv' with h | h
    · exact hzo v h
    · rw [h]; rfl
  have HB := Lib.hid hib
  have HZ := Lib.hid hzc
  have HO := Lib.hid hyo
  have HY0 := Lib.hid hy0
  have HY := Lib.hid hy
  clear hib hzc hyo hyl hy hy0 hzo
  go_upto_region 9 with (with_reducible refine wpList_store_new rfl 106 _ _ rfl z (z.setIfInBounds 0 (.int .i64 (i : Int))) w2.heap.size rfl rfl rfl HB.out HZ.out HO.out ?_)
  rw [← HY.out]
  have hbA := bal (bre w2) (.cells y 106)
  have hgA : (w2.alloc (.cells y 106)).heap[w2.heap.size]? = some (.cells y.toList.toArray 106 (0, 0)) := heap_alloc_new w2 _
  have hvA := hv2.below hbA
  generalize w2.alloc (.cells y 106) = WA at *
  have hsA := hbA.size
  have hpl : (p.map B8).length = 512 := by rw [List.length_map]; exact HP.out
  have hfit : 1 + (p.map B8).length ≤ y.toList.length := by
    obtain ⟨r, hr, hrl⟩ := HY0.out
    rw [hr, List.length_cons, hrl, hpl]
    omega
  have hposn : 0 < (p.map B8).length → (some (⟨w2.heap.size, 1, none⟩ : Addr)) = some ⟨w2.heap.size, 1, none⟩ ∧ ∃ ad, a = some ad ∧ ∀ j v, (p.map B8)[j]? = some v → WA.cell? (ad.add j) = some v := by
    intro h0
    refine ⟨rfl, ?_⟩
    obtain ⟨a', c', e, _, _, _, hl⟩ := hvA.lies
    obtain ⟨rfl, _, rfl⟩ := Value.slice.inj e
    rcases hl with h | ⟨g', o', ha, hr⟩
    · rw [h] at h0; simp at h0
    · exact ⟨_, ha, fun j v hj => by rw [Addr.add_mid]; exact hr j v hj⟩
  have hspl : splice y.toList 1 (p.map B8) = wrCells (i, p) := by
    obtain ⟨r, hr, hrl⟩ := HY0.out
    rw [hr]
    exact splice_head _ _ _ (by rw [hrl, hpl])
  have HPN := Lib.hid hposn
  have HF := Lib.hid hfit
  have HPL := Lib.hid hpl
  have HSP := Lib.hid hspl
  have HGA := Lib.hid hgA
  clear hposn hfit hpl hspl hgA hv2 hvA
  go_upto_region 10 with (refine wpList_copy_splice rfl _ _ 23 23 rfl 5 Tryd.underlying23 (by kernel_rfl) _ _ _ _ _ _ rfl rfl w2.heap.size 1 y.toList 106 HGA.out (p.map B8) HPL.out HPN.out HF.out (B8_one p) w2.heap.size w2 hbA (Nat.le_refl _) ?_; intro w3 hg3 hb3)
  have hg4 := hg3.out
  rw [HSP.out] at hg4
  have hd3 := hd2.below hb3
  have hlt3 : w2.heap.size < w3.heap.size := (Array.getElem?_eq_some_iff.1 hg4).1
  obtain ⟨h30, vs, vw, h31, h32, h33, h34⟩ := hd3
  obtain ⟨a4, c4, rfl, hc4, hm4, hn4, _⟩ := ownsRow_lies h33
  obtain ⟨_, c1, c2, _, _, fr⟩ := row5 h31
  have hrg : w3.rangeAt w2.heap.size 0 (wrCells (i, p)) := fun j u hu => by
    rw [Nat.zero_add, cell_row hg4]; simpa using hu
  have hwl : (wrCells (i, p)).length = 513 := by unfold wrCells; rw [List.length_cons, HPL.out]
  have hia : (Tryd.prog.info? 106).map (·.size) = some (wrCells (i, p)).length := by rw [hwl]; exact infoW
  have HD2 := Lib.hid hd2
  have H34 := Lib.hid h34
  have H33 := Lib.hid h33
  have H32 := Lib.hid h32
  have H31 := Lib.hid h31
  have HRG := Lib.hid hrg
  have HIA := Lib.hid hia
  have HG4 := Lib.hid hg4
  have HWL := Lib.hid hwl
  clear hd2 h34 h33 h32 h31 hrg hia hg4 hg3 HSP HGA HY0 HY HB HZ HO HPN HF hwl
  have hlt2 : g < w2.heap.size := HD2.out.lt g HD2.out.g
  have hbB := bal (bre w3.drew) (.cells (wrCells (i, p)).toArray 106)
  refine region_anyZ (z := 7) (S := fun w' => w'.cell? ⟨g, 1, none⟩ = some (.slice a4 d.wait.length c4) ∧ w'.rangeAt w2.heap.size 0 (wrCells (i, p))) (by kernel_rfl) ?_
  refine anyZ_begin (fun hcl0 => ?_)
  refine anyZ_held (by exact ⟨c1, HRG.out⟩) (fun hHeld => ?_)
  -- 0: Op.move (Operand.tmp 0)
  refine' anyZ_pure (i := 0) (v := _) rfl (by rfl) (by kernel_rfl) (by kernel_rfl) (by kernel_rfl) hcl0 (fun _ _ _ h => h) (Or.inl ⟨by rfl, fun w _ => ?h1⟩) (fun _ => hHeld) (fun hcl1 => ?r1)
  case h1 => (simp only [List.getElem_toArray, List.getElem_cons_zero]; first | (go_simp; with_reducible rfl) | (go_simp; done) | rfl)
  simp only [List.getElem_toArray, List.getElem_cons_zero, Act.put, List.setIfInBounds_toArray, List.set_cons_zero, List.set_cons_succ]
  -- 1: Op.move (Operand.tmp 0)
  refine' anyZ_pure (i := 1) (v := _) rfl (by rfl) (by kernel_rfl) (by kernel_rfl) (by kernel_rfl) hcl1 (fun _ _ _ h => h) (Or.inl ⟨by rfl, fun w _ => ?h2⟩) (fun _ => hHeld) (fun hcl2 => ?r2)
  case h2 => (simp only [List.getElem_toArray, List.getElem_cons_succ, List.getElem_cons_zero]; first | (go_simp; with_reducible rfl) | (go_simp; done) | rfl)
  simp only [List.getElem_toArray, List.getElem_cons_succ, List.getElem_cons_zero, Act.put, List.setIfInBounds_toArray, List.set_cons_zero, List.set_cons_succ]
  -- 2: Op.nilCheck (Operand.tmp 35)
  refine' anyZ_pure (i := 2) (v := _) rfl (by rfl) (by kernel_rfl) (by kernel_rfl) (by kernel_rfl) hcl2 (fun _ _ _ h => h) (Or.inl ⟨by rfl, fun w _ => ?h3⟩) (fun _ => hHeld) (fun hcl3 => ?r3)
  case h3 => (simp only [List.getElem_toArray, List.getElem_cons_succ, List.getElem_cons_zero]; first | (go_simp; with_reducible rfl) | (go_simp; done) | rfl)
  simp only [List.getElem_toArray, List.getElem_cons_succ, List.getElem_cons_zero, Act.put, List.setIfInBounds_toArray, List.set_cons_zero, List.set_cons_succ]
  -- 3: Op.fieldAddr 63 (Operand.tmp 36) 1
  refine' anyZ_pure (i := 3) (v := _) rfl (by rfl) (by kernel_rfl) (by kernel_rfl) (by kernel_rfl) hcl3 (fun _ _ _ h => h) (Or.inl ⟨by rfl, fun w _ => ?h4⟩) (fun _ => hHeld) (fun hcl4 => ?r4)
  case h4 => (simp only [List.getElem_toArray, List.getElem_cons_succ, List.getElem_cons_zero]; first | (go_simp; with_reducible rfl) | (go_simp; done) | rfl)
  simp only [List.getElem_toArray, List.getElem_cons_succ, List.getElem_cons_zero, Act.put, List.setIfInBounds_toArray, List.set_cons_zero, List.set_cons_succ]
  -- 4: Op.load 61 (Operand.tmp 37)
  refine' anyZ_take (i := 4) (v := _) rfl (by rfl) (by kernel_rfl) (by kernel_rfl) (by kernel_rfl) hcl4 2 (by kernel_rfl) (by kernel_rfl) (fun _ _ _ h => h) (Or.inl ⟨by rfl, fun w hSw => ?h5⟩) hHeld (fun hcl5 => ?r5)
  case h5 => (simp only [List.getElem_toArray, List.getElem_cons_succ, List.getElem_cons_zero]; obtain ⟨hS1, hS2⟩ := hSw; first | (go_simp; with_reducible rfl) | (go_simp; done) | rfl)
  simp only [List.getElem_toArray, List.getElem_cons_succ, List.getElem_cons_zero, Act.put, List.setIfInBounds_toArray, List.set_cons_zero, List.set_cons_succ]
  -- 5: Op.load 69 (Operand.tmp 8)
  refine' anyZ_take (i := 5) (v := _) rfl (by rfl) (by kernel_rfl) (by kernel_rfl) (by kernel_rfl) hcl5 2 (by kernel_rfl) (by kernel_rfl) (fun _ _ _ h => h) (yieldsIf_load_mid (by rfl) 106 _ rfl w2.heap.size 0 rfl (wrCells (i, p)) _ (fun w hSw => hSw.2) Tryd.underlying106 rfl HIA.out) hHeld (fun hcl6 => ?r6)
  simp only [List.getElem_toArray, List.getElem_cons_succ, List.getElem_cons_zero, Act.put, List.setIfInBounds_toArray, List.set_cons_zero, List.set_cons_succ]
  -- 6: Op.buildSlice 61 1 #[(0, Operand.tmp 39)]
  refine anyZ_one (i := 6) hcl6 (by kernel_rfl) (by simp only [List.getElem?_toArray, List.getElem?_cons_succ, List.getElem?_cons_zero]; rfl) (by rfl) (fun hcl7 K hK => ?_)
  refine wp_buildSlice_row 94 106 513 520 rowW _ rfl (wrCells (i, p)).toArray rfl (by rw [List.size_toArray]; exact HWL.out) (by omega) ?_
  refine hK _ _ (fun _ => ?_) ?_
  · exact ⟨(hbB.cell (p := ⟨g, 1, none⟩) (show g < w3.heap.size by omega)).trans c1, rangeAt_keep (W := w3.drew) HRG.out hlt3 hbB⟩
  clear hK K hHeld
  try simp only [Act.put, List.setIfInBounds_toArray, List.set_cons_zero, List.set_cons_succ]
  refine anyZ_chain_at (by kernel_rfl) ?_
  simp only [List.drop_succ_cons, List.drop_zero]
  have hO5 : (w3.drew.alloc (.cells (wrCells (i, p)).toArray 106)).ownsRow 0 106 513 (.slice a4 d.wait.length c4) d.wait.length (d.wait.flatMap wrCells) := World.ownsRow.alloc H33.out _
  have hS5 : (w3.drew.alloc (.cells (wrCells (i, p)).toArray 106)).ownsRow 0 104 512 vs d.safe.length (d.safe.flatMap secCells) := World.ownsRow.alloc H32.out _
  have hN5 : ∀ j u, (wrCells (i, p))[j]? = some u → (w3.drew.alloc (.cells (wrCells (i, p)).toArray 106)).cell? ((⟨w3.heap.size, 0, none⟩ : Addr).add j) = some u := fun j u hu => by
    have hgN : (w3.drew.alloc (.cells (wrCells (i, p)).toArray 106)).heap[w3.heap.size]? = some (.cells (wrCells (i, p)).toArray 106 (0, 0)) := heap_alloc_new w3.drew _
    rw [Addr.add_mid, Nat.zero_add, cell_row hgN]; simpa using hu
  have hR5 := (hbB.block g (show g < w3.heap.size by omega)).trans H31.out
  have hs5 : (w3.drew.alloc (.cells (wrCells (i, p)).toArray 106)).heap.size = w3.heap.size + 1 := by simp
  have HBB := Lib.hid hbB
  have HO5 := Lib.hid hO5
  have HS5 := Lib.hid hS5
  have HN5 := Lib.hid hN5
  clear hO5 hS5 hN5 hbB
  generalize w3.drew.alloc (.cells (wrCells (i, p)).toArray 106) = W5 at *
  obtain ⟨_, e1, e2, _, _, er⟩ := row5 hR5
  have HR5 := Lib.hid hR5
  clear hR5
  have hone : ∀ u ∈ wrCells (i, p), u.oneCell' = true := fun u hu => by
    unfold wrCells at hu
    rcases List.mem_cons.1 hu with rfl | h
    · rfl
    · exact B8_one _ u h
  have HONE := Lib.hid hone
  clear hone
  have hgne : ∀ k, (Value.slice a4 d.wait.length c4).ownBlock = some k → k ≠ g := fun k hk e => by
    subst e
    exact own_ne HO5.out HR5.out (by decide) hk
  go_wp2_with (at_builtin; refine wpList_app' rfl _ _ 94 106 513 520 rowW rfl 0 _ d.wait.length _ rfl HO5.out ⟨w3.heap.size, 0, none⟩ 1 1 (wrCells (i, p)) rfl HWL.out HN5.out HONE.out (by unfold maxLen; omega) (by omega) (Nat.zero_le _) ?_; intro v' w6 h6 hg6 hs6; obtain ⟨a6, c6, rfl, _⟩ := ownsRow_lies h6; have hR6 := (Only.block (Only.of_grown hg6) g (by have := hg6.size; omega) (fun e => hgne g e rfl)).trans HR5.out; obtain ⟨_, f1, f2, _, _, fr6⟩ := row5 hR6; have HR6 := Lib.hid hR6; have H6 := Lib.hid h6; have HG6 := Lib.hid hg6; have HS6 := Lib.hid hs6; clear hR6 h6 hg6 hs6)
  go_ret
  have hR7 := heap_setCell_same w6 g 1 _ _ (.slice a6 (d.wait.length + 1) c6) HR6.out
  have hR8 := heap_setCell_same _ g 2 _ _ (.int .i64 (d.count + 1 : Int)) hR7
  have hsz6 := HG6.out.size
  have ho8 : Only w6 ((w6.setCell ⟨g, 1, none⟩ (.slice a6 (d.wait.length + 1) c6)).setCell ⟨g, 2, none⟩ (.int .i64 (d.count + 1 : Int))) (fun k => k = g) := (Only.setCell _ _ _).trans (Only.setCell _ _ _) fun _ _ h => h
  refine ⟨rfl, fun k => k = g ∨ vs.ownBlock = some k ∨ (Value.slice a6 (d.wait.length + 1) c6).ownBlock = some k, ⟨⟨h30.safe, fun x hx => ?_, h30.few⟩, vs, .slice a6 (d.wait.length + 1) c6, ?_, ?_, ?_, fun k => Iff.rfl⟩, ?_⟩
  · rcases List.mem_append.1 hx with h | h
    · exact h30.wait x h
    · rw [List.mem_singleton.1 h]; exact ⟨HP.out, hi⟩
  · exact hR8
  · refine own_only (own_only HS5.out (Only.of_grown HG6.out) fun k hk e => ?_) ho8 fun k hk e => ?_
    · rcases own_apart HS5.out HO5.out (by decide) with h | h
      · rw [h] at hk; cases hk
      · exact h (hk.trans e.symm)
    · subst e
      exact own_ne HS5.out HR5.out (by decide) hk
  · have : (d.wrote i p).wait.flatMap wrCells = d.wait.flatMap wrCells ++ wrCells (i, p) := by unfold Dk.wrote; simp
    rw [this]
    have hl : (d.wrote i p).wait.length = d.wait.length + 1 := by unfold Dk.wrote; simp
    rw [hl]
    refine own_only H6.out ho8 fun k hk e => ?_
    subst e
    exact own_ne H6.out HR6.out (by decide) hk
  · have hF := H34.out
    have h12 := hm2.only
    have h23 : Only w2 w3 F := Only.of_below hb3 _
    have h35 : Only w3 W5 F := Only.of_below (show Below w3.heap.size w3 W5 from ⟨HBB.out.os, HBB.out.tape, HBB.out.output, HBB.out.size, HBB.out.block⟩) _
    have h56 : Only W5 w6 F := (Only.of_grown HG6.out).mono fun k _ hk => (hF k).2 (.inr (.inr hk))
    have h68 := ho8.mono (T := F) fun k _ hk => (hF k).2 (.inl hk)
    refine ⟨(((h12.trans h23 fun _ _ h => h).trans h35 fun _ _ h => h).trans h56 fun _ _ h => h).trans h68 fun _ _ h => h, fun k hk => ?_⟩
    rcases hk with h | h | h
    · exact .inl ((hF k).2 (.inl h))
    · exact .inl ((hF k).2 (.inr (.inl h)))
    · rcases HS6.out with h' | h'
      · rw [h'] at h
        exact .inl ((hF k).2 (.inr (.inr h)))
      · have := h' k h
        exact .inr (by omega)
end Go.Proofs.YtacfkhnajdneeaaDoor
