/- Walk: a disk crashes: some of what waits is safe, on another one. -/
import Derived.Test.YtacfkhnajdneeaaDoorDkSync
namespace Go.Proofs.YtacfkhnajdneeaaDoor
open Go.RowKit

/-- a slice of bools -/
def Bools (w : World) (v : Value) (l : List Bool) : Prop := SliceOf (fun _ u b => u = .bool b) w v l
theorem Bools.below {w w' : World} {v : Value} {l : List Bool} (h : Bools w v l) (hb : Below w.heap.size w w') : Bools w' v l := SliceOf.mono h hb fun _ _ _ h => h

/-- what is safe behind a crash -/
def crashOf (keep : List Bool) : Nat → List (Nat × List UInt8) → List (List UInt8) → List (List UInt8)
  | _, [], s => s
  | k, x :: ws, s => crashOf keep (k + 1) ws (if keep.getD k false then s.set x.1 x.2 else s)

theorem crashOf_snoc (keep : List Bool) (x : Nat × List UInt8) (ws : List (Nat × List UInt8)) : ∀ (k : Nat) (s : List (List UInt8)),
    crashOf keep k (ws ++ [x]) s = if keep.getD (k + ws.length) false then (crashOf keep k ws s).set x.1 x.2 else crashOf keep k ws s := by
  induction ws with
  | nil => intro k s; simp [crashOf]
  | cons y ws ih =>
    intro k s
    rw [List.cons_append, crashOf, ih, crashOf, List.length_cons, show k + 1 + ws.length = k + (ws.length + 1) by omega]
theorem crashOf_length (keep : List Bool) (ws : List (Nat × List UInt8)) : ∀ k s, (crashOf keep k ws s).length = s.length := by
  induction ws with
  | nil => intro k s; rfl
  | cons x ws ih => intro k s; rw [crashOf, ih]; split <;> simp
theorem crashOf_ok (keep : List Bool) (ws : List (Nat × List UInt8)) (hw : ∀ x ∈ ws, x.2.length = 512) : ∀ k s, (∀ t ∈ s, t.length = 512) → ∀ t ∈ crashOf keep k ws s, t.length = 512 := by
  induction ws with
  | nil => intro k s h; exact h
  | cons x ws ih =>
    intro k s h
    refine ih (fun y hy => hw y (by simp [hy])) _ _ fun t ht => ?_
    split at ht
    · rcases List.mem_or_eq_of_mem_set ht with h1 | h1
      · exact h t h1
      · rw [h1]; exact hw x (by simp)
    · exact h t ht

def Dk.crashed (d : Dk) (keep : List Bool) : Dk := ⟨crashOf keep 0 d.wait d.safe, [], 0, false, 0⟩

theorem sec_all (l : List (List UInt8)) : ∀ u ∈ l.flatMap secCells, u.oneCell' = true := fun u hu => by
  obtain ⟨s, _, h⟩ := List.mem_flatMap.1 hu
  exact B8_one _ u h
theorem wr_all (l : List (Nat × List UInt8)) : ∀ u ∈ l.flatMap wrCells, u.oneCell' = true := fun u hu => by
  obtain ⟨s, _, h⟩ := List.mem_flatMap.1 hu
  unfold wrCells at h
  rcases List.mem_cons.1 h with rfl | h
  · rfl
  · exact B8_one _ u h

set_option maxRecDepth 10000 in
set_option maxHeartbeats 3200000 in
theorem crash_ok (g : Nat) (d : Dk) (F : Nat → Prop) (v : Value) (keep : List Bool) (w : World) (h : DiskAt w g d F) (hkeep : Bools w v keep) (hw : d.wait.length ≤ 1000000) :
    Calls Tryd.prog 30 #[.pointer (some ⟨g, 0, none⟩), v] w fun e w' => ∃ gn F', e = .returned (.tuple #[.pointer (some ⟨gn, 0, none⟩), .int .i64 0]) ∧ DiskAt w' gn (d.crashed keep) F' ∧ (∀ k, F' k → w.heap.size ≤ k) ∧ Below w.heap.size w w' := by
  have hgl := h.lt g h.g
  obtain ⟨h30, vs, vw, h31, h32, h33, h34⟩ := h
  obtain ⟨a3, c3, rfl, hc3, hm3, hn3, _⟩ := ownsRow_lies h33
  obtain ⟨ak, ck, rfl, hkm, hkc, _, hkr⟩ := hkeep
  unfold maxLen at hkm
  obtain ⟨c0, c1, _, _, _, fr⟩ := row5 h31
  have hfew := h30.few
  have H30 := Lib.hid h30
  have H31 := Lib.hid h31
  have H32 := Lib.hid h32
  have H33 := Lib.hid h33
  have HK := Lib.hid hkr
  clear h31 h32 h33 h34 h30 hn3 hkr
  obtain ⟨z, hzs, hz⟩ : ∃ z : Array Value, z.size = 513 ∧ (∀ w, (zeroValue 106).run Tryd.prog w = .ok (.agg z) w) := ⟨_, by simp, zeroW⟩
  go_enter Tryd.func30, Tryd.ntmps30
  go_wp2_with fail
  refine (cloneS_any vs d.safe.length _ w H32.out (by omega) (sec_all _)).mono ?_
  rintro e w1 ⟨v1, rfl, ho1, hb1⟩
  obtain ⟨a2, c2, rfl, hc2, hm4, hn2, _⟩ := ownsRow_lies ho1
  have HO1 := Lib.hid ho1
  clear ho1 hn2
  go_upto_region 4 with fail
  have hG := heap_alloc_new w1 (.cells #[.slice a2 d.safe.length c2, .slice none 0 0, .int .i64 0, .bool false, .int .i64 0] 96)
  have hbA := btr hb1 (bal (bre w1) (.cells #[.slice a2 d.safe.length c2, .slice none 0 0, .int .i64 0, .bool false, .int .i64 0] 96))
  have hoA := World.ownsRow.alloc HO1.out (.cells #[.slice a2 d.safe.length c2, .slice none 0 0, .int .i64 0, .bool false, .int .i64 0] 96)
  have hsA : (w1.alloc (.cells #[.slice a2 d.safe.length c2, .slice none 0 0, .int .i64 0, .bool false, .int .i64 0] 96)).heap.size = w1.heap.size + 1 := by simp
  generalize w1.alloc (.cells #[.slice a2 d.safe.length c2, .slice none 0 0, .int .i64 0, .bool false, .int .i64 0] 96) = W1 at *
  have hle1 := hb1.size
  obtain ⟨gn, hgn⟩ : ∃ gn, gn = w1.heap.size := ⟨_, rfl⟩
  rw [← hgn] at hG hsA ⊢
  have hgnw : w.heap.size ≤ gn := by omega
  have q1 := (hbA.cell (p := ⟨g, 1, none⟩) hgl).trans c1
  have HG := Lib.hid hG
  have HOA := Lib.hid hoA
  clear hG hoA hgn hb1 HO1
  go_wp2
  go_loopw [7, 8, 23] (fun _ _ i wr => ∃ (k : Nat) (sl : List (List UInt8)), i = .int .i64 k ∧ k ≤ d.wait.length ∧ Hid (sl = crashOf keep 0 (d.wait.take k) d.safe) ∧
      Hid (wr.heap[gn]? = some (.cells #[.slice a2 d.safe.length c2, .slice none 0 0, .int .i64 0, .bool false, .int .i64 0] 96 (0, 0))) ∧
      Hid (wr.ownsRow w.heap.size 104 512 (.slice a2 d.safe.length c2) d.safe.length (sl.flatMap secCells)) ∧ Below w.heap.size w wr) (fun _ _ i _ => d.wait.length - (intOf i).toNat)
  case atStart => exact ⟨0, d.safe, rfl, by omega, Lib.hid (by simp [crashOf]), HG, HOA, hbA⟩
  case round =>
    obtain ⟨k, sl, rfl, hk, HL, HR, HSA, hb⟩ := hrel
    by_cases hlt : k < d.wait.length
    · obtain ⟨x, hx⟩ : ∃ x, d.wait[k]? = some x := ⟨_, List.getElem?_eq_getElem hlt⟩
      have hxo := H30.out.wait x (List.mem_of_getElem? hx)
      have hxl : (wrCells x).length = 513 := H30.out.wrs x (List.mem_of_getElem? hx)
      have h3 := H33.out
      obtain ⟨g3, rfl⟩ : ∃ g3, a3 = some ⟨g3, 0, none⟩ := by
        rcases h3.2 with ⟨h, h'⟩ | ⟨g', c', cur, h, _⟩
        · omega
        · cases h; exact ⟨_, rfl⟩
      have h2 := HSA.out
      obtain ⟨g2, rfl⟩ : ∃ g2, a2 = some ⟨g2, 0, none⟩ := by
        rcases h2.2 with ⟨h, h'⟩ | ⟨g', c', cur, h, _⟩
        · have := hxo.2; omega
        · cases h; exact ⟨_, rfl⟩
      have hsl : sl.length = d.safe.length := by rw [HL.out, crashOf_length]
      have hg3l : g3 < w.heap.size := (World.ownsRow.lt h3 g3 rfl).2
      have hr := rangeAt_below (own_range H30.out.wrs h3 k x hx) hb hg3l
      have hl2 : crashOf keep 0 (d.wait.take (k + 1)) d.safe = if keep.getD k false then sl.set x.1 x.2 else sl := by
        have hg := List.getElem?_eq_getElem hlt
        rw [hx] at hg
        rw [List.take_succ_eq_append_getElem hlt, crashOf_snoc, ← HL.out, List.length_take, Nat.zero_add, Nat.min_eq_left hk, ← Option.some.inj hg]
      have hia : (Tryd.prog.info? 106).map (·.size) = some (wrCells x).length := by rw [hxl]; exact infoW
      have hib : (Tryd.prog.info? 106).map (·.size) = some (wrCells x).toArray.size := by rw [List.size_toArray]; exact hia
      have hzc : z.size = (wrCells x).toArray.size := by rw [hzs, List.size_toArray, hxl]
      have hxs : (secCells x.2).length = 512 := by unfold secCells; rw [List.length_map]; exact hxo.1
      have his : (Tryd.prog.info? 104).map (·.size) = some (secCells x.2).length := by rw [hxs]; exact infoS
      have hit : (Tryd.prog.info? 104).map (·.size) = some (secCells x.2).toArray.size := by rw [List.size_toArray]; exact his
      have hx1 : (x.1 : Int) < d.safe.length := by have := hxo.2; omega
      have hgl2 : gn < wr.heap.size := (Array.getElem?_eq_some_iff.1 HR.out).1
      have hg2l := World.ownsRow.lt h2 g2 rfl
      have HRN := Lib.hid hr
      have HL2 := Lib.hid hl2
      have HSL := Lib.hid hsl
      have HXO := Lib.hid hxo
      have HA := Lib.hid hia
      have HB := Lib.hid hib
      have HZ := Lib.hid hzc
      have HO := Lib.hid (wr_one x)
      have HXS := Lib.hid hxs
      have HIS := Lib.hid his
      have HIT := Lib.hid hit
      clear hr hl2 hia hib hzc hxl h3 h2 hx his hit hxs hxo hsl
      go_upto_region 7 with (first | (with_reducible refine wpList_load_mid rfl 106 _ rfl g3 (k * 513) rfl (wrCells x) _ HRN.out Tryd.underlying106 rfl HA.out ?_) | (with_reducible refine wpList_store_new rfl 106 _ _ rfl z (wrCells x).toArray wr.heap.size rfl rfl rfl HB.out HZ.out HO.out ?_))
      have hnr : (wr.alloc (.cells (wrCells x).toArray 106)).rangeAt wr.heap.size 0 (wrCells x) := rangeAt_new wr _ _ _ rfl
      have f0 := rangeAt_head hnr
      have hrb := rangeAt_tail hnr
      have hbA2 := bal (bre wr) (.cells (wrCells x).toArray 106)
      have hrA := (hbA2.block gn hgl2).trans HR.out
      have hsA2 := World.ownsRow.alloc HSA.out (.cells (wrCells x).toArray 106)
      have hszA : (wr.alloc (.cells (wrCells x).toArray 106)).heap.size = wr.heap.size + 1 := by simp
      generalize wr.alloc (.cells (wrCells x).toArray 106) = W at *
      obtain ⟨e0, e1, _, _, _, er⟩ := row5 hrA
      have HRB := Lib.hid (show W.rangeAt wr.heap.size 1 (secCells x.2) from hrb)
      have HSA2 := Lib.hid hsA2
      have HRA2 := Lib.hid hrA
      have HBA := Lib.hid hbA2
      have hbW := hb.trans (hbA2.mono hb.size)
      have HBW := Lib.hid hbW
      clear hnr hrb hsA2 hrA hbA2 hbW
      obtain ⟨nb, hnb⟩ : ∃ nb, nb = wr.heap.size := ⟨_, rfl⟩
      rw [← hnb] at f0 HRB hszA ⊢
      have HNB := Lib.hid hnb
      clear hnb
      have e0' : W.cell? ⟨gn, 0, none⟩ = some (.slice (some ⟨g2, 0, none⟩) sl.length c2) := by rw [HSL.out]; exact e0
      clear e0
      have e0 := e0'
      clear e0'
      have hkd : k < keep.length ∨ keep.length ≤ k := by omega
      by_cases hkp : keep.getD k false = true
      · have hkl : k < keep.length := by
          rcases hkd with h | h
          · exact h
          · rw [List.getD_eq_getElem?_getD, List.getElem?_eq_none h] at hkp; cases hkp
        have hkb : keep[k]? = some true := by
          rw [List.getD_eq_getElem?_getD, List.getElem?_eq_getElem hkl] at hkp
          rw [List.getElem?_eq_getElem hkl]
          exact congrArg some hkp
        obtain ⟨kg, ko, rfl, hcell⟩ : ∃ kg ko, ak = some ⟨kg, ko, none⟩ ∧ W.cell? ⟨kg, ko + k, none⟩ = some (.bool true) := by
          rcases HK.out with h | ⟨kg, ko, ha, hc⟩
          · rw [h] at hkl; simp at hkl
          · obtain ⟨u, hu, rfl⟩ := hc k true hkb
            exact ⟨kg, ko, ha, (HBW.out.cell (p := ⟨kg, ko + k, none⟩) (block_lt_of_cell hu)).trans hu⟩
        have hl3 := HL2.out
        rw [if_pos hkp] at hl3
        have HL3 := Lib.hid hl3
        have hkl' : (k : Int) < keep.length := by omega
        clear hl3 HL2 hkp hkb hkd
        go_upto_region 8 with fail
        refine region_anyZ (z := 8) (S := fun w' => w'.cell? ⟨gn, 0, none⟩ = some (.slice (some ⟨g2, 0, none⟩) sl.length c2) ∧ w'.cell? ⟨nb, 0, none⟩ = some (.int .i64 x.1) ∧ w'.rangeAt nb 1 (secCells x.2)) (by kernel_rfl) ?_
        refine anyZ_begin (fun hcl0 => ?_)
        refine anyZ_held (by exact ⟨e0, f0, HRB.out⟩) (fun hHeld => ?_)
        -- 0: Op.move (Operand.tmp 6)
        refine' anyZ_pure (i := 0) (v := _) rfl (by rfl) (by kernel_rfl) (by kernel_rfl) (by kernel_rfl) hcl0 (fun _ _ _ h => h) (Or.inl ⟨by rfl, fun w _ => ?h1⟩) (fun _ => hHeld) (fun hcl1 => ?r1)
        case h1 => (simp only [List.getElem_toArray, List.getElem_cons_zero]; first | (go_simp; with_reducible rfl) | (go_simp; done) | rfl)
        simp only [List.getElem_toArray, List.getElem_cons_zero, Act.put, List.setIfInBounds_toArray, List.set_cons_zero, List.set_cons_succ]
        -- 1: Op.nilCheck (Operand.tmp 38)
        refine' anyZ_pure (i := 1) (v := _) rfl (by rfl) (by kernel_rfl) (by kernel_rfl) (by kernel_rfl) hcl1 (fun _ _ _ h => h) (Or.inl ⟨by rfl, fun w _ => ?h2⟩) (fun _ => hHeld) (fun hcl2 => ?r2)
        case h2 => (simp only [List.getElem_toArray, List.getElem_cons_succ, List.getElem_cons_zero]; first | (go_simp; with_reducible rfl) | (go_simp; done) | rfl)
        simp only [List.getElem_toArray, List.getElem_cons_succ, List.getElem_cons_zero, Act.put, List.setIfInBounds_toArray, List.set_cons_zero, List.set_cons_succ]
        -- 2: Op.fieldAddr 63 (Operand.tmp 39) 0
        refine' anyZ_pure (i := 2) (v := _) rfl (by rfl) (by kernel_rfl) (by kernel_rfl) (by kernel_rfl) hcl2 (fun _ _ _ h => h) (Or.inl ⟨by rfl, fun w _ => ?h3⟩) (fun _ => hHeld) (fun hcl3 => ?r3)
        case h3 => (simp only [List.getElem_toArray, List.getElem_cons_succ, List.getElem_cons_zero]; first | (go_simp; with_reducible rfl) | (go_simp; done) | rfl)
        simp only [List.getElem_toArray, List.getElem_cons_succ, List.getElem_cons_zero, Act.put, List.setIfInBounds_toArray, List.set_cons_zero, List.set_cons_succ]
        -- 3: Op.load 60 (Operand.tmp 40)
        refine' anyZ_take (i := 3) (v := _) rfl (by rfl) (by kernel_rfl) (by kernel_rfl) (by kernel_rfl) hcl3 2 (by kernel_rfl) (by kernel_rfl) (fun _ _ _ h => h) (Or.inl ⟨by rfl, fun w hSw => ?h4⟩) hHeld (fun hcl4 => ?r4)
        case h4 => (simp only [List.getElem_toArray, List.getElem_cons_succ, List.getElem_cons_zero]; obtain ⟨hS1, hS2, hS3⟩ := hSw; first | (go_simp; with_reducible rfl) | (go_simp; done) | rfl)
        simp only [List.getElem_toArray, List.getElem_cons_succ, List.getElem_cons_zero, Act.put, List.setIfInBounds_toArray, List.set_cons_zero, List.set_cons_succ]
        -- 4: Op.fieldAddr 69 (Operand.tmp 8) 0
        refine' anyZ_pure (i := 4) (v := _) rfl (by rfl) (by kernel_rfl) (by kernel_rfl) (by kernel_rfl) hcl4 (fun _ _ _ h => h) (Or.inl ⟨by rfl, fun w _ => ?h5⟩) (fun _ => hHeld) (fun hcl5 => ?r5)
        case h5 => (simp only [List.getElem_toArray, List.getElem_cons_succ, List.getElem_cons_zero]; first | (go_simp; with_reducible rfl) | (go_simp; done) | rfl)
        simp only [List.getElem_toArray, List.getElem_cons_succ, List.getElem_cons_zero, Act.put, List.setIfInBounds_toArray, List.set_cons_zero, List.set_cons_succ]
        -- 5: Op.load 3 (Operand.tmp 42)
        refine' anyZ_take (i := 5) (v := _) rfl (by rfl) (by kernel_rfl) (by kernel_rfl) (by kernel_rfl) hcl5 2 (by kernel_rfl) (by kernel_rfl) (fun _ _ _ h => h) (Or.inl ⟨by rfl, fun w hSw => ?h6⟩) hHeld (fun hcl6 => ?r6)
        case h6 => (simp only [List.getElem_toArray, List.getElem_cons_succ, List.getElem_cons_zero]; obtain ⟨hS1, hS2, hS3⟩ := hSw; first | (go_simp; with_reducible rfl) | (go_simp; done) | rfl)
        simp only [List.getElem_toArray, List.getElem_cons_succ, List.getElem_cons_zero, Act.put, List.setIfInBounds_toArray, List.set_cons_zero, List.set_cons_succ]
        -- 6: Op.fieldAddr 69 (Operand.tmp 8) 1
        refine' anyZ_pure (i := 6) (v := _) rfl (by rfl) (by kernel_rfl) (by kernel_rfl) (by kernel_rfl) hcl6 (fun _ _ _ h => h) (Or.inl ⟨by rfl, fun w _ => ?h7⟩) (fun _ => hHeld) (fun hcl7 => ?r7)
        case h7 => (simp only [List.getElem_toArray, List.getElem_cons_succ, List.getElem_cons_zero]; first | (go_simp; with_reducible rfl) | (go_simp; done) | rfl)
        simp only [List.getElem_toArray, List.getElem_cons_succ, List.getElem_cons_zero, Act.put, List.setIfInBounds_toArray, List.set_cons_zero, List.set_cons_succ]
        -- 7: Op.load 67 (Operand.tmp 44)
        refine' anyZ_take (i := 7) (v := _) rfl (by rfl) (by kernel_rfl) (by kernel_rfl) (by kernel_rfl) hcl7 2 (by kernel_rfl) (by kernel_rfl) (fun _ _ _ h => h) (yieldsIf_load_mid (by rfl) 104 _ rfl nb 1 rfl (secCells x.2) _ (fun w hSw => hSw.2.2) Tryd.underlying104 rfl HIS.out) hHeld (fun hcl8 => ?r8)
        simp only [List.getElem_toArray, List.getElem_cons_succ, List.getElem_cons_zero, Act.put, List.setIfInBounds_toArray, List.set_cons_zero, List.set_cons_succ]
        clear hHeld
        refine anyZ_chain_at (by kernel_rfl) ?_
        simp only [List.drop_succ_cons, List.drop_zero]
        have hxi : (x.1 : Int) < sl.length := by rw [HSL.out]; exact hx1
        have hth : W.drew.there g2 (x.1 * 512) (secCells x.2).toArray.size := by
          rw [List.size_toArray, HXS.out]
          refine own_there (w := W.drew) HSA2.out _ _ ?_
          have h := HXO.out.2
          have : (x.1 + 1) * 512 ≤ d.safe.length * 512 := Nat.mul_le_mul_right _ h
          omega
        have hso : (secCells x.2).toArray.all (·.oneCell') = true := sec_one _
        have HTH := Lib.hid hth
        have HSO := Lib.hid hso
        clear hth hso
        go_wp2_with (with_reducible refine wpList_store_mid rfl 104 _ _ rfl g2 (x.1 * 512) (secCells x.2).toArray rfl rfl HTH.out HIT.out HSO.out ?_)
        have ho9 := only_setCells g2 (secCells x.2) W.drew (x.1 * 512)
        have hs9 := own_setCells (secCells x.2) (x.1 * 512) (show W.drew.ownsRow w.heap.size 104 512 (.slice (some ⟨g2, 0, none⟩) d.safe.length c2) d.safe.length (sl.flatMap secCells) from HSA2.out)
        have hok : ∀ s ∈ sl, (secCells s).length = 512 := fun s hs => by
          unfold secCells; rw [List.length_map]
          rw [HL.out] at hs
          exact crashOf_ok _ _ (fun y hy => (H30.out.wait y (List.mem_of_mem_take hy)).1) _ _ H30.out.safe s hs
        rw [setAll_flat secCells 512 sl hok x.1 x.2 (by rw [HSL.out]; exact HXO.out.2) HXS.out] at hs9
        have hne2 : g2 ≠ gn := fun e => by subst e; exact own_ne HSA2.out HRA2.out (by decide) rfl
        have hr9 := (ho9.block gn (by rw [show W.drew.heap.size = W.heap.size from rfl, hszA]; have := HNB.out; omega) (fun e => hne2 e.symm)).trans HRA2.out
        have hb9 : Below w.heap.size w (W.drew.setCells g2 (x.1 * 512) (secCells x.2)) := (bdr HBW.out).trans (ho9.below w.heap.size HBW.out.size (fun i hi e => by have := hg2l.1; omega))
        go_roundw
        case rel => exact ⟨k + 1, sl.set x.1 x.2, by go_num, by omega, Lib.hid HL3.out.symm, Lib.hid hr9, Lib.hid hs9, hb9⟩
        case measure => first | (simp [intOf]; done) | (simp [intOf]; omega)
      · have hl3 := HL2.out
        rw [if_neg hkp] at hl3
        have HL3 := Lib.hid hl3
        clear hl3 HL2
        by_cases hkl : k < keep.length
        · have hkb : keep[k]? = some false := by
            rw [List.getD_eq_getElem?_getD, List.getElem?_eq_getElem hkl] at hkp
            rw [List.getElem?_eq_getElem hkl]
            exact congrArg some (by simpa using hkp)
          obtain ⟨kg, ko, rfl, hcell⟩ : ∃ kg ko, ak = some ⟨kg, ko, none⟩ ∧ W.cell? ⟨kg, ko + k, none⟩ = some (.bool false) := by
            rcases HK.out with h | ⟨kg, ko, ha, hc⟩
            · rw [h] at hkl; simp at hkl
            · obtain ⟨u, hu, rfl⟩ := hc k false hkb
              exact ⟨kg, ko, ha, (HBW.out.cell (p := ⟨kg, ko + k, none⟩) (block_lt_of_cell hu)).trans hu⟩
          have hkl' : (k : Int) < keep.length := by omega
          clear hkp hkb hkd
          go_wp2
          go_roundw
          case rel => exact ⟨k + 1, sl, by go_num, by omega, Lib.hid HL3.out.symm, HRA2, HSA2, HBW.out⟩
          case measure => first | (simp [intOf]; done) | (simp [intOf]; omega)
        · have hkl' : (keep.length : Int) ≤ k := by omega
          clear hkp hkd
          go_wp2
          go_roundw
          case rel => exact ⟨k + 1, sl, by go_num, by omega, Lib.hid HL3.out.symm, HRA2, HSA2, HBW.out⟩
          case measure => first | (simp [intOf]; done) | (simp [intOf]; omega)
    · have e : k = d.wait.length := by omega
      subst e
      have hl := HL.out
      rw [List.take_length] at hl
      have hsl : sl.length = d.safe.length := by rw [HL.out, crashOf_length]
      have HS := Lib.hid hsl
      have HL4 := Lib.hid hl
      clear hl hsl
      go_wp2_with fail
      go_ret2
      refine ⟨gn, fun k => k = gn ∨ (Value.slice a2 d.safe.length c2).ownBlock = some k, rfl, ⟨⟨?_, (fun x hx => by cases hx), ?_⟩, .slice a2 d.safe.length c2, .slice none 0 0, HR.out, ?_, World.ownsRow_nil _ _ _ _, fun k => ?_⟩, ?_, hb⟩
      · show ∀ s ∈ crashOf keep 0 d.wait d.safe, s.length = 512
        exact crashOf_ok _ _ (fun y hy => (H30.out.wait y hy).1) _ _ H30.out.safe
      · show (crashOf keep 0 d.wait d.safe).length ≤ 4096
        rw [crashOf_length]; exact H30.out.few
      · have e1 : (d.crashed keep).safe = sl := HL4.out.symm
        rw [e1, HS.out]
        exact ownsRow_base HSA.out (Nat.zero_le _)
      · simp [Value.ownBlock]
      · rintro k (rfl | h)
        · exact hgnw
        · exact (World.ownsRow.lt HSA.out k h).1

set_option maxRecDepth 10000 in
theorem crash_nil (v : Value) (keep : List Bool) (w : World) (hkeep : Bools w v keep) :
    Calls Tryd.prog 30 #[.pointer none, v] w fun e w' => e = .returned (.tuple #[.pointer none, .int .i64 3]) ∧ w' = w := by
  obtain ⟨ak, ck, rfl, _⟩ := hkeep
  go_enter Tryd.func30, Tryd.ntmps30
  go_wp2
  go_ret2
  exact ⟨rfl, rfl⟩
end Go.Proofs.YtacfkhnajdneeaaDoor
