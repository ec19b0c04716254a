/- Walk: all that waits is made safe. -/
import Derived.Test.YtacfkhnajdneeaaDoorDkWrite
namespace Go.Proofs.YtacfkhnajdneeaaDoor
open Go.RowKit

def syncOf (safe : List (List UInt8)) (ws : List (Nat × List UInt8)) : List (List UInt8) := ws.foldl (fun s x => s.set x.1 x.2) safe
theorem syncOf_snoc (safe : List (List UInt8)) (ws : List (Nat × List UInt8)) (x : Nat × List UInt8) : syncOf safe (ws ++ [x]) = (syncOf safe ws).set x.1 x.2 := by unfold syncOf; rw [List.foldl_append]; rfl
theorem syncOf_length (ws : List (Nat × List UInt8)) : ∀ safe, (syncOf safe ws).length = safe.length := by
  induction ws with
  | nil => intro safe; rfl
  | cons x ws ih => intro safe; show (syncOf (safe.set x.1 x.2) ws).length = _; rw [ih, List.length_set]
theorem syncOf_ok (ws : List (Nat × List UInt8)) (hw : ∀ x ∈ ws, x.2.length = 512) : ∀ safe, (∀ s ∈ safe, s.length = 512) → ∀ s ∈ syncOf safe ws, s.length = 512 := by
  induction ws with
  | nil => intro safe h; exact h
  | cons x ws ih =>
    intro safe h
    refine ih (fun y hy => hw y (by simp [hy])) _ fun s hs => ?_
    rcases List.mem_or_eq_of_mem_set hs with h1 | h1
    · exact h s h1
    · rw [h1]; exact hw x (by simp)

def Dk.synced (d : Dk) : Dk := ⟨syncOf d.safe d.wait, [], d.count, d.bound, if d.bound then d.left - 1 else d.left⟩

set_option maxRecDepth 10000 in
set_option maxHeartbeats 3200000 in
theorem sync_ok (g : Nat) (d : Dk) (F : Nat → Prop) (w : World) (h : DiskAt w g d F) (hm : d.may = true)
    (hl0 : -9223372036854775808 < d.left) (hl1 : d.left ≤ 9223372036854775807) (hw : d.wait.length ≤ 1000000) :
    Calls Tryd.prog 39 #[.pointer (some ⟨g, 0, none⟩)] w fun e w' => ∃ F', e = .returned (.int .i64 0) ∧ DiskAt w' g d.synced F' ∧ Moved w w' F F' := by
  have hs := spend_any g d F w h hl0 hl1
  rw [hm] at hs
  have HS := Lib.hid hs
  clear hs
  obtain ⟨z, hzs, hz⟩ : ∃ z : Array Value, z.size = 513 ∧ (∀ w, (zeroValue 106).run Tryd.prog w = .ok (.agg z) w) := ⟨_, by simp, zeroW⟩
  go_enter Tryd.func39, Tryd.ntmps39
  go_wp2_with fail
  refine HS.out.mono ?_
  rintro e w2 ⟨rfl, hd2, hm2, ho2⟩
  rw [d.spent_bound hm] at hd2
  obtain ⟨h30, vs, vw, h31, h32, h33, h34⟩ := hd2
  obtain ⟨a3, c3, rfl, hc3, hm3, hn3, _⟩ := ownsRow_lies h33
  obtain ⟨a2, c2, rfl, hc2, hm4, hn2, _⟩ := ownsRow_lies h32
  obtain ⟨c0, c1, _, _, _, fr⟩ := row5 h31
  have hfew := h30.few
  have H30 := Lib.hid h30
  have H31 := Lib.hid h31
  have H32 := Lib.hid h32
  have H33 := Lib.hid h33
  have H34 := Lib.hid h34
  have HM2 := Lib.hid hm2
  clear h31 h32 h33 h34 h30 hm2 ho2 HS hn2 hn3 hm
  simp only at hfew hc3 hc2
  go_wp2
  go_loopw [4, 15] (fun _ i wr => ∃ (k : Nat) (sl : List (List UInt8)), i = .int .i64 k ∧ k ≤ d.wait.length ∧ Hid (sl = syncOf d.safe (d.wait.take k)) ∧
      Hid (wr.heap[g]? = some (.cells #[.slice a2 d.safe.length c2, .slice a3 d.wait.length c3, .int .i64 d.count, .bool d.bound, .int .i64 (if d.bound then d.left - 1 else d.left)] 96 (0, 0))) ∧
      Hid (wr.ownsRow 0 104 512 (.slice a2 d.safe.length c2) d.safe.length (sl.flatMap secCells)) ∧ Hid (wr.ownsRow 0 106 513 (.slice a3 d.wait.length c3) d.wait.length (d.wait.flatMap wrCells)) ∧ Only w2 wr F) (fun _ i _ => d.wait.length - (intOf i).toNat)
  case atStart => exact ⟨0, d.safe, rfl, by omega, Lib.hid (by simp [syncOf]), H31, H32, H33, Only.refl _ _⟩
  case round =>
    obtain ⟨k, sl, rfl, hk, HL, HR, HSA, HWA, hb⟩ := hrel
    by_cases hlt : k < d.wait.length
    · obtain ⟨x, hx⟩ : ∃ x, d.wait[k]? = some x := ⟨_, List.getElem?_eq_getElem hlt⟩
      have hxo := H30.out.wait x (List.mem_of_getElem? hx)
      have hxl : (wrCells x).length = 513 := H30.out.wrs x (List.mem_of_getElem? hx)
      have h3 := HWA.out
      obtain ⟨g3, rfl⟩ : ∃ g3, a3 = some ⟨g3, 0, none⟩ := by
        rcases h3.2 with ⟨h, h'⟩ | ⟨g', c', cur, h, _⟩
        · omega
        · cases h; exact ⟨_, rfl⟩
      have h2 := HSA.out
      obtain ⟨g2, rfl⟩ : ∃ g2, a2 = some ⟨g2, 0, none⟩ := by
        rcases h2.2 with ⟨h, h'⟩ | ⟨g', c', cur, h, _⟩
        · have := hxo.2; simp only at this; omega
        · cases h; exact ⟨_, rfl⟩
      have hsl : sl.length = d.safe.length := by rw [HL.out, syncOf_length]
      have hr := own_range H30.out.wrs h3 k x hx
      have hl2 : syncOf d.safe (d.wait.take (k + 1)) = sl.set x.1 x.2 := by
        rw [List.take_succ_eq_append_getElem hlt, syncOf_snoc, ← HL.out]
        have hg := List.getElem?_eq_getElem hlt
        rw [hx] at hg
        rw [← Option.some.inj hg]
      have hia : (Tryd.prog.info? 106).map (·.size) = some (wrCells x).length := by rw [hxl]; exact infoW
      have hib : (Tryd.prog.info? 106).map (·.size) = some (wrCells x).toArray.size := by rw [List.size_toArray]; exact hia
      have hzc : z.size = (wrCells x).toArray.size := by rw [hzs, List.size_toArray, hxl]
      have hxs : (secCells x.2).length = 512 := by unfold secCells; rw [List.length_map]; exact hxo.1
      have his : (Tryd.prog.info? 104).map (·.size) = some (secCells x.2).length := by rw [hxs]; exact infoS
      have hit : (Tryd.prog.info? 104).map (·.size) = some (secCells x.2).toArray.size := by rw [List.size_toArray]; exact his
      have hx1 : (x.1 : Int) < d.safe.length := by have := hxo.2; simp only at this; omega
      have hgl : g < wr.heap.size := (Array.getElem?_eq_some_iff.1 HR.out).1
      have hg2l : g2 < wr.heap.size := (World.ownsRow.lt h2 g2 rfl).2
      have HRN := Lib.hid hr
      have HL2 := Lib.hid hl2
      have HSL := Lib.hid hsl
      have HXO := Lib.hid hxo
      have HA := Lib.hid hia
      have HB := Lib.hid hib
      have HZ := Lib.hid hzc
      have HO := Lib.hid (wr_one x)
      have HXS := Lib.hid hxs
      have HIS := Lib.hid his
      have HIT := Lib.hid hit
      obtain ⟨d0, d1, _, _, _, _⟩ := row5 HR.out
      clear hr hl2 hia hib hzc hxl h3 h2 hx his hit hxs hxo hsl
      go_upto_region 8 with (first | (with_reducible refine wpList_load_mid rfl 106 _ rfl g3 (k * 513) rfl (wrCells x) _ HRN.out Tryd.underlying106 rfl HA.out ?_) | (with_reducible refine wpList_store_new rfl 106 _ _ rfl z (wrCells x).toArray wr.heap.size rfl rfl rfl HB.out HZ.out HO.out ?_))
      have hnr : (wr.alloc (.cells (wrCells x).toArray 106)).rangeAt wr.heap.size 0 (wrCells x) := rangeAt_new wr _ _ _ rfl
      have f0 := rangeAt_head hnr
      have hrb := rangeAt_tail hnr
      have hbA := bal (bre wr) (.cells (wrCells x).toArray 106)
      have hrA := (hbA.block g hgl).trans HR.out
      have hsA := World.ownsRow.alloc HSA.out (.cells (wrCells x).toArray 106)
      have hwA := World.ownsRow.alloc HWA.out (.cells (wrCells x).toArray 106)
      have hszA : (wr.alloc (.cells (wrCells x).toArray 106)).heap.size = wr.heap.size + 1 := by simp
      generalize wr.alloc (.cells (wrCells x).toArray 106) = W at *
      obtain ⟨e0, e1, _, _, _, er⟩ := row5 hrA
      have HRB := Lib.hid (show W.rangeAt wr.heap.size 1 (secCells x.2) from hrb)
      have HSA2 := Lib.hid hsA
      have HWA2 := Lib.hid hwA
      have HRA2 := Lib.hid hrA
      have HBA := Lib.hid hbA
      clear hnr hrb hsA hwA hrA hbA
      obtain ⟨nb, hnb⟩ : ∃ nb, nb = wr.heap.size := ⟨_, rfl⟩
      rw [← hnb] at f0 HRB hszA ⊢
      have HNB := Lib.hid hnb
      clear hnb
      have e0' : W.cell? ⟨g, 0, none⟩ = some (.slice (some ⟨g2, 0, none⟩) sl.length c2) := by rw [HSL.out]; exact e0
      clear e0
      have e0 := e0'
      clear e0'
      refine region_anyZ (z := 8) (S := fun w' => w'.cell? ⟨g, 0, none⟩ = some (.slice (some ⟨g2, 0, none⟩) sl.length c2) ∧ w'.cell? ⟨nb, 0, none⟩ = some (.int .i64 x.1) ∧ w'.rangeAt nb 1 (secCells x.2)) (by kernel_rfl) ?_
      refine anyZ_begin (fun hcl0 => ?_)
      refine anyZ_held (by exact ⟨e0, f0, HRB.out⟩) (fun hHeld => ?_)
      -- 0: Op.move (Operand.tmp 0)
      refine' anyZ_pure (i := 0) (v := _) rfl (by rfl) (by kernel_rfl) (by kernel_rfl) (by kernel_rfl) hcl0 (fun _ _ _ h => h) (Or.inl ⟨by rfl, fun w _ => ?h1⟩) (fun _ => hHeld) (fun hcl1 => ?r1)
      case h1 => (simp only [List.getElem_toArray, List.getElem_cons_zero]; first | (go_simp; with_reducible rfl) | (go_simp; done) | rfl)
      simp only [List.getElem_toArray, List.getElem_cons_zero, Act.put, List.setIfInBounds_toArray, List.set_cons_zero, List.set_cons_succ]
      -- 1: Op.nilCheck (Operand.tmp 19)
      refine' anyZ_pure (i := 1) (v := _) rfl (by rfl) (by kernel_rfl) (by kernel_rfl) (by kernel_rfl) hcl1 (fun _ _ _ h => h) (Or.inl ⟨by rfl, fun w _ => ?h2⟩) (fun _ => hHeld) (fun hcl2 => ?r2)
      case h2 => (simp only [List.getElem_toArray, List.getElem_cons_succ, List.getElem_cons_zero]; first | (go_simp; with_reducible rfl) | (go_simp; done) | rfl)
      simp only [List.getElem_toArray, List.getElem_cons_succ, List.getElem_cons_zero, Act.put, List.setIfInBounds_toArray, List.set_cons_zero, List.set_cons_succ]
      -- 2: Op.fieldAddr 63 (Operand.tmp 20) 0
      refine' anyZ_pure (i := 2) (v := _) rfl (by rfl) (by kernel_rfl) (by kernel_rfl) (by kernel_rfl) hcl2 (fun _ _ _ h => h) (Or.inl ⟨by rfl, fun w _ => ?h3⟩) (fun _ => hHeld) (fun hcl3 => ?r3)
      case h3 => (simp only [List.getElem_toArray, List.getElem_cons_succ, List.getElem_cons_zero]; first | (go_simp; with_reducible rfl) | (go_simp; done) | rfl)
      simp only [List.getElem_toArray, List.getElem_cons_succ, List.getElem_cons_zero, Act.put, List.setIfInBounds_toArray, List.set_cons_zero, List.set_cons_succ]
      -- 3: Op.load 60 (Operand.tmp 21)
      refine' anyZ_take (i := 3) (v := _) rfl (by rfl) (by kernel_rfl) (by kernel_rfl) (by kernel_rfl) hcl3 2 (by kernel_rfl) (by kernel_rfl) (fun _ _ _ h => h) (Or.inl ⟨by rfl, fun w hSw => ?h4⟩) hHeld (fun hcl4 => ?r4)
      case h4 => (simp only [List.getElem_toArray, List.getElem_cons_succ, List.getElem_cons_zero]; obtain ⟨hS1, hS2, hS3⟩ := hSw; first | (go_simp; with_reducible rfl) | (go_simp; done) | rfl)
      simp only [List.getElem_toArray, List.getElem_cons_succ, List.getElem_cons_zero, Act.put, List.setIfInBounds_toArray, List.set_cons_zero, List.set_cons_succ]
      -- 4: Op.fieldAddr 69 (Operand.tmp 4) 0
      refine' anyZ_pure (i := 4) (v := _) rfl (by rfl) (by kernel_rfl) (by kernel_rfl) (by kernel_rfl) hcl4 (fun _ _ _ h => h) (Or.inl ⟨by rfl, fun w _ => ?h5⟩) (fun _ => hHeld) (fun hcl5 => ?r5)
      case h5 => (simp only [List.getElem_toArray, List.getElem_cons_succ, List.getElem_cons_zero]; first | (go_simp; with_reducible rfl) | (go_simp; done) | rfl)
      simp only [List.getElem_toArray, List.getElem_cons_succ, List.getElem_cons_zero, Act.put, List.setIfInBounds_toArray, List.set_cons_zero, List.set_cons_succ]
      -- 5: Op.load 3 (Operand.tmp 23)
      refine' anyZ_take (i := 5) (v := _) rfl (by rfl) (by kernel_rfl) (by kernel_rfl) (by kernel_rfl) hcl5 2 (by kernel_rfl) (by kernel_rfl) (fun _ _ _ h => h) (Or.inl ⟨by rfl, fun w hSw => ?h6⟩) hHeld (fun hcl6 => ?r6)
      case h6 => (simp only [List.getElem_toArray, List.getElem_cons_succ, List.getElem_cons_zero]; obtain ⟨hS1, hS2, hS3⟩ := hSw; first | (go_simp; with_reducible rfl) | (go_simp; done) | rfl)
      simp only [List.getElem_toArray, List.getElem_cons_succ, List.getElem_cons_zero, Act.put, List.setIfInBounds_toArray, List.set_cons_zero, List.set_cons_succ]
      -- 6: Op.fieldAddr 69 (Operand.tmp 4) 1
      refine' anyZ_pure (i := 6) (v := _) rfl (by rfl) (by kernel_rfl) (by kernel_rfl) (by kernel_rfl) hcl6 (fun _ _ _ h => h) (Or.inl ⟨by rfl, fun w _ => ?h7⟩) (fun _ => hHeld) (fun hcl7 => ?r7)
      case h7 => (simp only [List.getElem_toArray, List.getElem_cons_succ, List.getElem_cons_zero]; first | (go_simp; with_reducible rfl) | (go_simp; done) | rfl)
      simp only [List.getElem_toArray, List.getElem_cons_succ, List.getElem_cons_zero, Act.put, List.setIfInBounds_toArray, List.set_cons_zero, List.set_cons_succ]
      -- 7: Op.load 67 (Operand.tmp 25)
      refine' anyZ_take (i := 7) (v := _) rfl (by rfl) (by kernel_rfl) (by kernel_rfl) (by kernel_rfl) hcl7 2 (by kernel_rfl) (by kernel_rfl) (fun _ _ _ h => h) (yieldsIf_load_mid (by rfl) 104 _ rfl nb 1 rfl (secCells x.2) _ (fun w hSw => hSw.2.2) Tryd.underlying104 rfl HIS.out) hHeld (fun hcl8 => ?r8)
      simp only [List.getElem_toArray, List.getElem_cons_succ, List.getElem_cons_zero, Act.put, List.setIfInBounds_toArray, List.set_cons_zero, List.set_cons_succ]
      clear hHeld
      refine anyZ_chain_at (by kernel_rfl) ?_
      simp only [List.drop_succ_cons, List.drop_zero]
      have hxi : (x.1 : Int) < sl.length := by rw [HSL.out]; exact hx1
      have hth : W.drew.there g2 (x.1 * 512) (secCells x.2).toArray.size := by
        rw [List.size_toArray, HXS.out]
        refine own_there (w := W.drew) HSA2.out _ _ ?_
        have h := HXO.out.2
        simp only at h
        have : (x.1 + 1) * 512 ≤ d.safe.length * 512 := Nat.mul_le_mul_right _ h
        omega
      have hso : (secCells x.2).toArray.all (·.oneCell') = true := sec_one _
      have HTH := Lib.hid hth
      have HSO := Lib.hid hso
      clear hth hso
      go_wp2_with (with_reducible refine wpList_store_mid rfl 104 _ _ rfl g2 (x.1 * 512) (secCells x.2).toArray rfl rfl HTH.out HIT.out HSO.out ?_)
      have ho9 := only_setCells g2 (secCells x.2) W.drew (x.1 * 512)
      have hs9 := own_setCells (secCells x.2) (x.1 * 512) (show W.drew.ownsRow 0 104 512 (.slice (some ⟨g2, 0, none⟩) d.safe.length c2) d.safe.length (sl.flatMap secCells) from HSA2.out)
      have hok : ∀ s ∈ sl, (secCells s).length = 512 := fun s hs => by
        unfold secCells; rw [List.length_map]
        rw [HL.out] at hs
        exact syncOf_ok _ (fun y hy => (H30.out.wait y (List.mem_of_mem_take hy)).1) _ H30.out.safe s hs
      rw [setAll_flat secCells 512 sl hok x.1 x.2 (by rw [HSL.out]; exact HXO.out.2) HXS.out] at hs9
      have hne2 : g2 ≠ g := fun e => by subst e; exact own_ne HSA2.out HRA2.out (by decide) rfl
      have hr9 := (ho9.block g (by rw [show W.drew.heap.size = W.heap.size from rfl, hszA]; have := HNB.out; omega) (fun e => hne2 e.symm)).trans HRA2.out
      have hw9 := own_only (show W.drew.ownsRow 0 106 513 (.slice (some ⟨g3, 0, none⟩) d.wait.length c3) d.wait.length (d.wait.flatMap wrCells) from HWA2.out) ho9 (fun q hq e => by
        rcases own_apart HWA2.out HSA2.out (by decide) with h | h
        · cases h
        · exact h (hq.trans (by rw [e]; rfl)))
      have hf2 : F g2 := (H34.out g2).2 (.inr (.inl rfl))
      have hb9 : Only w2 (W.drew.setCells g2 (x.1 * 512) (secCells x.2)) F := (hb.trans (Only.of_below (bdr HBA.out) F) fun _ _ h => h).trans (ho9.mono fun i _ e => by rw [e]; exact hf2) fun _ _ h => h
      go_roundw
      case rel => exact ⟨k + 1, sl.set x.1 x.2, by go_num, by omega, Lib.hid HL2.out.symm, Lib.hid hr9, Lib.hid hs9, Lib.hid hw9, hb9⟩
      case measure => first | (simp [intOf]; done) | (simp [intOf]; omega)
    · have e : k = d.wait.length := by omega
      subst e
      have hl := HL.out
      rw [List.take_length] at hl
      obtain ⟨d0, d1, _, _, _, er⟩ := row5 HR.out
      go_wp2_with fail
      go_ret
      have ho9 : Only wr (wr.setCell ⟨g, 1, none⟩ (.slice none 0 0)) (fun k => k = g) := Only.setCell _ _ _
      have hr9 := heap_setCell_same wr g 1 _ _ (.slice none 0 0) HR.out
      have hsl : sl.length = d.safe.length := by rw [HL.out, syncOf_length]
      refine ⟨fun k => k = g ∨ (Value.slice a2 d.safe.length c2).ownBlock = some k, rfl, ⟨⟨?_, (fun x hx => by cases hx), ?_⟩, .slice a2 d.safe.length c2, .slice none 0 0, hr9, ?_, World.ownsRow_nil _ _ _ _, fun k => ?_⟩, ?_⟩
      · show ∀ s ∈ syncOf d.safe d.wait, s.length = 512
        exact syncOf_ok _ (fun y hy => (H30.out.wait y hy).1) _ H30.out.safe
      · show (syncOf d.safe d.wait).length ≤ 4096
        rw [syncOf_length]; exact H30.out.few
      · have hs9 := own_only HSA.out ho9 (fun q hq e => by subst e; exact own_ne HSA.out HR.out (by decide) hq)
        have e1 : d.synced.safe = sl := hl.symm
        rw [e1, hsl]
        exact hs9
      · simp [Value.ownBlock]
      · have hF := H34.out
        refine ⟨(HM2.out.only.trans hb fun _ _ h => h).trans (ho9.mono fun i _ e => (hF i).2 (.inl e)) fun _ _ h => h, fun k hk => .inl ?_⟩
        rcases hk with h | h
        · exact (hF k).2 (.inl h)
        · exact (hF k).2 (.inr (.inl h))

set_option maxRecDepth 10000 in
theorem sync_off (g : Nat) (d : Dk) (F : Nat → Prop) (w : World) (h : DiskAt w g d F) (hm : d.may = false)
    (hl0 : -9223372036854775808 < d.left) (hl1 : d.left ≤ 9223372036854775807) :
    Calls Tryd.prog 39 #[.pointer (some ⟨g, 0, none⟩)] w fun e w' => e = .returned (.int .i64 8) ∧ DiskAt w' g d F ∧ Moved w w' F F := by
  have hs := spend_any g d F w h hl0 hl1
  have hsp : d.spent = d := by unfold Dk.spent; rw [hm]; rfl
  rw [hm, hsp] at hs
  have HS := Lib.hid hs
  clear hs hsp
  go_enter Tryd.func39, Tryd.ntmps39
  go_wp2_with (go_at_call 63; refine HS.out.mono ?_; rintro e w2 ⟨rfl, hd2, hm2, ho2⟩)
  go_ret
  exact ⟨rfl, hd2, hm2⟩

set_option maxRecDepth 10000 in
theorem sync_nil (w : World) :
    Calls Tryd.prog 39 #[.pointer none] w fun e w' => e = .returned (.int .i64 3) ∧ w' = w := by
  go_enter Tryd.func39, Tryd.ntmps39
  go_wp2
  go_ret
  exact ⟨rfl, rfl⟩
end Go.Proofs.YtacfkhnajdneeaaDoor
