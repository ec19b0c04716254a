/- Walk: what waits on a disk. -/
import Derived.Test.YtacfkhnajdneeaaDoorDkNow
namespace Go.Proofs.YtacfkhnajdneeaaDoor
open Go.RowKit

theorem zeroW : ∀ w, (zeroValue 106).run Tryd.prog w = .ok (.agg (#[.int .i64 0] ++ Array.replicate 512 (.int .u8 0))) w := fun w => by kernel_rfl
theorem infoW : (Tryd.prog.info? 106).map (·.size) = some 513 := by kernel_rfl
theorem rowI : RowTy Tryd.prog 71 3 1 8 := RowTy.mk' (z := .int .i64 0) Tryd.underlying71 (by kernel_rfl) rfl (by omega)

/-- ints of one's own -/
def OwnInts (base : Nat) (w : World) (v : Value) (l : List Nat) : Prop := w.ownsRow base 3 1 v l.length (l.map fun (n : Nat) => Value.int .i64 (n : Int))

theorem wr_one (x : Nat × List UInt8) : ((wrCells x).toArray).all (·.oneCell') = true := all_oneCell_toArray (fun v hv => by
  unfold wrCells at hv
  rcases List.mem_cons.1 hv with rfl | h
  · rfl
  · exact B8_one _ v h)

set_option maxRecDepth 10000 in
set_option maxHeartbeats 1600000 in
theorem waiting_any (g : Nat) (d : Dk) (F : Nat → Prop) (w : World) (h : DiskAt w g d F) (hw : d.wait.length ≤ 1000000) :
    Calls Tryd.prog 41 #[.pointer (some ⟨g, 0, none⟩)] w fun e w' => ∃ v, e = .returned v ∧ OwnInts w.heap.size w' v (d.wait.map (·.1)) ∧ Below w.heap.size w w' := by
  have hgl := h.lt g h.g
  obtain ⟨h0, vs, vw, h1, h2, h3, h4⟩ := h
  obtain ⟨a3, c3', rfl, hc3, hm3, _⟩ := ownsRow_lies h3
  obtain ⟨_, c1, _, _, _, _⟩ := row5 h1
  obtain ⟨z, hzs, hz⟩ : ∃ z : Array Value, z.size = 513 ∧ (∀ w, (zeroValue 106).run Tryd.prog w = .ok (.agg z) w) := ⟨_, by simp, zeroW⟩
  have H3 := Lib.hid h3
  clear h1 h2 h3 h4
  go_enter Tryd.func41, Tryd.ntmps41
  go_wp2
  go_loopw [3, 5, 13] (fun out _ i wr => ∃ (k : Nat) (l : List Nat), i = .int .i64 k ∧ k ≤ d.wait.length ∧ Hid (l = (d.wait.take k).map (·.1)) ∧ OwnInts w.heap.size wr out l ∧ Below w.heap.size w wr) (fun _ _ i _ => d.wait.length - (intOf i).toNat)
  case atStart => exact ⟨0, [], rfl, by omega, Lib.hid (by simp), World.ownsRow_nil _ _ _ _, Below.refl _ _⟩
  case round =>
    obtain ⟨k, l, rfl, hk, HL, hown, hb⟩ := hrel
    by_cases hlt : k < d.wait.length
    · obtain ⟨x, hx⟩ : ∃ x, d.wait[k]? = some x := ⟨_, List.getElem?_eq_getElem hlt⟩
      have hxl : (wrCells x).length = 513 := h0.wrs x (List.mem_of_getElem? hx)
      have h3 := H3.out
      obtain ⟨g3, rfl⟩ : ∃ g3, a3 = some ⟨g3, 0, none⟩ := by
        rcases h3.2 with ⟨h, h'⟩ | ⟨g', c', cur, h, _⟩
        · omega
        · cases h; exact ⟨_, rfl⟩
      have hg3 : g3 < w.heap.size := (World.ownsRow.lt h3 g3 rfl).2
      have hr := rangeAt_below (own_range h0.wrs h3 k x hx) hb hg3
      have hl2 : (d.wait.take (k + 1)).map (·.1) = l ++ [x.1] := by
        rw [List.take_succ_eq_append_getElem hlt, List.map_append, ← HL.out]
        have hg := List.getElem?_eq_getElem hlt
        rw [hx] at hg
        rw [← Option.some.inj hg]; rfl
      have HR := Lib.hid hr
      have HL2 := Lib.hid hl2
      have hll : l.length ≤ k := by rw [HL.out]; simp; omega
      have hia : (Tryd.prog.info? 106).map (·.size) = some (wrCells x).length := by rw [hxl]; exact infoW
      have hib : (Tryd.prog.info? 106).map (·.size) = some (wrCells x).toArray.size := by rw [List.size_toArray]; exact hia
      have hzc : z.size = (wrCells x).toArray.size := by rw [hzs, List.size_toArray, hxl]
      have HA := Lib.hid hia
      have HB := Lib.hid hib
      have HZ := Lib.hid hzc
      have HO := Lib.hid (wr_one x)
      clear hr hl2 hia hib hzc hxl h3 hx
      go_upto_region 7 with (first | (with_reducible refine wpList_load_mid rfl 106 _ rfl g3 (k * 513) rfl (wrCells x) _ HR.out Tryd.underlying106 rfl HA.out ?_) | (with_reducible refine wpList_store_new rfl 106 _ _ rfl z (wrCells x).toArray wr.heap.size rfl rfl rfl HB.out HZ.out HO.out ?_))
      have hc0 : (wr.alloc (.cells (wrCells x).toArray 106)).cell? ⟨wr.heap.size, 0, none⟩ = some (.int .i64 x.1) := by
        rw [cell_of_row _ _ 0 _ _ _ (heap_alloc_new wr _)]; rfl
      have hbA := bal (bre wr) (.cells (wrCells x).toArray 106)
      have hoA := World.ownsRow.alloc hown (.cells (wrCells x).toArray 106)
      generalize wr.alloc (.cells (wrCells x).toArray 106) = W at *
      have hbW := hb.trans (hbA.mono hb.size)
      clear hbA HA HB HZ HO HR hown hb
      have hkn : (k : Int) < d.wait.length := by omega
      go_wp2_with (at_builtin; refine wpList_app rfl _ _ 71 3 1 8 rowI rfl w.heap.size _ l.length (l.map fun (n : Nat) => Value.int .i64 (n : Int)) rfl (World.ownsRow.alloc hoA _) _ 1 1 [.int .i64 x.1] rfl rfl (lies_one _ _ _) (Nat.le_refl _) (fun h => by cases h) (by simp [Value.oneCell']) (by unfold maxLen; omega) (by omega) (by exact (hbW.alloc hbW.size _).size) ?_; intro v' w1 h1 _ h3)
      have hbw1 := (hbW.alloc hbW.size (.cells #[.int .i64 (x.1 : Int)] 3)).trans h3
      have ho1 : OwnInts w.heap.size w1 v' (l ++ [x.1]) := by unfold OwnInts; rw [List.length_append, List.map_append]; exact h1
      clear h1 h3 hoA hbW
      go_wp2
      go_roundw
      case rel => exact ⟨k + 1, l ++ [x.1], by go_num, by omega, Lib.hid HL2.out.symm, ho1, hbw1⟩
      case measure => first | (simp [intOf]; done) | (simp [intOf]; omega)
    · have e : k = d.wait.length := by omega
      subst e
      have hl := HL.out
      rw [List.take_length] at hl
      subst hl
      go_wp2
      go_ret
      exact ⟨_, rfl, hown, hb⟩

set_option maxRecDepth 10000 in
theorem waiting_nil (w : World) :
    Calls Tryd.prog 41 #[.pointer none] w fun e w' => e = .returned (.slice none 0 0) ∧ w' = w := by
  go_enter Tryd.func41, Tryd.ntmps41
  go_wp2
  go_ret
  exact ⟨rfl, rfl⟩
end Go.Proofs.YtacfkhnajdneeaaDoor
