/- Walks: sum.Make. -/
import Derived.Test.YtejdlgfiiagcmaaDoorSumA
import Derived.LoopTactic
import Derived.Deep.WholeRow
import Derived.Deep.MidRow
import Derived.Laws.CopyOwn
namespace Go.Proofs.YtejdlgfiiagcmaaDoor
open Go.RowKit

/-- the table's cells -/
def tabL : List Value := (List.range 256).map fun i => Value.int .u32 (Crc.step 0 i : Nat)
abbrev tab : Array Value := tabL.toArray
theorem size_tabL : tabL.length = 256 := by simp [tabL]
theorem size_tab : tab.size = 256 := by simp [tabL]
theorem get_tab (i : Nat) (h : i < 256) : tab[i]? = some (.int .u32 (Crc.step 0 i : Nat)) := by
  simp [tabL, h]

theorem tab_cells : tab.all (·.oneCell') = true := by
  rw [Array.all_eq_true_iff_forall_mem]
  intro v hv
  simp only [tabL, List.mem_toArray, List.mem_map] at hv
  obtain ⟨i, _, rfl⟩ := hv
  rfl

theorem zero256 : ∃ z : Array Value, z.size = 256 ∧ (∀ w, (zeroValue 100).run Tryd.prog w = .ok (.agg z) w) :=
  ⟨Array.replicate 256 (.int .u32 0), by simp, fun w => by kernel_rfl⟩
theorem info_tab : (Tryd.prog.info? 100).map (·.size) = some 256 := by kernel_rfl

/-- the state of the table behind k rounds -/
structure MakeRel (w : World) (k : Nat) (wr : World) : Prop where
  le : k ≤ 256
  out : ∃ z : Array Value, z.size = 256 ∧ wr.heap[w.heap.size]? = some (.cells z 100 (0, 0))
  tabc : ∃ cs : Array Value, cs.size = 256 ∧ wr.heap[w.heap.size + 1]? = some (.cells cs 100 (0, 0)) ∧ ∀ j, j < k → cs[j]? = some (.int .u32 (Crc.step 0 j : Nat))
  below : Below w.heap.size w wr

theorem MakeRel.cell {w wr : World} {k : Nat} (h : MakeRel w k wr) (hk : k < 256) : ∃ v, wr.cell? ⟨w.heap.size + 1, k, none⟩ = some v ∧ wr.frozen? ⟨w.heap.size + 1, k, none⟩ = false := by
  obtain ⟨cs, hs, hg, _⟩ := h.tabc
  refine ⟨cs[k]'(by omega), ?_, frozen_of_row wr _ _ cs _ hg⟩
  rw [cell_of_row wr _ _ cs _ _ hg]
  simp [show k < cs.size by omega]

theorem MakeRel.next {w wr : World} {k : Nat} (h : MakeRel w k wr) (hk : k < 256) : MakeRel w (k + 1) (wr.setCell ⟨w.heap.size + 1, k, none⟩ (.int .u32 (Crc.step 0 k : Nat))) := by
  obtain ⟨cs, hs, hg, ht⟩ := h.tabc
  obtain ⟨z, hz, hzg⟩ := h.out
  refine ⟨by omega, ⟨z, hz, ?_⟩, ⟨cs.setIfInBounds k (.int .u32 (Crc.step 0 k : Nat)), by simpa using hs, heap_setCell_same wr _ _ cs _ _ hg, fun j hj => ?_⟩, h.below.setCell (by simp) _⟩
  · rw [heap_setCell_other _ _ _ _ (by simp)]; exact hzg
  · rw [Array.getElem?_setIfInBounds]
    by_cases e : k = j
    · subst e; simp [show k < cs.size by omega]
    · rw [if_neg e]; exact ht j (by omega)

theorem MakeRel.full {w wr : World} (h : MakeRel w 256 wr) : wr.heap[w.heap.size + 1]? = some (.cells tab 100 (0, 0)) := by
  obtain ⟨cs, hs, hg, ht⟩ := h.tabc
  have : cs = tab := by
    apply Array.ext_getElem?
    intro i
    by_cases hi : i < 256
    · rw [ht i hi, get_tab i hi]
    · rw [Array.getElem?_eq_none (by omega), Array.getElem?_eq_none (by rw [size_tab]; omega)]
  rw [← this]
  exact hg

theorem make_start (w : World) (z : Array Value) (hz : z.size = 256) : MakeRel w 0 ((w.alloc (.cells z 100)).alloc (.cells z 100)) :=
  ⟨by omega, ⟨z, hz, heap_alloc2_old w _ _⟩, ⟨z, hz, heap_alloc2_new w _ _, fun j hj => absurd hj (by omega)⟩, ((Below.refl _ _).alloc (Nat.le_refl _) _).alloc (by simp) _⟩

theorem step0_any (b : Nat) (hb : b < 256) (w : World) :
    Calls Tryd.prog 59 #[.int .u32 0, .int .u8 b] w fun e w' => e = .returned (.int .u32 (Crc.step 0 b : Nat)) ∧ w' = w :=
  step_any 0 b (by omega) hb w

set_option maxRecDepth 4000 in
set_option maxHeartbeats 400000 in
theorem make_any (w : World) :
    Calls Tryd.prog 52 #[] w fun e w' => e = .returned (.agg tab) ∧ Below w.heap.size w w' := by
  obtain ⟨z, hzs, hz⟩ := zero256
  have HZ := Lib.hid hzs
  clear hzs
  go_enter Tryd.func52, Tryd.ntmps52
  go_wp2
  go_loopw [2, 3] (fun _ i wr => ∃ k : Nat, i = .int .i64 k ∧ MakeRel w k wr) (fun _ i _ => 256 - (intOf i).toNat)
  case atStart => exact ⟨0, rfl, make_start w z HZ.out⟩
  case round =>
    obtain ⟨k, rfl, hr⟩ := hrel
    have hk := hr.le
    clear hz
    by_cases hlt : k < 256
    · obtain ⟨v, hv, hf⟩ := hr.cell hlt
      go_wp2_with (go_at_call 59; refine (step0_any k hlt _).mono ?_; rintro e w' ⟨rfl, rfl⟩)
      go_roundw
      case rel => exact ⟨k + 1, by go_num, hr.next hlt⟩
      case measure => simp [intOf]; omega
    · have e256 : k = 256 := by omega
      subst e256
      have hg := hr.full
      obtain ⟨zo, hzo, hgo⟩ := hr.out
      have hb := hr.below
      have HS := Lib.hid hzo
      have HG := Lib.hid hg
      have HO := Lib.hid hgo
      clear hg hgo hzo hlt
      go_wp2_with (first | (refine wpList_load_row rfl 100 _ rfl (w.heap.size + 1) rfl 100 tab (0, 0) _ HG.out Tryd.underlying100 rfl ?_ ?_) | (refine wpList_store_row rfl 100 _ _ rfl w.heap.size tab rfl rfl 100 zo HO.out ?_ ?_ ?_ ?_))
      · rw [size_tab]; exact info_tab
      · rw [size_tab]; exact info_tab
      · rw [size_tab]; exact HS.out
      · exact tab_cells
      · exact bodyPost_ret (results_cell_row rfl _ _ w.heap.size 100 tab (0, 0) _ rfl (setRow_heap _ _ _ _ _ _ HO.out) Tryd.underlying100 rfl (by rw [size_tab]; exact info_tab)) rfl ⟨rfl, below_setRow hb (Nat.le_refl _) _⟩
end Go.Proofs.YtejdlgfiiagcmaaDoor
