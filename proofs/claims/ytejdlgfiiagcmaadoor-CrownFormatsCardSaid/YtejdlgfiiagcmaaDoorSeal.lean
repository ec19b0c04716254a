/- Walks: Table.Seal, Table.Open, the reference's Seal and Open. -/
import Derived.Test.YtejdlgfiiagcmaaDoorRefSum
import Derived.Test.YtejdlgfiiagcmaaDoorClone
import Derived.Test.YtejdlgfiiagcmaaDoorEqual
import Derived.Test.YtejdlgfiiagcmaaDoorJoin
import Derived.Test.YtejdlgfiiagcmaaDoorSame
namespace Go.Proofs.YtejdlgfiiagcmaaDoor
open Go.RowKit

theorem crc8_lt (p : List UInt8) : crc8 p < 4294967296 := Crc.xor_lt (st_lt p) (by decide)

/-- one row of bytes in a new block -/
theorem rows_one (w : World) (v : Value) (p : List UInt8) (e : TypeId) (n : Nat) (hn : n = w.heap.size) (h : Bytes w v p) : Rows8 (w.alloc (.cells #[v] e)) (.slice (some ⟨n, 0, none⟩) 1 1) [p] :=
  hn ▸ ⟨_, 1, rfl, by simp [maxLen], Nat.le_refl _, fun h => (by cases h), .inr ⟨_, _, rfl, fun j x hx => ⟨v, by
    have := World.cell?_alloc_new w #[v] e j
    rw [Nat.zero_add, this]
    have : j = 0 := by have := (List.getElem?_eq_some_iff.1 hx).1; simpa using this
    subst this
    rfl, by
    have : j = 0 := by have := (List.getElem?_eq_some_iff.1 hx).1; simpa using this
    subst this
    simp at hx
    subst hx
    exact h.below ((Below.refl _ _).alloc (Nat.le_refl _) _)⟩⟩⟩

theorem heap_box (w : World) (cs : Array Value) (t : TypeId) : (w.alloc (.cells cs t)).heap[w.heap.size]? = some (.cells cs t (0, 0)) := heap_alloc_new w _

set_option maxRecDepth 10000 in
set_option maxHeartbeats 400000 in
theorem seal_any (v : Value) (p : List UInt8) (w : World) (hv : Bytes w v p) (hbig : p.length ≤ 100000000) :
    Calls Tryd.prog 53 #[.agg tab, v] w fun e w' => ∃ v', e = .returned v' ∧ Own8 5 w.heap.size w' v' (p ++ lows (crc8 p)) ∧ Below w.heap.size w w' := by
  obtain ⟨a, cp, rfl, _, _, _, _⟩ := id hv
  have hc := crc8_lt p
  have hit : (Tryd.prog.info? 100).map (·.size) = some tab.size := by rw [size_tab]; exact info_tab
  have HI := Lib.hid hit
  clear hit
  have HB := Lib.hid (heap_box w tab 100)
  have hb1 : Below w.heap.size w (w.alloc (.cells tab 100)) := (Below.refl _ _).alloc (Nat.le_refl _) _
  have hv1 := hv.below hb1
  have hr := rows_one _ (.slice a p.length cp) p 25 (w.heap.size + 1) (by simp) hv1
  go_enter Tryd.func53, Tryd.ntmps53
  go_wp2_with (first | (with_reducible refine wpList_load_row rfl 100 _ rfl w.heap.size rfl 100 tab (0, 0) _ HB.out Tryd.underlying100 rfl HI.out ?_) | (go_at_call 60; refine (sum_any _ _ _ hr).mono ?_; rintro e w' ⟨rfl, rfl⟩))
  have hb3 : Below w.heap.size w (((w.alloc (.cells tab 100)).alloc (.cells #[.slice a p.length cp] 25)).alloc (.cells tab 100)) := (hb1.alloc (by simp) _).alloc (by simp; omega) _
  have hv3 := hv.below hb3
  refine (clone_any _ p _ hv3 (by omega)).mono ?_
  rintro e w1 ⟨v1, rfl, hown, hb4⟩
  have hsz := hb4.size
  have hown1 := ownsRow_base (base' := w.heap.size) hown (by simp; omega)
  have hb5 : Below w.heap.size w w1 := hb3.trans (hb4.mono (by simp; omega))
  clear hb3 hb4 hr hv1 hv3 hown
  have hsrc : Bytes (w1.alloc (.cells (lowCells (crc8 p)) 5)) (.slice (some ⟨w1.heap.size, 0, none⟩) 4 4) (lows (crc8 p)) := (own8_lit _ _ _ _ _ (lows_lit _ hc) rfl (by simp [lows, maxLen])).bytes
  have hb6 : Below w.heap.size w (w1.alloc (.cells (lowCells (crc8 p)) 5)) := hb5.alloc hb5.size _
  have hown2 : Own8 5 w.heap.size (w1.alloc (.cells (lowCells (crc8 p)) 5)) v1 p := World.ownsRow.alloc hown1 _
  unfold lowCells at hsrc hb6 hown2
  have hll : p.length + (lows (crc8 p)).length ≤ 140737488355328 := by simp [lows]; omega
  have hsz6 := hb6.size
  go_wp2_with (at_builtin; refine wpList_app8 rfl _ _ 25 5 row8 rfl w.heap.size _ p rfl hown2 _ _ rfl hsrc hll hsz6 ?_; intro v' w2 h1 _ h3)
  go_ret
  exact ⟨_, rfl, h1, hb6.trans h3⟩
end Go.Proofs.YtejdlgfiiagcmaaDoor
