/- Walks: Parse, refused. -/
import Derived.Test.YtacfkhnajdneeaaDoorPreC
namespace Go.Proofs.YtacfkhnajdneeaaDoor
open Go.RowKit

theorem zeroPg {B : Nat} (w : World) : Own8 5 B w (.slice none 0 0) Pg.zero.data := Own8.nil _ _ _

theorem zero_end {w w5 : World} {n2 : Nat} (hB : Below w.heap.size w w5) (hn : w.heap.size ≤ n2) (hc : w5.heap[n2]? = some (.cells #[.int .u32 0, .int .u32 0, .int .u32 0, .int .u8 0, .slice none 0 0] 122 (0, 0))) :
    (((((w5.setCell ⟨n2, 0, none⟩ (.int .u32 0)).setCell ⟨n2, 1, none⟩ (.int .u32 0)).setCell ⟨n2, 2, none⟩ (.int .u32 0)).setCell ⟨n2, 3, none⟩ (.int .u8 0)).setCell ⟨n2, 4, none⟩ (.slice none 0 0)).heap[n2]? = some (.cells #[.int .u32 0, .int .u32 0, .int .u32 0, .int .u8 0, .slice none 0 0] 122 (0, 0)) ∧ Below w.heap.size w (((((w5.setCell ⟨n2, 0, none⟩ (.int .u32 0)).setCell ⟨n2, 1, none⟩ (.int .u32 0)).setCell ⟨n2, 2, none⟩ (.int .u32 0)).setCell ⟨n2, 3, none⟩ (.int .u8 0)).setCell ⟨n2, 4, none⟩ (.slice none 0 0)) := by
  refine ⟨?_, ((((hB.setCell hn _).setCell hn _).setCell hn _).setCell hn _).setCell hn _⟩
  exact heap_setCell_same _ n2 4 _ _ (.slice none 0 0) (heap_setCell_same _ n2 3 _ _ (.int .u8 0) (heap_setCell_same _ n2 2 _ _ (.int .u32 0) (heap_setCell_same _ n2 1 _ _ (.int .u32 0) (heap_setCell_same w5 n2 0 _ _ (.int .u32 0) hc))))

def PgVal (p : Pg) (vd : Value) : Value := .agg #[.int .u32 p.gen, .int .u32 p.serial, .int .u32 p.number, .int .u8 p.kind, vd]
def ParsePost (w : World) (err : Int) (p : Pg) (e : Ending) (w' : World) : Prop := ∃ vd, e = .returned (.tuple #[PgVal p vd, .int .i64 err]) ∧ Own8 5 w.heap.size w' vd p.data ∧ Below w.heap.size w w'

set_option maxRecDepth 10000 in
set_option maxHeartbeats 800000 in
theorem parse_arg (v : Value) (b : List UInt8) (w : World) (hv : Bytes w v b) (hl : b.length ≠ 512) :
    Calls Tryd.prog 73 #[v] w (ParsePost w 1 Pg.zero) := by
  obtain ⟨a, c, rfl, hm, hc, -, -⟩ := id hv
  have h1 : ((b.length : Int) == 512) = false := beq_false_of_ne (by omega)
  have h2 : decide ((b.length : Int) = 512) = false := decide_eq_false (by omega)
  clear hv hm hc hl
  go_enter Tryd.func73, Tryd.ntmps73
  go_wp2_with fail
  refine bodyPost_ret (v := .tuple #[.agg #[.int .u32 0, .int .u32 0, .int .u32 0, .int .u8 0, .slice none 0 0], .int .i64 1]) ?_ rfl ⟨_, rfl, zeroPg _, bal (bre w) _⟩
  simp [results, Tryd.results73, go_sem]

set_option maxRecDepth 10000 in
set_option maxHeartbeats 800000 in
theorem parse_none (v : Value) (b : List UInt8) (w : World) (hv : Bytes w v b) (hl : b.length = 512) (hz : noughts b) :
    Calls Tryd.prog 73 #[v] w (ParsePost w 3 Pg.zero) := by
  obtain ⟨a, c, rfl, hm, hc, -, -⟩ := id hv
  rw [hl] at hv ⊢
  have HV := Lib.hid hv
  have HZ := Lib.hid hz
  clear hv hm hc hl hz
  go_enter Tryd.func73, Tryd.ntmps73
  go_wp2_with fail
  have hb1 := bal (bre w) (.cells #[.int .u32 0, .int .u32 0, .int .u32 0, .int .u8 0, .slice none 0 0] 122)
  have hc1 := heap_alloc_new w (.cells #[.int .u32 0, .int .u32 0, .int .u32 0, .int .u8 0, .slice none 0 0] 122)
  generalize w.alloc (.cells #[.int .u32 0, .int .u32 0, .int .u32 0, .int .u8 0, .slice none 0 0] 122) = W at *
  obtain ⟨n2, hn2⟩ : ∃ n2, n2 = w.heap.size := ⟨_, rfl⟩
  rw [← hn2] at hc1 ⊢
  have HN2 : Hid (w.heap.size ≤ n2) := Lib.hid (Nat.le_of_eq hn2.symm)
  refine (blank_any _ b _ (HV.out.below hb1)).mono ?_
  rintro e w1 ⟨rfl, n, rfl⟩
  rw [decide_eq_true HZ.out]
  have hb2 := btr hb1 (bdn (bre _) n)
  have hc2 : (W.drewN n).heap[n2]? = _ := hc1
  generalize W.drewN n = W2 at *
  have HB2 := Lib.hid hb2
  have HC2 := Lib.hid hc2
  clear hb1 hb2 hc1 hc2 hn2
  have f0 := cell_of_row W2 n2 0 _ _ _ HC2.out
  have f1 := cell_of_row W2 n2 1 _ _ _ HC2.out
  have f2 := cell_of_row W2 n2 2 _ _ _ HC2.out
  have f3 := cell_of_row W2 n2 3 _ _ _ HC2.out
  have f4 := cell_of_row W2 n2 4 _ _ _ HC2.out
  have ff := fun o => frozen_of_row W2 n2 o _ _ HC2.out
  go_wp2_with fail
  obtain ⟨hz1, hz2⟩ := zero_end HB2.out HN2.out HC2.out
  generalize (((((W2.setCell ⟨n2, 0, none⟩ (.int .u32 0)).setCell ⟨n2, 1, none⟩ (.int .u32 0)).setCell ⟨n2, 2, none⟩ (.int .u32 0)).setCell ⟨n2, 3, none⟩ (.int .u8 0)).setCell ⟨n2, 4, none⟩ (.slice none 0 0)) = W9 at *
  have g0 := cell_of_row W9 n2 0 _ _ _ hz1
  have g1 := cell_of_row W9 n2 1 _ _ _ hz1
  have g2 := cell_of_row W9 n2 2 _ _ _ hz1
  have g3 := cell_of_row W9 n2 3 _ _ _ hz1
  have g4 := cell_of_row W9 n2 4 _ _ _ hz1
  exact bodyPost_ret (v := .tuple #[.agg #[.int .u32 0, .int .u32 0, .int .u32 0, .int .u8 0, .slice none 0 0], .int .i64 3]) (by simp [results, Tryd.results73, go_sem, g0, g1, g2, g3, g4]) rfl ⟨_, rfl, zeroPg _, hz2⟩

set_option maxRecDepth 10000 in
set_option maxHeartbeats 1600000 in
theorem parse_corrupt (v : Value) (b : List UInt8) (w : World) (hv : Bytes w v b) (hl : b.length = 512) (hz : ¬ noughts b) (hs : b ≠ seal8 (b.take 508)) :
    Calls Tryd.prog 73 #[v] w (ParsePost w 7 Pg.zero) := by
  obtain ⟨a, c, rfl, hm, hc, -, -⟩ := id hv
  have HL := Lib.hid hl
  rw [hl] at hv ⊢
  have HV := Lib.hid hv
  have HZ := Lib.hid hz
  have HS := Lib.hid hs
  clear hv hm hc hl hz hs
  go_enter Tryd.func73, Tryd.ntmps73
  go_wp2_with fail
  have hb1 := bal (bre w) (.cells #[.int .u32 0, .int .u32 0, .int .u32 0, .int .u8 0, .slice none 0 0] 122)
  have hc1 := heap_alloc_new w (.cells #[.int .u32 0, .int .u32 0, .int .u32 0, .int .u8 0, .slice none 0 0] 122)
  generalize w.alloc (.cells #[.int .u32 0, .int .u32 0, .int .u32 0, .int .u8 0, .slice none 0 0] 122) = W at *
  obtain ⟨n2, hn2⟩ : ∃ n2, n2 = w.heap.size := ⟨_, rfl⟩
  rw [← hn2] at hc1 ⊢
  have HN2 : Hid (w.heap.size ≤ n2) := Lib.hid (Nat.le_of_eq hn2.symm)
  refine (blank_any _ b _ (HV.out.below hb1)).mono ?_
  rintro e w1 ⟨rfl, n, rfl⟩
  rw [decide_eq_false HZ.out]
  have hb2 := btr hb1 (bdn (bre _) n)
  have hc2 : (W.drewN n).heap[n2]? = _ := hc1
  generalize W.drewN n = W2 at *
  have HB2 := Lib.hid hb2
  have HC2 := Lib.hid hc2
  clear hb1 hb2 hc1 hc2 hn2
  go_wp2_with fail
  refine (make_any W2).mono ?_
  rintro e w3 ⟨rfl, hb3⟩
  have hb4 := HB2.out.trans (hb3.mono HB2.out.size)
  have hc4 := (hb3.block n2 (Array.getElem?_eq_some_iff.1 HC2.out).1).trans HC2.out
  have HB4 := Lib.hid hb4
  have HC4 := Lib.hid hc4
  clear hb3 hb4 hc4
  go_wp2_with fail
  refine (open_long _ b 508 w3 (HV.out.below HB4.out) HL.out (by rw [HL.out]; omega)).mono ?_
  rintro e w5 ⟨hb5, h5⟩
  rcases h5 with ⟨h5, -⟩ | ⟨-, rfl⟩
  · exact absurd h5 HS.out
  have hb6 := HB4.out.trans (hb5.mono HB4.out.size)
  have hc6 := (hb5.block n2 (Array.getElem?_eq_some_iff.1 HC4.out).1).trans HC4.out
  have HB6 := Lib.hid hb6
  have HC6 := Lib.hid hc6
  have f0 := cell_of_row w5 n2 0 _ _ _ hc6
  have f1 := cell_of_row w5 n2 1 _ _ _ hc6
  have f2 := cell_of_row w5 n2 2 _ _ _ hc6
  have f3 := cell_of_row w5 n2 3 _ _ _ hc6
  have f4 := cell_of_row w5 n2 4 _ _ _ hc6
  have ff := fun o => frozen_of_row w5 n2 o _ _ hc6
  clear hb5 hb6 hc6
  go_wp2_with fail
  obtain ⟨hz1, hz2⟩ := zero_end HB6.out HN2.out HC6.out
  generalize (((((w5.setCell ⟨n2, 0, none⟩ (.int .u32 0)).setCell ⟨n2, 1, none⟩ (.int .u32 0)).setCell ⟨n2, 2, none⟩ (.int .u32 0)).setCell ⟨n2, 3, none⟩ (.int .u8 0)).setCell ⟨n2, 4, none⟩ (.slice none 0 0)) = W9 at *
  have g0 := cell_of_row W9 n2 0 _ _ _ hz1
  have g1 := cell_of_row W9 n2 1 _ _ _ hz1
  have g2 := cell_of_row W9 n2 2 _ _ _ hz1
  have g3 := cell_of_row W9 n2 3 _ _ _ hz1
  have g4 := cell_of_row W9 n2 4 _ _ _ hz1
  exact bodyPost_ret (v := .tuple #[.agg #[.int .u32 0, .int .u32 0, .int .u32 0, .int .u8 0, .slice none 0 0], .int .i64 7]) (by simp [results, Tryd.results73, go_sem, g0, g1, g2, g3, g4]) rfl ⟨_, rfl, zeroPg _, hz2⟩
end Go.Proofs.YtacfkhnajdneeaaDoor
