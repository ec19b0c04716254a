/- ReelReads: what stands while sectors are written, and what is told of any of them. -/
import Derived.Test.YtacfkhnajdneeaaDoorRlPages
import Derived.Test.YtacfkhnajdneeaaDoorRlRefC
import Derived.Test.YtacfkhnajdneeaaDoorRlRefS
namespace Go.Proofs.YtacfkhnajdneeaaDoor
open Go.RowKit

/-- behind k writes -/
structure RdSt (w0 w : World) (gd n3 N k : Nat) (c : Cr) (d : Dk) (F : Nat → Prop) : Prop where
  dk : DiskAt w gd d F
  low : ∀ q, F q → w0.heap.size ≤ q
  bel : Below w0.heap.size w0 w
  cr : Row3 w n3 c
  apart : ¬ F n3
  len : d.safe.length = N
  free : d.Free
  few : d.count ≤ k ∧ d.wait.length ≤ k

theorem RdSt.below {w0 w w' : World} {gd n3 N k : Nat} {c : Cr} {d : Dk} {F : Nat → Prop} (h : RdSt w0 w gd n3 N k c d F) (hb : Below w.heap.size w w') : RdSt w0 w' gd n3 N k c d F :=
  ⟨h.dk.below hb, h.low, btr h.bel hb, h.cr.below hb, h.apart, h.len, h.free, h.few⟩

theorem RdSt.wrote {w0 w w' : World} {gd n3 N k i : Nat} {c : Cr} {d : Dk} {F F' : Nat → Prop} {p : List UInt8} (h : RdSt w0 w gd n3 N k c d F) (hd : DiskAt w' gd (d.wrote i p) F') (hm : Moved w w' F F') : RdSt w0 w' gd n3 N (k + 1) c (d.wrote i p) F' :=
  ⟨hd, hm.ge h.bel.size h.low, h.bel.trans (hm.below h.bel.size h.low), h.cr.only hm.only h.apart, fun hf => by
    rcases hm.fresh _ hf with h1 | h1
    · exact h.apart h1
    · have := h.cr.lt; omega, h.len, h.free.wrote i p, ⟨by show d.count + 1 ≤ k + 1; have := h.few.1; omega, by show (d.wait ++ [(i, p)]).length ≤ k + 1; rw [List.length_append]; have := h.few.2; simp; omega⟩⟩

theorem RdSt.synced {w0 w w' : World} {gd n3 N k : Nat} {c : Cr} {d : Dk} {F F' : Nat → Prop} (h : RdSt w0 w gd n3 N k c d F) (hd : DiskAt w' gd d.synced F') (hm : Moved w w' F F') : RdSt w0 w' gd n3 N k c d.synced F' :=
  ⟨hd, hm.ge h.bel.size h.low, h.bel.trans (hm.below h.bel.size h.low), h.cr.only hm.only h.apart, fun hf => by
    rcases hm.fresh _ hf with h1 | h1
    · exact h.apart h1
    · have := h.cr.lt; omega, by rw [← h.len]; exact syncOf_length _ _, ⟨h.free.1, by show (if d.bound then d.left - 1 else d.left) = 0; rw [h.free.1]; exact h.free.2⟩, ⟨h.few.1, Nat.zero_le _⟩⟩

theorem mem_lay_le {l : List (List UInt8)} {x : List UInt8} (h : x ∈ l) : x.length ≤ (layAll l).length := by
  induction l with
  | nil => cases h
  | cons y l ih =>
    rw [layAll_cons, List.length_append]
    rcases List.mem_cons.1 h with rfl | h
    · have : x.length ≤ (layOne x).length := by unfold layOne; rw [List.length_append]; omega
      omega
    · have := ih h; omega

/-- what any half holds are few records, of few bytes -/
theorem scan_few {gen : Nat} {d : Dk} {fr n : Nat} {s : Option Nat} {P : List UInt8} {so : List Nat} (hn : n ≤ 100) (h : scanR gen 0 0 (halfOf d fr n) = (s, P, so)) : (cutL P).length ≤ 48700 ∧ ∀ x ∈ cutL P, x.length ≤ 48700 := by
  have h1 := scan_len gen (halfOf d fr n) 0 0
  rw [h] at h1
  replace h1 : P.length ≤ 487 * (halfOf d fr n).length := h1
  have h2 : (halfOf d fr n).length = n := by unfold halfOf; rw [List.length_map, List.length_range]
  rw [h2] at h1
  have h3 := cut_le P
  have h4 : (layAll (cutL P)).length ≤ 48700 := Nat.le_trans h3 (by omega)
  exact ⟨Nat.le_trans (all_len_le _) h4, fun x hx => Nat.le_trans (mem_lay_le hx) h4⟩
theorem scan_some_lt (gen : Nat) : ∀ (xs : List (List UInt8)) (j a i : Nat), (scanR gen j a xs).1 = some i → i < j + xs.length := by
  intro xs
  induction xs with
  | nil => intro j a i h; rw [scanR] at h; cases h
  | cons b rest ih =>
    intro j a i h
    rw [scanR] at h
    split at h
    · cases h; simp
    · split at h
      · cases h
      · split at h
        · cases h
        · have := ih _ _ _ h
          rw [List.length_cons]
          omega

/-- five cells of a page of the reference's -/
def BoxP (w : World) (n : Nat) (p : Pg) (vd : Value) : Prop := w.heap[n]? = some (.cells #[.int .u32 p.gen, .int .u32 p.serial, .int .u32 p.number, .int .u8 p.kind, vd] 66 (0, 0))
theorem BoxP.lt {w : World} {n : Nat} {p : Pg} {vd : Value} (h : BoxP w n p vd) : n < w.heap.size := (Array.getElem?_eq_some_iff.1 h).1
theorem BoxP.below {w w' : World} {n : Nat} {p : Pg} {vd : Value} (h : BoxP w n p vd) (hb : Below w.heap.size w w') : BoxP w' n p vd := (hb.block n h.lt).trans h
theorem BoxP.c0 {w : World} {n : Nat} {p : Pg} {vd : Value} (h : BoxP w n p vd) : w.cell? ⟨n, 0, none⟩ = some (.int .u32 p.gen) := cell_of_row w n 0 _ _ _ h
theorem BoxP.c1 {w : World} {n : Nat} {p : Pg} {vd : Value} (h : BoxP w n p vd) : w.cell? ⟨n, 1, none⟩ = some (.int .u32 p.serial) := cell_of_row w n 1 _ _ _ h
theorem BoxP.c2 {w : World} {n : Nat} {p : Pg} {vd : Value} (h : BoxP w n p vd) : w.cell? ⟨n, 2, none⟩ = some (.int .u32 p.number) := cell_of_row w n 2 _ _ _ h
theorem BoxP.c3 {w : World} {n : Nat} {p : Pg} {vd : Value} (h : BoxP w n p vd) : w.cell? ⟨n, 3, none⟩ = some (.int .u8 p.kind) := cell_of_row w n 3 _ _ _ h
theorem BoxP.c4 {w : World} {n : Nat} {p : Pg} {vd : Value} (h : BoxP w n p vd) : w.cell? ⟨n, 4, none⟩ = some vd := cell_of_row w n 4 _ _ _ h
theorem BoxP.fz {w : World} {n : Nat} {p : Pg} {vd : Value} (h : BoxP w n p vd) (i : Nat) : w.frozen? ⟨n, i, none⟩ = false := frozen_of_row w n i _ _ h
theorem BoxP.put34 {w : World} {n : Nat} {p : Pg} {vd : Value} (h : BoxP w n p vd) (k : Nat) (l : List UInt8) (u : Value) : BoxP ((w.setCell ⟨n, 3, none⟩ (.int .u8 k)).setCell ⟨n, 4, none⟩ u) n ⟨p.gen, p.serial, p.number, k, l⟩ u :=
  heap_setCell_same _ n 4 _ _ u (heap_setCell_same w n 3 _ _ (.int .u8 k) h)
theorem BoxP.put032 {w : World} {n : Nat} {p : Pg} {vd : Value} (h : BoxP w n p vd) (g q : Nat) : BoxP (((w.setCell ⟨n, 0, none⟩ (.int .u32 g)).setCell ⟨n, 3, none⟩ (.int .u8 1)).setCell ⟨n, 2, none⟩ (.int .u32 q)) n ⟨g, p.serial, q, 1, p.data⟩ vd :=
  heap_setCell_same _ n 2 _ _ (.int .u32 q) (heap_setCell_same _ n 3 _ _ (.int .u8 1) (heap_setCell_same w n 0 _ _ (.int .u32 g) h))

theorem min_eight {r : Int} {n : Nat} (h : Hid (r = if (8 : Int) < n then 8 else (n : Int))) : ∃ s : Nat, r = (s : Int) ∧ s ≤ 8 ∧ s ≤ n := by
  have h' := h.out
  refine ⟨min n 8, ?_, by omega, by omega⟩
  rw [h']
  split <;> omega
end Go.Proofs.YtacfkhnajdneeaaDoor
