/- Crowns: the model, and the walks of the small functions. -/
import Derived.Test.YtacfkhnajdneeaaDoorParseC
namespace Go.Proofs.YtacfkhnajdneeaaDoor
open Go.RowKit

/-- whatever the bytes, Parse answers parseOf -/
theorem parse_any (v : Value) (b : List UInt8) (w : World) (hv : Bytes w v b) :
    Calls Tryd.prog 73 #[v] w (ParsePost w (parseOf b).1 (parseOf b).2) := by
  by_cases hl : b.length = 512
  · by_cases hz : noughts b
    · rw [parseOf_none b hl hz]; exact parse_none v b w hv hl hz
    · by_cases hs : b = seal8 (b.take 508)
      · by_cases hg : b.getD 14 0 = 0 ∨ 491 < lenOf b ∨ ¬ (b.take 2 = mark ∧ noughts ((b.take 508).drop (17 + lenOf b)))
        · rw [parseOf_form b hl hz hs hg]; exact parse_form v b w hv hl hz hs hg
        · rw [parseOf_ok b hl hz hs hg]; exact parse_ok v b w hv hl hz hs hg
      · rw [parseOf_corrupt b hl hz hs]; exact parse_corrupt v b w hv hl hz hs
  · rw [parseOf_arg b hl]; exact parse_arg v b w hv hl

theorem PgAt.val {w : World} {v : Value} {p : Pg} (h : PgAt w v p) : ∃ vd, v = PgVal p vd ∧ Bytes w vd p.data := h
theorem PgAt.mk' {w : World} {vd : Value} {p : Pg} (h : Bytes w vd p.data) : PgAt w (PgVal p vd) p := ⟨vd, rfl, h⟩

/-- a whole page is stored into five cells -/
theorem page_put {x : World} {n : Nat} {a b c d e : Value} {T : TypeId} (p : Pg) (v : Value) (hc : x.heap[n]? = some (.cells #[a, b, c, d, e] T (0, 0))) :
    (((((x.setCell ⟨n, 0, none⟩ (.int .u32 p.gen)).setCell ⟨n, 1, none⟩ (.int .u32 p.serial)).setCell ⟨n, 2, none⟩ (.int .u32 p.number)).setCell ⟨n, 3, none⟩ (.int .u8 p.kind)).setCell ⟨n, 4, none⟩ v).heap[n]? = some (.cells #[.int .u32 p.gen, .int .u32 p.serial, .int .u32 p.number, .int .u8 p.kind, v] T (0, 0)) ∧
    Only x (((((x.setCell ⟨n, 0, none⟩ (.int .u32 p.gen)).setCell ⟨n, 1, none⟩ (.int .u32 p.serial)).setCell ⟨n, 2, none⟩ (.int .u32 p.number)).setCell ⟨n, 3, none⟩ (.int .u8 p.kind)).setCell ⟨n, 4, none⟩ v) (fun q => q = n) ∧
    ∀ B w, B ≤ n → Below B w x → Below B w (((((x.setCell ⟨n, 0, none⟩ (.int .u32 p.gen)).setCell ⟨n, 1, none⟩ (.int .u32 p.serial)).setCell ⟨n, 2, none⟩ (.int .u32 p.number)).setCell ⟨n, 3, none⟩ (.int .u8 p.kind)).setCell ⟨n, 4, none⟩ v) := by
  refine ⟨?_, ?_, fun B w hn hB => ((((hB.setCell hn _).setCell hn _).setCell hn _).setCell hn _).setCell hn _⟩
  · exact heap_setCell_same _ n 4 _ _ v (heap_setCell_same _ n 3 _ _ (.int .u8 p.kind) (heap_setCell_same _ n 2 _ _ (.int .u32 p.number) (heap_setCell_same _ n 1 _ _ (.int .u32 p.serial) (heap_setCell_same _ n 0 _ _ (.int .u32 p.gen) hc))))
  · have h2 : ∀ (y : World) (i : Nat) (u : Value), Only y (y.setCell ⟨n, i, none⟩ u) (fun q => q = n) := fun y i u => Only.setCell y ⟨n, i, none⟩ u
    exact ((((h2 _ 0 _).trans (h2 _ 1 _) fun _ _ h => h).trans (h2 _ 2 _) fun _ _ h => h).trans (h2 _ 3 _) fun _ _ h => h).trans (h2 _ 4 _) fun _ _ h => h

/-- a page of noughts and a page beside it -/
theorem box_two (w : World) (o1 o2 : Obj) : (((w.alloc o1).alloc o2).heap[w.heap.size]? = some o1) ∧ (((w.alloc o1).alloc o2).heap[w.heap.size + 1]? = some o2) := by
  refine ⟨((bal (bre (w.alloc o1)) o2).block _ (by simp)).trans (heap_alloc_new w o1), ?_⟩
  have := heap_alloc_new (w.alloc o1) o2
  simpa using this

/-- five cells of a page -/
def Row5 (w : World) (n : Nat) (p : Pg) (v : Value) : Prop := w.heap[n]? = some (.cells #[.int .u32 p.gen, .int .u32 p.serial, .int .u32 p.number, .int .u8 p.kind, v] 122 (0, 0))
theorem Row5.below {w w' : World} {n : Nat} {p : Pg} {v : Value} (h : Row5 w n p v) (hb : Below w.heap.size w w') : Row5 w' n p v := (hb.block n (Array.getElem?_eq_some_iff.1 h).1).trans h
theorem Row5.lt {w : World} {n : Nat} {p : Pg} {v : Value} (h : Row5 w n p v) : n < w.heap.size := (Array.getElem?_eq_some_iff.1 h).1
theorem Row5.only {w w' : World} {n : Nat} {p : Pg} {v : Value} {S : Nat → Prop} (h : Row5 w n p v) (ho : Only w w' S) (hn : ¬ S n) : Row5 w' n p v := (ho.block n h.lt hn).trans h
theorem Row5.c0 {w : World} {n : Nat} {p : Pg} {v : Value} (h : Row5 w n p v) : w.cell? ⟨n, 0, none⟩ = some (.int .u32 p.gen) := cell_of_row w n 0 _ _ _ h
theorem Row5.c1 {w : World} {n : Nat} {p : Pg} {v : Value} (h : Row5 w n p v) : w.cell? ⟨n, 1, none⟩ = some (.int .u32 p.serial) := cell_of_row w n 1 _ _ _ h
theorem Row5.c2 {w : World} {n : Nat} {p : Pg} {v : Value} (h : Row5 w n p v) : w.cell? ⟨n, 2, none⟩ = some (.int .u32 p.number) := cell_of_row w n 2 _ _ _ h
theorem Row5.c3 {w : World} {n : Nat} {p : Pg} {v : Value} (h : Row5 w n p v) : w.cell? ⟨n, 3, none⟩ = some (.int .u8 p.kind) := cell_of_row w n 3 _ _ _ h
theorem Row5.c4 {w : World} {n : Nat} {p : Pg} {v : Value} (h : Row5 w n p v) : w.cell? ⟨n, 4, none⟩ = some v := cell_of_row w n 4 _ _ _ h
theorem Row5.fz {w : World} {n : Nat} {p : Pg} {v : Value} (h : Row5 w n p v) (i : Nat) : w.frozen? ⟨n, i, none⟩ = false := frozen_of_row w n i _ _ h

theorem pgSame_self (a : Pg) : pgSame a a = true := by simp [pgSame]

structure Cr where
  gen : Nat
  half : Nat
  serial : Nat

structure Cr.Ok (c : Cr) : Prop where
  gen : c.gen < 4294967296
  half : c.half < 256
  serial : c.serial < 4294967296

def CrVal (c : Cr) : Value := .agg #[.int .u32 c.gen, .int .u8 c.half, .int .u32 c.serial]
def Cr.zero : Cr := ⟨0, 0, 0⟩
def Cr.first : Cr := ⟨1, 0, 0⟩
def Cr.next (c : Cr) : Cr := ⟨(c.gen + 1) % 4294967296, c.half ^^^ 1, (c.serial + 1) % 4294967296⟩
def Cr.page (c : Cr) : Pg := ⟨c.gen, c.serial, 0, 9, [UInt8.ofNat c.half]⟩

theorem Cr.Ok.next {c : Cr} (h : c.Ok) : c.next.Ok := ⟨Nat.mod_lt _ (by decide), Nat.xor_lt_two_pow (n := 8) h.half (by decide), Nat.mod_lt _ (by decide)⟩
theorem Cr.Ok.page {c : Cr} (h : c.Ok) : c.page.Ok := ⟨h.gen, h.serial, (by decide : (0 : Nat) < 4294967296), (by decide : (9 : Nat) < 256)⟩
theorem Cr.first_ok : Cr.first.Ok := ⟨by decide, by decide, by decide⟩

/-- three cells of a crown -/
def Row3 (w : World) (n : Nat) (c : Cr) : Prop := w.heap[n]? = some (.cells #[.int .u32 c.gen, .int .u8 c.half, .int .u32 c.serial] 36 (0, 0))
theorem Row3.below {w w' : World} {n : Nat} {c : Cr} (h : Row3 w n c) (hb : Below w.heap.size w w') : Row3 w' n c := (hb.block n (Array.getElem?_eq_some_iff.1 h).1).trans h
theorem Row3.lt {w : World} {n : Nat} {c : Cr} (h : Row3 w n c) : n < w.heap.size := (Array.getElem?_eq_some_iff.1 h).1
theorem Row3.only {w w' : World} {n : Nat} {c : Cr} {S : Nat → Prop} (h : Row3 w n c) (ho : Only w w' S) (hn : ¬ S n) : Row3 w' n c := (ho.block n h.lt hn).trans h
theorem Row3.c0 {w : World} {n : Nat} {c : Cr} (h : Row3 w n c) : w.cell? ⟨n, 0, none⟩ = some (.int .u32 c.gen) := cell_of_row w n 0 _ _ _ h
theorem Row3.c1 {w : World} {n : Nat} {c : Cr} (h : Row3 w n c) : w.cell? ⟨n, 1, none⟩ = some (.int .u8 c.half) := cell_of_row w n 1 _ _ _ h
theorem Row3.c2 {w : World} {n : Nat} {c : Cr} (h : Row3 w n c) : w.cell? ⟨n, 2, none⟩ = some (.int .u32 c.serial) := cell_of_row w n 2 _ _ _ h
theorem Row3.fz {w : World} {n : Nat} {c : Cr} (h : Row3 w n c) (i : Nat) : w.frozen? ⟨n, i, none⟩ = false := frozen_of_row w n i _ _ h

/-- a crown is stored into three cells -/
theorem cr_put {x : World} {n : Nat} {c : Cr} (p : Cr) (hc : Row3 x n c) :
    Row3 (((x.setCell ⟨n, 0, none⟩ (.int .u32 p.gen)).setCell ⟨n, 1, none⟩ (.int .u8 p.half)).setCell ⟨n, 2, none⟩ (.int .u32 p.serial)) n p ∧
    Only x (((x.setCell ⟨n, 0, none⟩ (.int .u32 p.gen)).setCell ⟨n, 1, none⟩ (.int .u8 p.half)).setCell ⟨n, 2, none⟩ (.int .u32 p.serial)) (fun q => q = n) ∧
    ∀ B w, B ≤ n → Below B w x → Below B w (((x.setCell ⟨n, 0, none⟩ (.int .u32 p.gen)).setCell ⟨n, 1, none⟩ (.int .u8 p.half)).setCell ⟨n, 2, none⟩ (.int .u32 p.serial)) := by
  refine ⟨?_, ?_, fun B w hn hB => ((hB.setCell hn _).setCell hn _).setCell hn _⟩
  · exact heap_setCell_same _ n 2 _ _ (.int .u32 p.serial) (heap_setCell_same _ n 1 _ _ (.int .u8 p.half) (heap_setCell_same _ n 0 _ _ (.int .u32 p.gen) hc))
  · have h2 : ∀ (y : World) (i : Nat) (u : Value), Only y (y.setCell ⟨n, i, none⟩ u) (fun q => q = n) := fun y i u => Only.setCell y ⟨n, i, none⟩ u
    exact ((h2 _ 0 _).trans (h2 _ 1 _) fun _ _ h => h).trans (h2 _ 2 _) fun _ _ h => h

set_option maxRecDepth 10000 in
set_option maxHeartbeats 400000 in
theorem first_any (w : World) :
    Calls Tryd.prog 26 #[] w fun e w' => e = .returned (CrVal Cr.first) ∧ Below w.heap.size w w' := by
  go_enter Tryd.func26, Tryd.ntmps26
  go_wp2_with fail
  have hb := bal (bre w) (.cells #[.int .u32 1, .int .u8 0, .int .u32 0] 36)
  refine bodyPost_ret (v := .agg #[.int .u32 1, .int .u8 0, .int .u32 0]) ?_ rfl ⟨rfl, hb⟩
  simp [results, Tryd.results26, go_sem]

theorem wrap32 (n : Nat) : IntKind.u32.wrap ((n : Int) + 1) = (((n + 1) % 4294967296 : Nat) : Int) := by
  simp [IntKind.wrap, IntKind.signed, IntKind.bits]

end Go.Proofs.YtacfkhnajdneeaaDoor
