/- Crowns: the model, and the walks of the small functions. -/
import Derived.Test.YtejdlgfiiagcmaaDoorParseC
namespace Go.Proofs.YtejdlgfiiagcmaaDoor
open Go.RowKit

/-- whatever the bytes, Parse answers parseOf -/
theorem parse_any (v : Value) (b : List UInt8) (w : World) (hv : Bytes w v b) :
    Calls Tryd.prog 46 #[v] w (ParsePost w (parseOf b).1 (parseOf b).2) := by
  by_cases hl : b.length = 512
  · by_cases hz : noughts b
    · rw [parseOf_none b hl hz]; exact parse_none v b w hv hl hz
    · by_cases hs : b = seal8 (b.take 508)
      · by_cases hg : b.getD 14 0 = 0 ∨ 491 < lenOf b ∨ ¬ (b.take 2 = mark ∧ noughts ((b.take 508).drop (17 + lenOf b)))
        · rw [parseOf_form b hl hz hs hg]; exact parse_form v b w hv hl hz hs hg
        · rw [parseOf_ok b hl hz hs hg]; exact parse_ok v b w hv hl hz hs hg
      · rw [parseOf_corrupt b hl hz hs]; exact parse_corrupt v b w hv hl hz hs
  · rw [parseOf_arg b hl]; exact parse_arg v b w hv hl

theorem PgAt.val {w : World} {v : Value} {p : Pg} (h : PgAt w v p) : ∃ vd, v = PgVal p vd ∧ Bytes w vd p.data := h
theorem PgAt.mk' {w : World} {vd : Value} {p : Pg} (h : Bytes w vd p.data) : PgAt w (PgVal p vd) p := ⟨vd, rfl, h⟩

/-- a whole page is stored into five cells -/
theorem page_put {x : World} {n : Nat} {a b c d e : Value} {T : TypeId} (p : Pg) (v : Value) (hc : x.heap[n]? = some (.cells #[a, b, c, d, e] T (0, 0))) :
    (((((x.setCell ⟨n, 0, none⟩ (.int .u32 p.gen)).setCell ⟨n, 1, none⟩ (.int .u32 p.serial)).setCell ⟨n, 2, none⟩ (.int .u32 p.number)).setCell ⟨n, 3, none⟩ (.int .u8 p.kind)).setCell ⟨n, 4, none⟩ v).heap[n]? = some (.cells #[.int .u32 p.gen, .int .u32 p.serial, .int .u32 p.number, .int .u8 p.kind, v] T (0, 0)) ∧
    Only x (((((x.setCell ⟨n, 0, none⟩ (.int .u32 p.gen)).setCell ⟨n, 1, none⟩ (.int .u32 p.serial)).setCell ⟨n, 2, none⟩ (.int .u32 p.number)).setCell ⟨n, 3, none⟩ (.int .u8 p.kind)).setCell ⟨n, 4, none⟩ v) (fun q => q = n) ∧
    ∀ B w, B ≤ n → Below B w x → Below B w (((((x.setCell ⟨n, 0, none⟩ (.int .u32 p.gen)).setCell ⟨n, 1, none⟩ (.int .u32 p.serial)).setCell ⟨n, 2, none⟩ (.int .u32 p.number)).setCell ⟨n, 3, none⟩ (.int .u8 p.kind)).setCell ⟨n, 4, none⟩ v) := by
  refine ⟨?_, ?_, fun B w hn hB => ((((hB.setCell hn _).setCell hn _).setCell hn _).setCell hn _).setCell hn _⟩
  · exact heap_setCell_same _ n 4 _ _ v (heap_setCell_same _ n 3 _ _ (.int .u8 p.kind) (heap_setCell_same _ n 2 _ _ (.int .u32 p.number) (heap_setCell_same _ n 1 _ _ (.int .u32 p.serial) (heap_setCell_same _ n 0 _ _ (.int .u32 p.gen) hc))))
  · have h2 : ∀ (y : World) (i : Nat) (u : Value), Only y (y.setCell ⟨n, i, none⟩ u) (fun q => q = n) := fun y i u => Only.setCell y ⟨n, i, none⟩ u
    exact ((((h2 _ 0 _).trans (h2 _ 1 _) fun _ _ h => h).trans (h2 _ 2 _) fun _ _ h => h).trans (h2 _ 3 _) fun _ _ h => h).trans (h2 _ 4 _) fun _ _ h => h

/-- a page of noughts and a page beside it -/
theorem box_two (w : World) (o1 o2 : Obj) : (((w.alloc o1).alloc o2).heap[w.heap.size]? = some o1) ∧ (((w.alloc o1).alloc o2).heap[w.heap.size + 1]? = some o2) := by
  refine ⟨((bal (bre (w.alloc o1)) o2).block _ (by simp)).trans (heap_alloc_new w o1), ?_⟩
  have := heap_alloc_new (w.alloc o1) o2
  simpa using this

/-- five cells of a page -/
def Row5 (w : World) (n : Nat) (p : Pg) (v : Value) : Prop := w.heap[n]? = some (.cells #[.int .u32 p.gen, .int .u32 p.serial, .int .u32 p.number, .int .u8 p.kind, v] 84 (0, 0))
theorem Row5.below {w w' : World} {n : Nat} {p : Pg} {v : Value} (h : Row5 w n p v) (hb : Below w.heap.size w w') : Row5 w' n p v := (hb.block n (Array.getElem?_eq_some_iff.1 h).1).trans h
theorem Row5.lt {w : World} {n : Nat} {p : Pg} {v : Value} (h : Row5 w n p v) : n < w.heap.size := (Array.getElem?_eq_some_iff.1 h).1
theorem Row5.only {w w' : World} {n : Nat} {p : Pg} {v : Value} {S : Nat → Prop} (h : Row5 w n p v) (ho : Only w w' S) (hn : ¬ S n) : Row5 w' n p v := (ho.block n h.lt hn).trans h
theorem Row5.c0 {w : World} {n : Nat} {p : Pg} {v : Value} (h : Row5 w n p v) : w.cell? ⟨n, 0, none⟩ = some (.int .u32 p.gen) := cell_of_row w n 0 _ _ _ h
theorem Row5.c1 {w : World} {n : Nat} {p : Pg} {v : Value} (h : Row5 w n p v) : w.cell? ⟨n, 1, none⟩ = some (.int .u32 p.serial) := cell_of_row w n 1 _ _ _ h
theorem Row5.c2 {w : World} {n : Nat} {p : Pg} {v : Value} (h : Row5 w n p v) : w.cell? ⟨n, 2, none⟩ = some (.int .u32 p.number) := cell_of_row w n 2 _ _ _ h
theorem Row5.c3 {w : World} {n : Nat} {p : Pg} {v : Value} (h : Row5 w n p v) : w.cell? ⟨n, 3, none⟩ = some (.int .u8 p.kind) := cell_of_row w n 3 _ _ _ h
theorem Row5.c4 {w : World} {n : Nat} {p : Pg} {v : Value} (h : Row5 w n p v) : w.cell? ⟨n, 4, none⟩ = some v := cell_of_row w n 4 _ _ _ h
theorem Row5.fz {w : World} {n : Nat} {p : Pg} {v : Value} (h : Row5 w n p v) (i : Nat) : w.frozen? ⟨n, i, none⟩ = false := frozen_of_row w n i _ _ h

theorem pgSame_self (a : Pg) : pgSame a a = true := by simp [pgSame]

structure Cr where
  gen : Nat
  half : Nat
  serial : Nat

structure Cr.Ok (c : Cr) : Prop where
  gen : c.gen < 4294967296
  half : c.half < 256
  serial : c.serial < 4294967296

def CrVal (c : Cr) : Value := .agg #[.int .u32 c.gen, .int .u8 c.half, .int .u32 c.serial]
def Cr.zero : Cr := ⟨0, 0, 0⟩
def Cr.first : Cr := ⟨1, 0, 0⟩
def Cr.next (c : Cr) : Cr := ⟨(c.gen + 1) % 4294967296, c.half ^^^ 1, (c.serial + 1) % 4294967296⟩
def Cr.page (c : Cr) : Pg := ⟨c.gen, c.serial, 0, 9, [UInt8.ofNat c.half]⟩

theorem Cr.Ok.next {c : Cr} (h : c.Ok) : c.next.Ok := ⟨Nat.mod_lt _ (by decide), Nat.xor_lt_two_pow (n := 8) h.half (by decide), Nat.mod_lt _ (by decide)⟩
theorem Cr.Ok.page {c : Cr} (h : c.Ok) : c.page.Ok := ⟨h.gen, h.serial, (by decide : (0 : Nat) < 4294967296), (by decide : (9 : Nat) < 256)⟩
theorem Cr.first_ok : Cr.first.Ok := ⟨by decide, by decide, by decide⟩

/-- three cells of a crown -/
def Row3 (w : World) (n : Nat) (c : Cr) : Prop := w.heap[n]? = some (.cells #[.int .u32 c.gen, .int .u8 c.half, .int .u32 c.serial] 24 (0, 0))
theorem Row3.below {w w' : World} {n : Nat} {c : Cr} (h : Row3 w n c) (hb : Below w.heap.size w w') : Row3 w' n c := (hb.block n (Array.getElem?_eq_some_iff.1 h).1).trans h
theorem Row3.lt {w : World} {n : Nat} {c : Cr} (h : Row3 w n c) : n < w.heap.size := (Array.getElem?_eq_some_iff.1 h).1
theorem Row3.only {w w' : World} {n : Nat} {c : Cr} {S : Nat → Prop} (h : Row3 w n c) (ho : Only w w' S) (hn : ¬ S n) : Row3 w' n c := (ho.block n h.lt hn).trans h
theorem Row3.c0 {w : World} {n : Nat} {c : Cr} (h : Row3 w n c) : w.cell? ⟨n, 0, none⟩ = some (.int .u32 c.gen) := cell_of_row w n 0 _ _ _ h
theorem Row3.c1 {w : World} {n : Nat} {c : Cr} (h : Row3 w n c) : w.cell? ⟨n, 1, none⟩ = some (.int .u8 c.half) := cell_of_row w n 1 _ _ _ h
theorem Row3.c2 {w : World} {n : Nat} {c : Cr} (h : Row3 w n c) : w.cell? ⟨n, 2, none⟩ = some (.int .u32 c.serial) := cell_of_row w n 2 _ _ _ h
theorem Row3.fz {w : World} {n : Nat} {c : Cr} (h : Row3 w n c) (i : Nat) : w.frozen? ⟨n, i, none⟩ = false := frozen_of_row w n i _ _ h

/-- a crown is stored into three cells -/
theorem cr_put {x : World} {n : Nat} {c : Cr} (p : Cr) (hc : Row3 x n c) :
    Row3 (((x.setCell ⟨n, 0, none⟩ (.int .u32 p.gen)).setCell ⟨n, 1, none⟩ (.int .u8 p.half)).setCell ⟨n, 2, none⟩ (.int .u32 p.serial)) n p ∧
    Only x (((x.setCell ⟨n, 0, none⟩ (.int .u32 p.gen)).setCell ⟨n, 1, none⟩ (.int .u8 p.half)).setCell ⟨n, 2, none⟩ (.int .u32 p.serial)) (fun q => q = n) ∧
    ∀ B w, B ≤ n → Below B w x → Below B w (((x.setCell ⟨n, 0, none⟩ (.int .u32 p.gen)).setCell ⟨n, 1, none⟩ (.int .u8 p.half)).setCell ⟨n, 2, none⟩ (.int .u32 p.serial)) := by
  refine ⟨?_, ?_, fun B w hn hB => ((hB.setCell hn _).setCell hn _).setCell hn _⟩
  · exact heap_setCell_same _ n 2 _ _ (.int .u32 p.serial) (heap_setCell_same _ n 1 _ _ (.int .u8 p.half) (heap_setCell_same _ n 0 _ _ (.int .u32 p.gen) hc))
  · have h2 : ∀ (y : World) (i : Nat) (u : Value), Only y (y.setCell ⟨n, i, none⟩ u) (fun q => q = n) := fun y i u => Only.setCell y ⟨n, i, none⟩ u
    exact ((h2 _ 0 _).trans (h2 _ 1 _) fun _ _ h => h).trans (h2 _ 2 _) fun _ _ h => h

set_option maxRecDepth 10000 in
set_option maxHeartbeats 400000 in
theorem first_any (w : World) :
    Calls Tryd.prog 18 #[] w fun e w' => e = .returned (CrVal Cr.first) ∧ Below w.heap.size w w' := by
  go_enter Tryd.func18, Tryd.ntmps18
  go_wp2_with fail
  have hb := bal (bre w) (.cells #[.int .u32 1, .int .u8 0, .int .u32 0] 24)
  refine bodyPost_ret (v := .agg #[.int .u32 1, .int .u8 0, .int .u32 0]) ?_ rfl ⟨rfl, hb⟩
  simp [results, Tryd.results18, go_sem]

theorem wrap32 (n : Nat) : IntKind.u32.wrap ((n : Int) + 1) = (((n + 1) % 4294967296 : Nat) : Int) := by
  simp [IntKind.wrap, IntKind.signed, IntKind.bits]

set_option maxRecDepth 10000 in
set_option maxHeartbeats 800000 in
theorem next_any (c : Cr) (ok : c.Ok) (w : World) :
    Calls Tryd.prog 17 #[CrVal c] w fun e w' => e = .returned (CrVal c.next) ∧ Below w.heap.size w w' := by
  unfold CrVal
  have hx : bits .xor .u8 (c.half : Int) 1 = ((c.half ^^^ 1 : Nat) : Int) := u8_xor_nat c.half 1 ok.half (by decide)
  have hg := wrap32 c.gen
  have hs := wrap32 c.serial
  have e0 : (((c.gen + 1) % 4294967296 : Nat) : Int) = (c.next.gen : Int) := rfl
  have e1 : ((c.half ^^^ 1 : Nat) : Int) = (c.next.half : Int) := rfl
  have e2 : (((c.serial + 1) % 4294967296 : Nat) : Int) = (c.next.serial : Int) := rfl
  rw [e0] at hg
  rw [e1] at hx
  rw [e2] at hs
  obtain ⟨p, hp⟩ : ∃ p, p = c.next := ⟨_, rfl⟩
  rw [← hp] at hg hx hs ⊢
  clear e0 e1 e2 hp ok
  obtain ⟨n1, hn1⟩ : ∃ n, n = w.heap.size := ⟨_, rfl⟩
  go_enter Tryd.func17, Tryd.ntmps17
  go_upto_region 1 with fail
  have hb0 := bal (bal (bre w) (.cells #[.int .u32 c.gen, .int .u8 c.half, .int .u32 c.serial] 24)) (.cells #[.int .u32 0, .int .u8 0, .int .u32 0] 24)
  obtain ⟨hr1, hr2⟩ := box_two w (.cells #[.int .u32 c.gen, .int .u8 c.half, .int .u32 c.serial] 24) (.cells #[.int .u32 0, .int .u8 0, .int .u32 0] 24)
  generalize (w.alloc (.cells #[.int .u32 c.gen, .int .u8 c.half, .int .u32 c.serial] 24)).alloc (.cells #[.int .u32 0, .int .u8 0, .int .u32 0] 24) = W at *
  rw [← hn1] at hr1 hr2 ⊢
  obtain ⟨n2, hn2⟩ : ∃ n, n = n1 + 1 := ⟨_, rfl⟩
  rw [← hn2] at hr2
  try rw [← hn2]
  have h1 : Row3 W n1 c := hr1
  have h2 : Row3 W n2 Cr.zero := hr2
  obtain ⟨q1, q2, q3⟩ := cr_put p h2
  have hb2 := q3 _ w (by omega) hb0
  have r0 := h1.c0
  have r1 := h1.c1
  have r2 := h1.c2
  have z0 := h2.c0
  have z1 := h2.c1
  have z2 := h2.c2
  have zf := h2.fz
  have HB2 := Lib.hid hb2
  have Q1 := Lib.hid q1
  clear hb2 q1 q2 q3 hb0 hr1 hr2 hn1 hn2 h1 h2
  go_wp2_with fail
  have q1 := Q1.out
  have hb2 := HB2.out
  generalize (((W.setCell ⟨n2, 0, none⟩ (.int .u32 p.gen)).setCell ⟨n2, 1, none⟩ (.int .u8 p.half)).setCell ⟨n2, 2, none⟩ (.int .u32 p.serial)) = W9 at *
  have g0 := q1.c0
  have g1 := q1.c1
  have g2 := q1.c2
  exact bodyPost_ret (v := .agg #[.int .u32 p.gen, .int .u8 p.half, .int .u32 p.serial]) (by simp [results, Tryd.results17, go_sem, g0, g1, g2]) rfl ⟨rfl, hb2⟩

set_option maxRecDepth 10000 in
set_option maxHeartbeats 800000 in
theorem cpage_any (c : Cr) (ok : c.Ok) (w : World) :
    Calls Tryd.prog 38 #[CrVal c] w fun e w' => ∃ vd, e = .returned (PgVal c.page vd) ∧ Own8 5 w.heap.size w' vd c.page.data ∧ Below w.heap.size w w' := by
  unfold CrVal
  obtain ⟨n1, hn1⟩ : ∃ n, n = w.heap.size := ⟨_, rfl⟩
  have OK := Lib.hid ok
  clear ok
  go_enter Tryd.func38, Tryd.ntmps38
  go_upto_region 1 with fail
  have hb0 := bal (bal (bre w) (.cells #[.int .u32 c.gen, .int .u8 c.half, .int .u32 c.serial] 24)) (.cells #[.int .u32 0, .int .u32 0, .int .u32 0, .int .u8 0, .slice none 0 0] 84)
  obtain ⟨hr1, hr2⟩ := box_two w (.cells #[.int .u32 c.gen, .int .u8 c.half, .int .u32 c.serial] 24) (.cells #[.int .u32 0, .int .u32 0, .int .u32 0, .int .u8 0, .slice none 0 0] 84)
  generalize (w.alloc (.cells #[.int .u32 c.gen, .int .u8 c.half, .int .u32 c.serial] 24)).alloc (.cells #[.int .u32 0, .int .u32 0, .int .u32 0, .int .u8 0, .slice none 0 0] 84) = W at *
  rw [← hn1] at hr1 hr2 ⊢
  obtain ⟨n2, hn2⟩ : ∃ n, n = n1 + 1 := ⟨_, rfl⟩
  rw [← hn2] at hr2
  try rw [← hn2]
  have h1 : Row3 W n1 c := hr1
  have r0 := h1.c0
  have r1 := h1.c1
  have r2 := h1.c2
  have HB0 := Lib.hid hb0
  have HR2 := Lib.hid hr2
  have HN2 : Hid (w.heap.size ≤ n2) := Lib.hid (by omega)
  clear hb0
  have hlt := (Array.getElem?_eq_some_iff.1 hr2).1
  have hne : ¬ n2 = W.heap.size := by omega
  obtain ⟨ws, hws⟩ : ∃ s, s = W.heap.size := ⟨_, rfl⟩
  have hbl := bal (bre W) (.cells #[.int .u8 c.half] 5)
  have hol := own8_lit 5 W #[.int .u8 c.half] [UInt8.ofNat c.half] 1 (by simp [B8_ofNat _ OK.out.half]) rfl (by simp [maxLen])
  have hr3 := (hbl.block n2 hlt).trans hr2
  have z0 := cell_of_row _ n2 0 _ _ _ hr3
  have z1 := cell_of_row _ n2 1 _ _ _ hr3
  have z2 := cell_of_row _ n2 2 _ _ _ hr3
  have z3 := cell_of_row _ n2 3 _ _ _ hr3
  have z4 := cell_of_row _ n2 4 _ _ _ hr3
  have zf := fun i => frozen_of_row _ n2 i _ _ hr3
  have hq := page_put ⟨c.gen, c.serial, 0, 9, []⟩ (.slice (some ⟨W.heap.size, 0, none⟩) 1 1) hr3
  obtain ⟨W9, hW9⟩ : ∃ x, x = ((((((W.alloc (.cells #[.int .u8 c.half] 5)).setCell ⟨n2, 0, none⟩ (.int .u32 c.gen)).setCell ⟨n2, 1, none⟩ (.int .u32 c.serial)).setCell ⟨n2, 2, none⟩ (.int .u32 0)).setCell ⟨n2, 3, none⟩ (.int .u8 9)).setCell ⟨n2, 4, none⟩ (.slice (some ⟨W.heap.size, 0, none⟩) 1 1)) := ⟨_, rfl⟩
  have q1 : W9.heap[n2]? = some (.cells #[.int .u32 c.gen, .int .u32 c.serial, .int .u32 0, .int .u8 9, .slice (some ⟨W.heap.size, 0, none⟩) 1 1] 84 (0, 0)) := by rw [hW9]; exact hq.1
  have q2 : Only (W.alloc (.cells #[.int .u8 c.half] 5)) W9 (fun q => q = n2) := by rw [hW9]; exact hq.2.1
  have hb9 : Below w.heap.size w W9 := by rw [hW9]; exact hq.2.2 w.heap.size w HN2.out (btr HB0.out hbl)
  have hy9 := own_only hol q2 (fun k hk e => by cases hk; exact hne e.symm)
  have HB9 := Lib.hid hb9
  have HQ9 := Lib.hid q1
  have HY9 := Lib.hid hy9
  have HBS := Lib.hid HB0.out.size
  have HW9 := Lib.hid hW9
  clear hr1 hr2 hr3 hn1 hn2 h1 hbl hol hq q1 q2 hb9 hy9 HB0 HR2 hws hlt hW9
  go_wp2_with fail
  rw [← HW9.out]
  have g0 := cell_of_row W9 n2 0 _ _ _ HQ9.out
  have g1 := cell_of_row W9 n2 1 _ _ _ HQ9.out
  have g2 := cell_of_row W9 n2 2 _ _ _ HQ9.out
  have g3 := cell_of_row W9 n2 3 _ _ _ HQ9.out
  have g4 := cell_of_row W9 n2 4 _ _ _ HQ9.out
  refine bodyPost_ret (v := .agg #[.int .u32 c.gen, .int .u32 c.serial, .int .u32 0, .int .u8 9, .slice (some ⟨W.heap.size, 0, none⟩) 1 1]) (by simp [results, Tryd.results38, go_sem, g0, g1, g2, g3, g4]) rfl ?_
  exact ⟨_, rfl, Own8.kept HY9.out HBS.out (bre W9), HB9.out⟩
end Go.Proofs.YtejdlgfiiagcmaaDoor
