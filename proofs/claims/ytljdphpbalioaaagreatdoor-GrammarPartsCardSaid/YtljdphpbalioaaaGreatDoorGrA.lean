/- Walk: the parser's small hands: what is next. -/
import Derived.Test.YtljdphpbalioaaaGreatDoorGrP
import Derived.BigQuiet
import Derived.Deep.QuietTactic
namespace Go.Proofs.YtljdphpbalioaaaGreatDoor
open Go.RowKit

def TokV (t : Tok) : Value := .agg #[.int .u8 t.kind, .string (mk8 t.text), .int .i64 t.pos]
def ToksAt (w : World) (ta : Option Addr) (ts : List Tok) : Prop := ts = [] ∨ ∃ q, ta = some ⟨q, 0, none⟩ ∧
  ∀ (j : Nat) t, ts[j]? = some t → w.cell? ⟨q, j * 3, none⟩ = some (.int .u8 t.kind) ∧ w.cell? ⟨q, j * 3 + 1, none⟩ = some (.string (mk8 t.text)) ∧ w.cell? ⟨q, j * 3 + 2, none⟩ = some (.int .i64 t.pos)
/-- the parser at g, and its tokens -/
structure PAt (w : World) (g : Nat) (ta : Option Addr) (tc : Nat) (ts : List Tok) (s : PS) : Prop where
  row : w.heap[g]? = some (.cells #[.slice ta ts.length tc, .int .i64 s.pos, .int .i64 s.deep, .bool s.bad] 46 (0, 0))
  toks : ToksAt w ta ts
  cap : ts.length ≤ tc
  few : ts.length ≤ 1000000
  ne : ∀ q, ta = some ⟨q, 0, none⟩ → q ≠ g
theorem ToksAt.only {w w' : World} {ta : Option Addr} {ts : List Tok} {S : Nat → Prop} (h : ToksAt w ta ts) (ho : Only w w' S) (hs : ∀ k, S k → ∀ q, ta = some ⟨q, 0, none⟩ → q ≠ k) : ToksAt w' ta ts := by
  rcases h with h | ⟨q, hq, h⟩
  · exact .inl h
  · refine .inr ⟨q, hq, fun j t ht => ?_⟩
    obtain ⟨h1, h2, h3⟩ := h j t ht
    have key : ∀ o u, w.cell? ⟨q, o, none⟩ = some u → w'.cell? ⟨q, o, none⟩ = some u := fun o u hu => by
      have hlt : q < w.heap.size := block_lt_of_cell hu
      have hb := ho.block q hlt (fun hk => hs q hk q hq rfl)
      unfold World.cell? at hu ⊢
      rw [hb]
      exact hu
    exact ⟨key _ _ h1, key _ _ h2, key _ _ h3⟩
theorem PAt.below {w w' : World} {g : Nat} {ta : Option Addr} {tc : Nat} {ts : List Tok} {s : PS} (h : PAt w g ta tc ts s) (hb : Below w.heap.size w w') : PAt w' g ta tc ts s :=
  ⟨(hb.block g (Array.getElem?_eq_some_iff.1 h.row).1).trans h.row, h.toks.only (Only.of_below hb fun _ => False) fun _ h => h.elim, h.cap, h.few, h.ne⟩

theorem PAt.adv {w : World} {g : Nat} {ta : Option Addr} {tc : Nat} {ts : List Tok} {s : PS} (h : PAt w g ta tc ts s) : PAt (w.setCell ⟨g, 1, none⟩ (.int .i64 ((s.pos + 1 : Nat) : Int))) g ta tc ts (Gr.PS.adv s) :=
  ⟨heap_setCell_same w g 1 _ _ _ h.row, h.toks.only (Only.setCell w ⟨g, 1, none⟩ _) fun k hk q hq => by rw [show k = g from hk]; exact h.ne q hq, h.cap, h.few, h.ne⟩
theorem PAt.fail {w : World} {g : Nat} {ta : Option Addr} {tc : Nat} {ts : List Tok} {s : PS} (h : PAt w g ta tc ts s) : PAt (w.setCell ⟨g, 3, none⟩ (.bool true)) g ta tc ts (Gr.PS.fail s) :=
  ⟨heap_setCell_same w g 3 _ _ _ h.row, h.toks.only (Only.setCell w ⟨g, 3, none⟩ _) fun k hk q hq => by rw [show k = g from hk]; exact h.ne q hq, h.cap, h.few, h.ne⟩
theorem tok_put {w W : World} {n : Nat} {a b c : Value} (x y z : Value) (hr : W.heap[n]? = some (.cells #[a, b, c] 71 (0, 0))) (hb : Below w.heap.size w W) (hn : w.heap.size ≤ n) :
    (((W.setCell ⟨n, 0, none⟩ x).setCell ⟨n, 1, none⟩ y).setCell ⟨n, 2, none⟩ z).heap[n]? = some (.cells #[x, y, z] 71 (0, 0)) ∧ Below w.heap.size w (((W.setCell ⟨n, 0, none⟩ x).setCell ⟨n, 1, none⟩ y).setCell ⟨n, 2, none⟩ z) := by
  have h1 : (W.setCell ⟨n, 0, none⟩ x).heap[n]? = some (.cells #[x, b, c] 71 (0, 0)) := heap_setCell_same W n 0 _ _ x hr
  generalize hw1 : W.setCell ⟨n, 0, none⟩ x = w1 at *
  have h2 : (w1.setCell ⟨n, 1, none⟩ y).heap[n]? = some (.cells #[x, y, c] 71 (0, 0)) := heap_setCell_same w1 n 1 _ _ y h1
  generalize hw2 : w1.setCell ⟨n, 1, none⟩ y = w2 at *
  refine ⟨heap_setCell_same w2 n 2 _ _ z h2, ?_⟩
  rw [← hw2, ← hw1]
  exact ((hb.setCell hn _).setCell hn _).setCell hn _

set_option maxRecDepth 20000 in
set_option maxHeartbeats 1600000 in
theorem now_any (g : Nat) (ta : Option Addr) (tc : Nat) (ts : List Tok) (s : PS) (w : World) (h : PAt w g ta tc ts s) (hp : s.pos ≤ 1000000000) :
    Calls Tryz.prog 44 #[.pointer (some ⟨g, 0, none⟩)] w fun e w' => e = .returned (TokV (Gr.now ts s)) ∧ Below w.heap.size w w' := by
  have c0 := cell_of_row w g 0 _ _ _ h.row
  have c1 := cell_of_row w g 1 _ _ _ h.row
  have c3 := cell_of_row w g 3 _ _ _ h.row
  obtain ⟨p, d, b⟩ := s
  replace c0 : w.cell? ⟨g, 0, none⟩ = some (.slice ta ts.length tc) := c0
  replace c1 : w.cell? ⟨g, 1, none⟩ = some (.int .i64 p) := c1
  replace c3 : w.cell? ⟨g, 3, none⟩ = some (.bool b) := c3
  have H := Lib.hid h
  clear h
  go_enter Tryz.func44, Tryz.ntmps44
  go_upto_region 1 with fail
  obtain ⟨n, hn⟩ : ∃ q, q = w.heap.size := ⟨_, rfl⟩
  have hb0 := bal (bre w) (.cells #[.int .u8 0, .string ⟨#[]⟩, .int .i64 0] 71)
  have hr0 := heap_alloc_new w (.cells #[.int .u8 0, .string ⟨#[]⟩, .int .i64 0] 71)
  rw [← hn] at hr0 ⊢
  have hlt := block_lt_of_cell c0
  have c0 := (hb0.cell (p := ⟨g, 0, none⟩) hlt).trans c0
  have c1 := (hb0.cell (p := ⟨g, 1, none⟩) hlt).trans c1
  have c3 := (hb0.cell (p := ⟨g, 3, none⟩) hlt).trans c3
  have HA := Lib.hid (H.out.below hb0)
  generalize w.alloc (.cells #[.int .u8 0, .string ⟨#[]⟩, .int .i64 0] 71) = W at *
  have HB := Lib.hid hb0
  have HR := Lib.hid hr0
  have hf : ∀ i, W.frozen? ⟨n, i, none⟩ = false := fun i => frozen_of_row W n i _ _ hr0
  have p0 := cell_of_row W n 0 _ _ _ hr0
  have p1 := cell_of_row W n 1 _ _ _ hr0
  have p2 := cell_of_row W n 2 _ _ _ hr0
  have HN : Hid (w.heap.size ≤ n) := Lib.hid (by omega)
  clear hb0 hr0 hn hlt H
  have HEMPTY : Hid (∀ t : Tok, t = ⟨0, [], 0⟩ → TokV t = .agg #[.int .u8 0, .string ⟨#[]⟩, .int .i64 0]) := Lib.hid (fun t h => by rw [h]; rfl)
  cases b with
  | true =>
    have HNOW : Hid (Gr.now ts ⟨p, d, true⟩ = ⟨0, [], 0⟩) := Lib.hid rfl
    go_quiet (fail)
    have hbq := bdn (bre W) nq
    have hrq := (hbq.block n (Array.getElem?_eq_some_iff.1 HR.out).1).trans HR.out
    have hbq2 := btr HB.out hbq
    generalize W.drewN nq = W1 at *
    have hf1 : ∀ i, W1.frozen? ⟨n, i, none⟩ = false := fun i => frozen_of_row W1 n i _ _ hrq
    have r0 := cell_of_row W1 n 0 _ _ _ hrq
    have r1 := cell_of_row W1 n 1 _ _ _ hrq
    have r2 := cell_of_row W1 n 2 _ _ _ hrq
    have HRQ := Lib.hid hrq
    have HBQ := Lib.hid hbq2
    clear hbq hrq hbq2
    go_wp2_with fail
    obtain ⟨hrow, hbel⟩ := tok_put (.int .u8 0) (.string ⟨#[]⟩) (.int .i64 0) HRQ.out HBQ.out HN.out
    have d0 := cell_of_row _ n 0 _ _ _ hrow
    have d1 := cell_of_row _ n 1 _ _ _ hrow
    have d2 := cell_of_row _ n 2 _ _ _ hrow
    generalize ((W1.setCell ⟨n, 0, none⟩ (.int .u8 0)).setCell ⟨n, 1, none⟩ (.string ⟨#[]⟩)).setCell ⟨n, 2, none⟩ (.int .i64 0) = W9 at *
    refine bodyPost_ret (v := .agg #[.int .u8 0, .string ⟨#[]⟩, .int .i64 0]) (by simp [results, Tryz.results44, go_sem, d0, d1, d2]) rfl ?_
    exact ⟨by rw [HEMPTY.out _ HNOW.out], hbel⟩
  | false =>
    by_cases hlt : p < ts.length
    · have e1 : decide ((ts.length : Int) ≤ (p : Int)) = false := decide_eq_false (by omega)
      have e1n : decide (ts.length ≤ p) = false := decide_eq_false (by omega)
      obtain ⟨t, ht⟩ : ∃ t, ts[p]? = some t := ⟨_, List.getElem?_eq_getElem hlt⟩
      have HNOW : Hid (Gr.now ts ⟨p, d, false⟩ = t) := Lib.hid (by unfold Gr.now; simp [ht])
      rcases HA.out.toks with h0 | ⟨q, rfl, hq⟩
      · rw [h0] at hlt; cases hlt
      obtain ⟨t0, t1, t2⟩ := hq p t ht
      have k1 : (0 : Int) ≤ (p : Int) := by omega
      have k2 : (p : Int) < (ts.length : Int) := by omega
      clear hq ht
      go_quiet (fail)
      go_wp2_with fail
      go_region
      have hbq := bdn (bre W) (nq + 1)
      have hrq := (hbq.block n (Array.getElem?_eq_some_iff.1 HR.out).1).trans HR.out
      obtain ⟨hrow, hbel⟩ := tok_put (.int .u8 (t.kind : Nat)) (.string (mk8 t.text)) (.int .i64 (t.pos : Nat)) hrq (btr HB.out hbq) HN.out
      have d0 := cell_of_row _ n 0 _ _ _ hrow
      have d1 := cell_of_row _ n 1 _ _ _ hrow
      have d2 := cell_of_row _ n 2 _ _ _ hrow
      clear hbq hrq hrow
      generalize (((W.drewN (nq + 1)).setCell ⟨n, 0, none⟩ (.int .u8 (t.kind : Nat))).setCell ⟨n, 1, none⟩ (.string (mk8 t.text))).setCell ⟨n, 2, none⟩ (.int .i64 (t.pos : Nat)) = W9 at *
      go_wp2_with fail
      refine bodyPost_ret (v := TokV t) (by simp [results, Tryz.results44, go_sem, d0, d1, d2, TokV]) rfl ?_
      exact ⟨by rw [HNOW.out], hbel⟩
    · have e1 : decide ((ts.length : Int) ≤ (p : Int)) = true := decide_eq_true (by omega)
      have e1n : decide (ts.length ≤ p) = true := decide_eq_true (by omega)
      have HNOW : Hid (Gr.now ts ⟨p, d, false⟩ = ⟨0, [], 0⟩) := Lib.hid (by unfold Gr.now; simp [List.getElem?_eq_none (Nat.le_of_not_lt hlt)])
      go_quiet (fail)
      have hbq := bdn (bre W) nq
      have hrq := (hbq.block n (Array.getElem?_eq_some_iff.1 HR.out).1).trans HR.out
      have hbq2 := btr HB.out hbq
      generalize W.drewN nq = W1 at *
      have hf1 : ∀ i, W1.frozen? ⟨n, i, none⟩ = false := fun i => frozen_of_row W1 n i _ _ hrq
      have r0 := cell_of_row W1 n 0 _ _ _ hrq
      have r1 := cell_of_row W1 n 1 _ _ _ hrq
      have r2 := cell_of_row W1 n 2 _ _ _ hrq
      have HRQ := Lib.hid hrq
      have HBQ := Lib.hid hbq2
      clear hbq hrq hbq2
      go_wp2_with fail
      obtain ⟨hrow, hbel⟩ := tok_put (.int .u8 0) (.string ⟨#[]⟩) (.int .i64 0) HRQ.out HBQ.out HN.out
      have d0 := cell_of_row _ n 0 _ _ _ hrow
      have d1 := cell_of_row _ n 1 _ _ _ hrow
      have d2 := cell_of_row _ n 2 _ _ _ hrow
      generalize ((W1.setCell ⟨n, 0, none⟩ (.int .u8 0)).setCell ⟨n, 1, none⟩ (.string ⟨#[]⟩)).setCell ⟨n, 2, none⟩ (.int .i64 0) = W9 at *
      refine bodyPost_ret (v := .agg #[.int .u8 0, .string ⟨#[]⟩, .int .i64 0]) (by simp [results, Tryz.results44, go_sem, d0, d1, d2]) rfl ?_
      exact ⟨by rw [HEMPTY.out _ HNOW.out], hbel⟩
end Go.Proofs.YtljdphpbalioaaaGreatDoor
