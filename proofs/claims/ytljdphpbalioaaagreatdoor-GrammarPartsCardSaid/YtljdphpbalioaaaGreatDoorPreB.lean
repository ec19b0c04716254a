/- Merged: arena/Ar arena/ArGet arena/ArPut. -/
import Derived.Test.YtljdphpbalioaaaGreatDoorPreA
import Derived.Carry
/- An arena in memory: New, Root, Len, Get, Put. -/
namespace Go.Proofs.YtljdphpbalioaaaGreatDoor
open Go.RowKit

/-- the arena at g, whose map lies at b, has just these nodes -/
structure ArAt (w : World) (g b : Nat) (l : List (Nat × Nd)) : Prop where
  box : w.heap[g]? = some (.cells #[.map (some b)] 61 (0, 0))
  ex : ∃ vl, MapU Tryz.prog 34 w b vl ∧ StepA (fun v n => OwnNd 0 w v n) vl l
  nz : ∀ p ∈ l, p.1 ≠ 0
  few : l.length ≤ 20000

theorem MapU.isMap {P : Program} {k : TypeId} {w : World} {b : Nat} {l : List (Nat × Value)} (h : MapU P k w b l) : ∃ es c, w.heap[b]? = some (.map es c) := by
  obtain ⟨es, c, hb, -⟩ := h.1
  exact ⟨es, c, hb⟩
theorem ArAt.lt {w : World} {g b : Nat} {l : List (Nat × Nd)} (h : ArAt w g b l) : g < w.heap.size ∧ b < w.heap.size := by
  obtain ⟨vl, h1, -⟩ := h.ex
  exact ⟨(Array.getElem?_eq_some_iff.1 h.box).1, h1.lt⟩
theorem ArAt.c0 {w : World} {g b : Nat} {l : List (Nat × Nd)} (h : ArAt w g b l) : w.cell? ⟨g, 0, none⟩ = some (.map (some b)) := cell_of_row w g 0 _ _ _ h.box
theorem ArAt.asc {w : World} {g b : Nat} {l : List (Nat × Nd)} (h : ArAt w g b l) : AscA l := by
  obtain ⟨vl, h1, h2⟩ := h.ex
  exact h2.asc h1.2
theorem ArAt.only {w w' : World} {g b : Nat} {l : List (Nat × Nd)} {S : Nat → Prop} (h : ArAt w g b l) (ho : Only w w' S) (hg : ¬ S g) (hb : ¬ S b) (hs : ∀ k, S k → ∀ cs fr, w.heap[k]? ≠ some (.cells cs 34 fr)) : ArAt w' g b l := by
  obtain ⟨vl, h1, h2⟩ := h.ex
  exact ⟨(ho.block g h.lt.1 hg).trans h.box, ⟨vl, h1.only ho hb, h2.mono fun v n hn => hn.only ho hs⟩, h.nz, h.few⟩
theorem ArAt.below {w w' : World} {g b : Nat} {l : List (Nat × Nd)} (h : ArAt w g b l) (hb : Below w.heap.size w w') : ArAt w' g b l := h.only (Only.of_below hb fun _ => False) (fun h => h) (fun h => h) fun _ h => h.elim

/-- what is there at an ID -/
def atN (l : List (Nat × Nd)) (x : Nat) : Nd := (getA l x).getD .zero

/-- the look-up -/
theorem ArAt.look {w : World} {g b : Nat} {l : List (Nat × Nd)} (h : ArAt w g b l) (x : Nat) (hx : x < 18446744073709551616) :
    ∃ kv, (Instr.lookup 59 (.map (some b)) (.int .u64 x) true).run Tryz.prog w = .ok (.tuple #[NdVal (atN l x) kv, .bool (getA l x).isSome]) w ∧
      (Instr.lookup 59 (.map (some b)) (.int .u64 x) false).run Tryz.prog w = .ok (NdVal (atN l x) kv) w ∧ OwnIds 0 w kv (atN l x).kids ∧ (atN l x).Ok := by
  obtain ⟨vl, h1, h2⟩ := h.ex
  have e1 := h1.look (t := 59) Tryz.underlying34 Tryz.underlying59 (zeroNd w) x hx
  have e2 := h1.look1 (t := 59) Tryz.underlying34 Tryz.underlying59 (zeroNd w) x hx
  unfold atN
  rcases h2.get x with ⟨g1, g2⟩ | ⟨v, n, g1, g2, kv, rfl, hk, ok⟩
  · rw [g1] at e1 e2
    rw [g2]
    exact ⟨_, e1, e2, OwnIds.nil _ _, Nd.zero_ok⟩
  · rw [g1] at e1 e2
    rw [g2]
    exact ⟨kv, e1, e2, hk, ok⟩
theorem ArAt.len {w : World} {g b : Nat} {l : List (Nat × Nd)} (h : ArAt w g b l) (ty : TypeId) : (Builtin.len_ #[59] ty #[.map (some b)]).run Tryz.prog w = .ok (.int .i64 l.length) w := by
  obtain ⟨vl, h1, h2⟩ := h.ex
  have := h1.len (t := 59) Tryz.underlying59 ty
  rwa [h2.length] at this
/-- the store -/
theorem ArAt.store {w : World} {g b : Nat} {l : List (Nat × Nd)} (h : ArAt w g b l) (x : Nat) (hx : x < 18446744073709551616) (h0 : x ≠ 0) (v : Value) (n : Nd) (hv : OwnNd 0 w v n) (hl : (putA l x n).length ≤ 20000) :
    ∃ w', (Instr.mapUpdate 59 (.map (some b)) (.int .u64 x) v).run Tryz.prog w = .ok () w' ∧ ArAt w' g b (putA l x n) ∧ Only w w' (fun q => q = b) ∧ w'.heap.size = w.heap.size := by
  obtain ⟨vl, h1, h2⟩ := h.ex
  have hlen := h2.length
  obtain ⟨w', hrun, g1, g2, g3⟩ := h1.store (t := 59) Tryz.underlying34 Tryz.underlying59 x hx v (by have := h.few; unfold maxLen; omega)
  obtain ⟨es, c, hbm⟩ := h1.isMap
  have hs : ∀ k, k = b → ∀ cs fr, w.heap[k]? ≠ some (.cells cs 34 fr) := fun k hk cs fr e => by subst hk; rw [hbm] at e; cases e
  refine ⟨w', hrun, ⟨(g2.block g h.lt.1 (fun e => by subst e; rw [h.box] at hbm; cases hbm)).trans h.box, ⟨_, g1, (h2.put x hv).mono fun v n hn => hn.only g2 hs⟩, fun p hp => ?_, hl⟩, g2, g3⟩
  rcases mem_insA.1 hp with rfl | hp
  · exact h0
  · exact h.nz p (List.mem_filter.1 hp).1

def Nd.prog : Nd := ⟨1, ⟨#[]⟩, 0, 0, 0, []⟩
theorem Nd.prog_ok : Nd.prog.Ok := ⟨by decide, by decide, by decide, by decide, Nat.zero_le _, Nat.zero_le _, fun x hx => by cases hx⟩

set_option maxRecDepth 10000 in
set_option maxHeartbeats 800000 in
theorem arnew_any (w : World) :
    Calls Tryz.prog 14 #[] w fun e w' => ∃ g b, e = .returned (.pointer (some ⟨g, 0, none⟩)) ∧ ArAt w' g b [(1, .prog)] ∧ w.heap.size ≤ g ∧ w.heap.size ≤ b ∧ Below w.heap.size w w' := by
  have hmm := @run_makeMap Tryz.prog
  obtain ⟨w1, hrun, h1, h2, h3⟩ := (MapU.new (P := Tryz.prog) (k := 34) w).store (t := 59) Tryz.underlying34 Tryz.underlying59 1 (by decide) (NdVal .prog (.slice none 0 0)) (by decide)
  have hb0 := bal (bre w) (.map #[] 0)
  have hb1 : Below w.heap.size w w1 := hb0.trans (h2.below w.heap.size hb0.size fun i hi e => by omega)
  have hrun' : (Instr.mapUpdate 59 (.map (some w.heap.size)) (.int .u64 1) (.agg #[.int .u8 1, .string ⟨#[]⟩, .int .i64 0, .int .u8 0, .int .u64 0, .slice none 0 0])).run Tryz.prog (w.alloc (.map #[] 0)) = .ok () w1 := hrun
  have H1 := Lib.hid h1
  have HB1 := Lib.hid hb1
  clear hrun h1 h2 h3 hb0 hb1
  go_enter Tryz.func14, Tryz.ntmps14
  go_wp2_with fail
  go_ret
  have hbx := bal (bre w1) (.cells #[.map (some w.heap.size)] 61)
  have hn := heap_alloc_new w1 (.cells #[.map (some w.heap.size)] 61)
  refine ⟨_, w.heap.size, rfl, ⟨hn, ⟨_, H1.out.below hbx, .cons ⟨rfl, ⟨_, rfl, OwnIds.nil _ _, Nd.prog_ok⟩⟩ .nil⟩, fun p hp => ?_, ?_⟩, HB1.out.size, Nat.le_refl _, btr HB1.out hbx⟩
  · simp at hp; subst hp; exact Nat.one_ne_zero
  · simp

set_option maxRecDepth 10000 in
theorem arlen_any (g b : Nat) (l : List (Nat × Nd)) (w : World) (h : ArAt w g b l) : Calls Tryz.prog 8 #[.pointer (some ⟨g, 0, none⟩)] w fun e w' => e = .returned (.int .i64 l.length) ∧ w' = w := by
  have c0 := h.c0
  have hlen := fun ty => h.len ty
  clear h
  go_enter Tryz.func8, Tryz.ntmps8
  go_wp2_with fail
  go_ret
  exact ⟨rfl, rfl⟩
set_option maxRecDepth 10000 in
theorem arlen_nil (w : World) : Calls Tryz.prog 8 #[.pointer none] w fun e w' => e = .returned (.int .i64 0) ∧ w' = w := by
  go_enter Tryz.func8, Tryz.ntmps8
  go_wp2
  go_ret
  exact ⟨rfl, rfl⟩
end Go.Proofs.YtljdphpbalioaaaGreatDoor
/- Walk: Get, Put. -/
namespace Go.Proofs.YtljdphpbalioaaaGreatDoor
open Go.RowKit

set_option maxRecDepth 10000 in
set_option maxHeartbeats 800000 in
theorem arget_nil (x : Nat) (w : World) :
    Calls Tryz.prog 10 #[.pointer none, .int .u64 x] w fun e w' => e = .returned (.tuple #[NdVal .zero (.slice none 0 0), .bool false]) ∧ Below w.heap.size w w' := by
  go_enter Tryz.func10, Tryz.ntmps10
  go_upto_region 2 with fail
  have hb0 := bal (bre w) (.cells #[.int .u8 0, .string ⟨#[]⟩, .int .i64 0, .int .u8 0, .int .u64 0, .slice none 0 0] 37)
  have hr1 := heap_alloc_new w (.cells #[.int .u8 0, .string ⟨#[]⟩, .int .i64 0, .int .u8 0, .int .u64 0, .slice none 0 0] 37)
  generalize w.alloc (.cells #[.int .u8 0, .string ⟨#[]⟩, .int .i64 0, .int .u8 0, .int .u64 0, .slice none 0 0] 37) = W at *
  obtain ⟨n4, hn4⟩ : ∃ n, n = w.heap.size := ⟨_, rfl⟩
  rw [← hn4] at hr1 ⊢
  have hR : Row6 W n4 .zero (.slice none 0 0) := hr1
  have HR := Lib.hid hR
  have HB := Lib.hid hb0
  have HN : Hid (w.heap.size ≤ n4) := Lib.hid (by omega)
  have p0 := hR.c0
  have p1 := hR.c1
  have p2 := hR.c2
  have p3 := hR.c3
  have p4 := hR.c4
  have p5 := hR.c5
  have pf := hR.fz
  clear hb0 hr1 hR hn4
  go_wp2_with fail
  have hrow := HR.out.put .zero (.slice none 0 0)
  have hbel := put6_below HB.out HN.out .zero (.slice none 0 0)
  have e9 : ((((((W.setCell ⟨n4, 0, none⟩ (.int .u8 (Nd.zero.kind : Int))).setCell ⟨n4, 1, none⟩ (.string Nd.zero.name)).setCell ⟨n4, 2, none⟩ (.int .i64 Nd.zero.num)).setCell ⟨n4, 3, none⟩ (.int .u8 (Nd.zero.typ : Int))).setCell ⟨n4, 4, none⟩ (.int .u64 (Nd.zero.ref : Int))).setCell ⟨n4, 5, none⟩ (.slice none 0 0)) = (((((W.setCell ⟨n4, 0, none⟩ (.int .u8 0)).setCell ⟨n4, 1, none⟩ (.string ⟨#[]⟩)).setCell ⟨n4, 2, none⟩ (.int .i64 0)).setCell ⟨n4, 3, none⟩ (.int .u8 0)).setCell ⟨n4, 4, none⟩ (.int .u64 0)).setCell ⟨n4, 5, none⟩ (.slice none 0 0) := rfl
  rw [e9] at hrow hbel
  clear e9
  generalize (((((W.setCell ⟨n4, 0, none⟩ (.int .u8 0)).setCell ⟨n4, 1, none⟩ (.string ⟨#[]⟩)).setCell ⟨n4, 2, none⟩ (.int .i64 0)).setCell ⟨n4, 3, none⟩ (.int .u8 0)).setCell ⟨n4, 4, none⟩ (.int .u64 0)).setCell ⟨n4, 5, none⟩ (.slice none 0 0) = W9 at *
  have d0 := hrow.c0
  have d1 := hrow.c1
  have d2 := hrow.c2
  have d3 := hrow.c3
  have d4 := hrow.c4
  have d5 := hrow.c5
  refine bodyPost_ret (v := .tuple #[NdVal .zero (.slice none 0 0), .bool false]) (by simp [results, Tryz.results10, go_sem, d0, d1, d2, d3, d4, d5, NdVal]) rfl ?_
  exact ⟨rfl, hbel⟩

set_option maxRecDepth 10000 in
set_option maxHeartbeats 800000 in
theorem arget_any (g b : Nat) (l : List (Nat × Nd)) (x : Nat) (w : World) (h : ArAt w g b l) (hx : x < 18446744073709551616) :
    Calls Tryz.prog 10 #[.pointer (some ⟨g, 0, none⟩), .int .u64 x] w fun e w' => ∃ v', e = .returned (.tuple #[v', .bool (getA l x).isSome]) ∧ OwnNd w.heap.size w' v' (atN l x) ∧ Below w.heap.size w w' := by
  have H := Lib.hid h
  obtain ⟨nd, hnd⟩ : ∃ n, n = atN l x := ⟨_, rfl⟩
  rw [← hnd]
  have HND := Lib.hid hnd
  obtain ⟨bo, hbo⟩ : ∃ n, n = (getA l x).isSome := ⟨_, rfl⟩
  rw [← hbo]
  have HBO := Lib.hid hbo
  clear h hnd hbo
  go_enter Tryz.func10, Tryz.ntmps10
  go_upto_region 3 with fail
  have hb0 := bal (bre w) (.cells #[.int .u8 0, .string ⟨#[]⟩, .int .i64 0, .int .u8 0, .int .u64 0, .slice none 0 0] 37)
  have hr1 := heap_alloc_new w (.cells #[.int .u8 0, .string ⟨#[]⟩, .int .i64 0, .int .u8 0, .int .u64 0, .slice none 0 0] 37)
  generalize w.alloc (.cells #[.int .u8 0, .string ⟨#[]⟩, .int .i64 0, .int .u8 0, .int .u64 0, .slice none 0 0] 37) = W at *
  obtain ⟨n4, hn4⟩ : ∃ n, n = w.heap.size := ⟨_, rfl⟩
  rw [← hn4] at hr1 ⊢
  have hR : Row6 W n4 .zero (.slice none 0 0) := hr1
  have HR := Lib.hid hR
  have HB := Lib.hid hb0
  have HA := Lib.hid (H.out.below hb0)
  have HN : Hid (w.heap.size ≤ n4) := Lib.hid (by omega)
  obtain ⟨kv, r1, -, hk, ok⟩ := HA.out.look x hx
  obtain ⟨ka, kc, rfl⟩ := hk.slice
  have HK := Lib.hid hk
  have HOK := Lib.hid ok
  rw [← HND.out, ← HBO.out] at r1
  rw [← HND.out] at HK HOK
  obtain ⟨L, hL⟩ : ∃ L, L = nd.kids.length := ⟨_, rfl⟩
  rw [← hL] at r1 HK
  have HL := Lib.hid hL
  unfold NdVal at r1
  have c0 := HA.out.c0
  clear hb0 hr1 hR hn4 hk ok hL H
  go_upto_region 4 with fail
  have hb1 := bal (bre W) (.cells #[.int .u8 nd.kind, .string nd.name, .int .i64 nd.num, .int .u8 nd.typ, .int .u64 nd.ref, .slice ka L kc] 37)
  have hr1 := heap_alloc_new W (.cells #[.int .u8 nd.kind, .string nd.name, .int .i64 nd.num, .int .u8 nd.typ, .int .u64 nd.ref, .slice ka L kc] 37)
  generalize W.alloc (.cells #[.int .u8 nd.kind, .string nd.name, .int .i64 nd.num, .int .u8 nd.typ, .int .u64 nd.ref, .slice ka L kc] 37) = W1 at *
  obtain ⟨n6, hn6⟩ : ∃ n, n = W.heap.size := ⟨_, rfl⟩
  rw [← hn6] at hr1 ⊢
  have hR1 : Row6 W1 n6 nd (.slice ka L kc) := hr1
  have y0 := hR1.c0
  have y1 := hR1.c1
  have y2 := hR1.c2
  have y3 := hR1.c3
  have y4 := hR1.c4
  have y5 := hR1.c5
  have HR1 := Lib.hid (HR.out.below hb1)
  have HB1 := Lib.hid (btr HB.out hb1)
  have HK1 := Lib.hid (HK.out.below hb1)
  clear hb1 hr1 hR1 hn6 r1 c0 HK HR HA HB
  go_wp2_with fail
  refine (whole_any _ nd W1 ⟨.slice ka L kc, rfl, HK1.out.ids, HOK.out⟩).mono ?_
  rintro e W2 ⟨v2, rfl, ho2, hb2⟩
  obtain ⟨kv2, rfl, hk2, -⟩ := id ho2
  obtain ⟨ka2, kc2, rfl⟩ := hk2.slice
  have HO2 := Lib.hid hk2
  have HR2 := Lib.hid (HR1.out.below hb2)
  have HB2 := Lib.hid (btr HB1.out hb2)
  have HS := Lib.hid (Nat.le_trans HB1.out.size (Nat.le_refl _))
  have hr2 := HR2.out
  have p0 := hr2.c0
  have p1 := hr2.c1
  have p2 := hr2.c2
  have p3 := hr2.c3
  have p4 := hr2.c4
  have p5 := hr2.c5
  have pf := hr2.fz
  unfold NdVal
  clear ho2 hk2 hb2 hr2 y0 y1 y2 y3 y4 y5 HR1 HB1 HK1
  go_wp2_with fail
  have hrow := HR2.out.put nd (.slice ka2 nd.kids.length kc2)
  have hbel := put6_below HB2.out HN.out nd (.slice ka2 nd.kids.length kc2)
  have hown := HO2.out.only (put6_only W2 n4 nd (.slice ka2 nd.kids.length kc2)) (fun k hk cs fr e => by cases hk; rw [HR2.out] at e; cases e)
  generalize (((((W2.setCell ⟨n4, 0, none⟩ (.int .u8 nd.kind)).setCell ⟨n4, 1, none⟩ (.string nd.name)).setCell ⟨n4, 2, none⟩ (.int .i64 nd.num)).setCell ⟨n4, 3, none⟩ (.int .u8 nd.typ)).setCell ⟨n4, 4, none⟩ (.int .u64 nd.ref)).setCell ⟨n4, 5, none⟩ (.slice ka2 nd.kids.length kc2) = W9 at *
  have d0 := hrow.c0
  have d1 := hrow.c1
  have d2 := hrow.c2
  have d3 := hrow.c3
  have d4 := hrow.c4
  have d5 := hrow.c5
  refine bodyPost_ret (v := .tuple #[NdVal nd (.slice ka2 nd.kids.length kc2), .bool bo]) (by simp [results, Tryz.results10, go_sem, d0, d1, d2, d3, d4, d5, NdVal]) rfl ?_
  exact ⟨_, rfl, ⟨_, rfl, hown.base HS.out, HOK.out⟩, hbel⟩
end Go.Proofs.YtljdphpbalioaaaGreatDoor
/- Walk: Put. -/
namespace Go.Proofs.YtljdphpbalioaaaGreatDoor
open Go.RowKit

set_option maxRecDepth 10000 in
set_option maxHeartbeats 800000 in
theorem arput_nil (x : Nat) (v : Value) (n : Nd) (w : World) (hv : NdAt w v n) :
    Calls Tryz.prog 30 #[.pointer none, .int .u64 x, v] w fun e w' => e = .returned (.int .i64 3) ∧ Below w.heap.size w w' := by
  obtain ⟨kv, rfl, -, -⟩ := hv
  unfold NdVal
  go_enter Tryz.func30, Tryz.ntmps30
  go_wp2_with fail
  go_ret
  exact ⟨rfl, bal (bre w) _⟩

set_option maxRecDepth 10000 in
set_option maxHeartbeats 1600000 in
theorem arput_zero (g b : Nat) (l : List (Nat × Nd)) (v : Value) (n : Nd) (w : World) (h : ArAt w g b l) (hv : NdAt w v n) :
    Calls Tryz.prog 30 #[.pointer (some ⟨g, 0, none⟩), .int .u64 0, v] w fun e w' => e = .returned (.int .i64 1) ∧ Below w.heap.size w w' := by
  obtain ⟨kv, rfl, hk, ok⟩ := hv
  obtain ⟨ka, kc, rfl, -⟩ := id hk
  have H := Lib.hid h
  unfold NdVal
  clear h hk ok
  go_enter Tryz.func30, Tryz.ntmps30
  go_upto_region 3 with fail
  have hb0 := bal (bre w) (.cells #[.int .u8 n.kind, .string n.name, .int .i64 n.num, .int .u8 n.typ, .int .u64 n.ref, .slice ka n.kids.length kc] 37)
  generalize w.alloc (.cells #[.int .u8 n.kind, .string n.name, .int .i64 n.num, .int .u8 n.typ, .int .u64 n.ref, .slice ka n.kids.length kc] 37) = W at *
  have HA := H.out.below hb0
  obtain ⟨kv, r1, -, hk, ok⟩ := HA.look 0 (by decide)
  obtain ⟨ka2, kc2, rfl⟩ := hk.slice
  unfold NdVal at r1
  have c0 := HA.c0
  have r1' : (Instr.lookup 59 (.map (some b)) (.int .u64 0) true).run Tryz.prog W = _ := r1
  have HB := Lib.hid hb0
  clear hk ok H HA hb0 r1
  go_wp2_with fail
  go_ret
  exact ⟨rfl, bal HB.out _⟩

set_option maxRecDepth 10000 in
set_option maxHeartbeats 1600000 in
theorem arput_ok (g b : Nat) (l : List (Nat × Nd)) (x : Nat) (v : Value) (n : Nd) (w : World) (h : ArAt w g b l) (hv : NdAt w v n) (hx : x < 18446744073709551616) (hx0 : x ≠ 0) (hroom : (getA l x).isSome = true ∨ l.length < 20000) :
    Calls Tryz.prog 30 #[.pointer (some ⟨g, 0, none⟩), .int .u64 x, v] w fun e w' => e = .returned (.int .i64 0) ∧ ArAt w' g b (putA l x n) ∧ Only w w' (fun q => q = b) := by
  obtain ⟨kv, rfl, hkk, okk⟩ := hv
  obtain ⟨ka, kc, rfl, -⟩ := id hkk
  have HKK := Lib.hid hkk
  have HOK := Lib.hid okk
  have H := Lib.hid h
  have hlen : (putA l x n).length ≤ 20000 := by
    unfold putA
    rw [length_insA]
    cases hg : getA l x with
    | none =>
      rw [delA_not l x hg]
      rcases hroom with hr | hr
      · rw [hg] at hr; cases hr
      · omega
    | some y =>
      have := length_del_some h.asc hg
      have := h.few
      omega
  have HLEN := Lib.hid hlen
  obtain ⟨bo, hbo⟩ : ∃ q, q = (getA l x).isSome := ⟨_, rfl⟩
  have HBO := Lib.hid hbo
  obtain ⟨L, hL⟩ : ∃ q, q = l.length := ⟨_, rfl⟩
  have HL := Lib.hid hL
  rw [← hbo, ← hL] at hroom
  have HROOM := Lib.hid hroom
  obtain ⟨KL, hK⟩ : ∃ q, q = n.kids.length := ⟨_, rfl⟩
  rw [← hK] at HKK
  unfold NdVal
  rw [← hK]
  have q1 : ((x : Int) == 0) = false := beq_false_of_ne (by omega)
  have q2 : decide ((x : Int) = 0) = false := decide_eq_false (by omega)
  have HX0 := Lib.hid hx0
  clear h hkk okk hlen hbo hL hroom hK hx0
  go_enter Tryz.func30, Tryz.ntmps30
  go_upto_region 3 with fail
  have hb0 := bal (bre w) (.cells #[.int .u8 n.kind, .string n.name, .int .i64 n.num, .int .u8 n.typ, .int .u64 n.ref, .slice ka KL kc] 37)
  have hr0 := heap_alloc_new w (.cells #[.int .u8 n.kind, .string n.name, .int .i64 n.num, .int .u8 n.typ, .int .u64 n.ref, .slice ka KL kc] 37)
  generalize w.alloc (.cells #[.int .u8 n.kind, .string n.name, .int .i64 n.num, .int .u8 n.typ, .int .u64 n.ref, .slice ka KL kc] 37) = W at *
  obtain ⟨n5, hn5⟩ : ∃ n, n = w.heap.size := ⟨_, rfl⟩
  rw [← hn5] at hr0 ⊢
  have hR5 : Row6 W n5 n (.slice ka KL kc) := hr0
  have HR5 := Lib.hid hR5
  have HA := Lib.hid (H.out.below hb0)
  obtain ⟨kv2, r1, -, hk2, -⟩ := HA.out.look x hx
  obtain ⟨ka2, kc2, rfl⟩ := hk2.slice
  obtain ⟨n2, hn2⟩ : ∃ q, q = atN l x := ⟨_, rfl⟩
  rw [← hn2, ← HBO.out] at r1
  unfold NdVal at r1
  have c0 := HA.out.c0
  have HB := Lib.hid hb0
  have HKW := Lib.hid (HKK.out.below hb0)
  have hlen := fun ty => HA.out.len ty
  rw [← HL.out] at hlen
  clear hb0 hr0 hR5 hk2 hn2 hn5 H HKK
  go_upto_block 0 with fail
  have hb1 := bal (bre W) (.cells #[.int .u8 n2.kind, .string n2.name, .int .i64 n2.num, .int .u8 n2.typ, .int .u64 n2.ref, .slice ka2 n2.kids.length kc2] 37)
  generalize W.alloc (.cells #[.int .u8 n2.kind, .string n2.name, .int .i64 n2.num, .int .u8 n2.typ, .int .u64 n2.ref, .slice ka2 n2.kids.length kc2] 37) = W1 at *
  have HA1 := Lib.hid (HA.out.below hb1)
  have HR1 := Lib.hid (HR5.out.below hb1)
  have HB1 := Lib.hid (btr HB.out hb1)
  have HK1 := Lib.hid (HKW.out.below hb1)
  have hlen := fun ty => HA1.out.len ty
  rw [← HL.out] at hlen
  have c0 := HA1.out.c0
  clear hb1 r1 HA HR5 HB HKW
  go_cut [20, 23] from 21 to 33 (fun _ _ w' => w' = W1)
  case first =>
    cases bo with
    | true =>
      go_wp2_with fail
      go_meet
      case rel => rfl
    | false =>
      have d1 : decide ((20000 : Int) ≤ (L : Int)) = false := decide_eq_false (by rcases HROOM.out with h | h; cases h; omega)
      have d1n : decide (20000 ≤ L) = false := decide_eq_false (by rcases HROOM.out with h | h; cases h; omega)
      go_wp2_with fail
      go_meet
      case rel => rfl
  case rest =>
  rename World => wc
  have hwc' := hcut.symm
  subst hwc'
  clear hcut
  go_upto_region 8 with fail
  have HSB : Hid (∀ w', Below W1.heap.size W1 w' → (w'.cell? ⟨g, 0, none⟩ = some (.map (some b)) ∧ w'.cell? ⟨n5, 0, none⟩ = some (.int .u8 n.kind) ∧ w'.cell? ⟨n5, 1, none⟩ = some (.string n.name) ∧ w'.cell? ⟨n5, 2, none⟩ = some (.int .i64 n.num) ∧ w'.cell? ⟨n5, 3, none⟩ = some (.int .u8 n.typ) ∧ w'.cell? ⟨n5, 4, none⟩ = some (.int .u64 n.ref) ∧ w'.cell? ⟨n5, 5, none⟩ = some (.slice ka KL kc))) := Lib.hid (fun w' hb => ⟨(HA1.out.below hb).c0, (HR1.out.below hb).c0, (HR1.out.below hb).c1, (HR1.out.below hb).c2, (HR1.out.below hb).c3, (HR1.out.below hb).c4, (HR1.out.below hb).c5⟩)
  refine region_anyZ (z := 7) (S := fun w' => (w'.cell? ⟨g, 0, none⟩ = some (.map (some b)) ∧ w'.cell? ⟨n5, 0, none⟩ = some (.int .u8 n.kind) ∧ w'.cell? ⟨n5, 1, none⟩ = some (.string n.name) ∧ w'.cell? ⟨n5, 2, none⟩ = some (.int .i64 n.num) ∧ w'.cell? ⟨n5, 3, none⟩ = some (.int .u8 n.typ) ∧ w'.cell? ⟨n5, 4, none⟩ = some (.int .u64 n.ref) ∧ w'.cell? ⟨n5, 5, none⟩ = some (.slice ka KL kc))) (by kernel_rfl) ?_
  refine anyZ_begin (fun hcl0 => ?_)
  refine anyZ_held (by exact HSB.out _ (bdr (bre W1))) (fun hHeld => ?_)
  -- 0: Op.move (Operand.tmp 0)
  refine' anyZ_pure (i := 0) (v := _) rfl (by rfl) (by kernel_rfl) (by kernel_rfl) (by kernel_rfl) hcl0 (fun _ _ _ h => h) (Or.inl ⟨by rfl, fun w _ => ?hz1⟩) (fun _ => hHeld) (fun hcl1 => ?rz1)
  case hz1 => (simp only [List.getElem_toArray, List.getElem_cons_zero]; first | (go_simp; with_reducible rfl) | (go_simp; done) | rfl)
  simp only [List.getElem_toArray, List.getElem_cons_zero, Act.put, List.setIfInBounds_toArray, List.set_cons_zero, List.set_cons_succ]
  -- 1: Op.nilCheck (Operand.tmp 34)
  refine' anyZ_pure (i := 1) (v := _) rfl (by rfl) (by kernel_rfl) (by kernel_rfl) (by kernel_rfl) hcl1 (fun _ _ _ h => h) (Or.inl ⟨by rfl, fun w _ => ?hz2⟩) (fun _ => hHeld) (fun hcl2 => ?rz2)
  case hz2 => (simp only [List.getElem_toArray, List.getElem_cons_succ, List.getElem_cons_zero]; first | (go_simp; with_reducible rfl) | (go_simp; done) | rfl)
  simp only [List.getElem_toArray, List.getElem_cons_succ, List.getElem_cons_zero, Act.put, List.setIfInBounds_toArray, List.set_cons_zero, List.set_cons_succ]
  -- 2: Op.fieldAddr 70 (Operand.tmp 35) 0
  refine' anyZ_pure (i := 2) (v := _) rfl (by rfl) (by kernel_rfl) (by kernel_rfl) (by kernel_rfl) hcl2 (fun _ _ _ h => h) (Or.inl ⟨by rfl, fun w _ => ?hz3⟩) (fun _ => hHeld) (fun hcl3 => ?rz3)
  case hz3 => (simp only [List.getElem_toArray, List.getElem_cons_succ, List.getElem_cons_zero]; first | (go_simp; with_reducible rfl) | (go_simp; done) | rfl)
  simp only [List.getElem_toArray, List.getElem_cons_succ, List.getElem_cons_zero, Act.put, List.setIfInBounds_toArray, List.set_cons_zero, List.set_cons_succ]
  -- 3: Op.load 68 (Operand.tmp 36)
  refine' anyZ_take (i := 3) (v := _) rfl (by rfl) (by kernel_rfl) (by kernel_rfl) (by kernel_rfl) hcl3 8 (by kernel_rfl) (by kernel_rfl) (fun _ _ _ h => h) (Or.inl ⟨by rfl, fun w hSw => ?hz4⟩) hHeld (fun hcl4 => ?rz4)
  case hz4 => (simp only [List.getElem_toArray, List.getElem_cons_succ, List.getElem_cons_zero]; obtain ⟨hS1, hS2, hS3, hS4, hS5, hS6, hS7⟩ := hSw; first | (go_simp; with_reducible rfl) | (go_simp; done) | rfl)
  simp only [List.getElem_toArray, List.getElem_cons_succ, List.getElem_cons_zero, Act.put, List.setIfInBounds_toArray, List.set_cons_zero, List.set_cons_succ]
  -- 4: Op.move (Operand.tmp 1)
  refine' anyZ_pure (i := 4) (v := _) rfl (by rfl) (by kernel_rfl) (by kernel_rfl) (by kernel_rfl) hcl4 (fun _ _ _ h => h) (Or.inl ⟨by rfl, fun w _ => ?hz5⟩) (fun _ => hHeld) (fun hcl5 => ?rz5)
  case hz5 => (simp only [List.getElem_toArray, List.getElem_cons_succ, List.getElem_cons_zero]; first | (go_simp; with_reducible rfl) | (go_simp; done) | rfl)
  simp only [List.getElem_toArray, List.getElem_cons_succ, List.getElem_cons_zero, Act.put, List.setIfInBounds_toArray, List.set_cons_zero, List.set_cons_succ]
  -- 5: Op.load 29 (Operand.tmp 5)
  refine' anyZ_take (i := 5) (v := _) rfl (by rfl) (by kernel_rfl) (by kernel_rfl) (by kernel_rfl) hcl5 8 (by kernel_rfl) (by kernel_rfl) (fun _ _ _ h => h) (Or.inl ⟨by rfl, fun w hSw => ?hz6⟩) hHeld (fun hcl6 => ?rz6)
  case hz6 => (simp only [List.getElem_toArray, List.getElem_cons_succ, List.getElem_cons_zero]; obtain ⟨hS1, hS2, hS3, hS4, hS5, hS6, hS7⟩ := hSw; first | (go_simp; with_reducible rfl) | (go_simp; done) | rfl)
  simp only [List.getElem_toArray, List.getElem_cons_succ, List.getElem_cons_zero, Act.put, List.setIfInBounds_toArray, List.set_cons_zero, List.set_cons_succ]
  -- 6: Op.call { callee := Callee.value (Operand.func 27), args := 
  refine anyZ_one (i := 6) hcl6 (by kernel_rfl) (by simp only [List.getElem?_toArray, List.getElem?_cons_succ, List.getElem?_cons_zero]; rfl) (by rfl) (fun hcl7 K hK => ?_)
  go_simp
  refine (whole_any _ n W1.drew ⟨.slice ka KL kc, rfl, HK1.out.below (bdr (bre W1)), HOK.out⟩).mono ?_
  rintro e W3 ⟨v3, rfl, ho3, hb3⟩
  have hb3' := btr (bdr (bre W1)) hb3
  have HO3 := Lib.hid (ho3.base (Nat.zero_le _))
  have HA3 := Lib.hid (HA1.out.below hb3')
  have HB3 := Lib.hid (btr HB1.out hb3')
  have HX3 := Lib.hid hb3'
  clear ho3 hb3 hb3'
  refine hK _ _ (fun _ => ?_) ?_
  · exact HSB.out _ HX3.out
  clear hK K hHeld
  try simp only [Act.put, List.setIfInBounds_toArray, List.set_cons_zero, List.set_cons_succ]
  refine anyZ_chain_at (by kernel_rfl) ?_
  simp only [List.drop_succ_cons, List.drop_zero]
  obtain ⟨W4, hrun, ha4, ho4, hs4⟩ := HA3.out.store x hx HX0.out v3 n HO3.out HLEN.out
  have HA4 := Lib.hid ha4
  have HO4 := Lib.hid (((Only.of_below HB3.out (fun q => q = b)).trans ho4 fun _ _ h => h))
  clear ha4 ho4 hs4
  go_wp2_with fail
  go_ret
  exact ⟨rfl, HA4.out, HO4.out⟩
end Go.Proofs.YtljdphpbalioaaaGreatDoor
