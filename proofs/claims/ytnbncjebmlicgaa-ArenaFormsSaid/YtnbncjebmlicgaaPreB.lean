/- Merged: Ar ArGet ArPut ArRange ArParent ArAbove ArTreeP. -/
import Derived.Test.YtnbncjebmlicgaaPreA
import Derived.Carry
import Derived.Maps.RangeWalk
/- An arena in memory: New, Root, Len, Get, Put. -/
namespace Go.Proofs.Ytnbncjebmlicgaa
open Go.RowKit

/-- the arena at g, whose map lies at b, has just these nodes -/
structure ArAt (w : World) (g b : Nat) (l : List (Nat × Nd)) : Prop where
  box : w.heap[g]? = some (.cells #[.map (some b)] 70 (0, 0))
  ex : ∃ vl, MapU Try.prog 26 w b vl ∧ StepA (fun v n => OwnNd 0 w v n) vl l
  nz : ∀ p ∈ l, p.1 ≠ 0
  few : l.length ≤ 20000

theorem MapU.isMap {P : Program} {k : TypeId} {w : World} {b : Nat} {l : List (Nat × Value)} (h : MapU P k w b l) : ∃ es c, w.heap[b]? = some (.map es c) := by
  obtain ⟨es, c, hb, -⟩ := h.1
  exact ⟨es, c, hb⟩
theorem ArAt.lt {w : World} {g b : Nat} {l : List (Nat × Nd)} (h : ArAt w g b l) : g < w.heap.size ∧ b < w.heap.size := by
  obtain ⟨vl, h1, -⟩ := h.ex
  exact ⟨(Array.getElem?_eq_some_iff.1 h.box).1, h1.lt⟩
theorem ArAt.c0 {w : World} {g b : Nat} {l : List (Nat × Nd)} (h : ArAt w g b l) : w.cell? ⟨g, 0, none⟩ = some (.map (some b)) := cell_of_row w g 0 _ _ _ h.box
theorem ArAt.asc {w : World} {g b : Nat} {l : List (Nat × Nd)} (h : ArAt w g b l) : AscA l := by
  obtain ⟨vl, h1, h2⟩ := h.ex
  exact h2.asc h1.2
theorem ArAt.only {w w' : World} {g b : Nat} {l : List (Nat × Nd)} {S : Nat → Prop} (h : ArAt w g b l) (ho : Only w w' S) (hg : ¬ S g) (hb : ¬ S b) (hs : ∀ k, S k → ∀ cs fr, w.heap[k]? ≠ some (.cells cs 26 fr)) : ArAt w' g b l := by
  obtain ⟨vl, h1, h2⟩ := h.ex
  exact ⟨(ho.block g h.lt.1 hg).trans h.box, ⟨vl, h1.only ho hb, h2.mono fun v n hn => hn.only ho hs⟩, h.nz, h.few⟩
theorem ArAt.below {w w' : World} {g b : Nat} {l : List (Nat × Nd)} (h : ArAt w g b l) (hb : Below w.heap.size w w') : ArAt w' g b l := h.only (Only.of_below hb fun _ => False) (fun h => h) (fun h => h) fun _ h => h.elim

/-- what is there at an ID -/
def atN (l : List (Nat × Nd)) (x : Nat) : Nd := (getA l x).getD .zero

/-- the look-up -/
theorem ArAt.look {w : World} {g b : Nat} {l : List (Nat × Nd)} (h : ArAt w g b l) (x : Nat) (hx : x < 18446744073709551616) :
    ∃ kv, (Instr.lookup 68 (.map (some b)) (.int .u64 x) true).run Try.prog w = .ok (.tuple #[NdVal (atN l x) kv, .bool (getA l x).isSome]) w ∧
      (Instr.lookup 68 (.map (some b)) (.int .u64 x) false).run Try.prog w = .ok (NdVal (atN l x) kv) w ∧ OwnIds 0 w kv (atN l x).kids ∧ (atN l x).Ok := by
  obtain ⟨vl, h1, h2⟩ := h.ex
  have e1 := h1.look (t := 68) Try.underlying26 Try.underlying68 (zeroNd w) x hx
  have e2 := h1.look1 (t := 68) Try.underlying26 Try.underlying68 (zeroNd w) x hx
  unfold atN
  rcases h2.get x with ⟨g1, g2⟩ | ⟨v, n, g1, g2, kv, rfl, hk, ok⟩
  · rw [g1] at e1 e2
    rw [g2]
    exact ⟨_, e1, e2, OwnIds.nil _ _, Nd.zero_ok⟩
  · rw [g1] at e1 e2
    rw [g2]
    exact ⟨kv, e1, e2, hk, ok⟩
theorem ArAt.len {w : World} {g b : Nat} {l : List (Nat × Nd)} (h : ArAt w g b l) (ty : TypeId) : (Builtin.len_ #[68] ty #[.map (some b)]).run Try.prog w = .ok (.int .i64 l.length) w := by
  obtain ⟨vl, h1, h2⟩ := h.ex
  have := h1.len (t := 68) Try.underlying68 ty
  rwa [h2.length] at this
/-- the store -/
theorem ArAt.store {w : World} {g b : Nat} {l : List (Nat × Nd)} (h : ArAt w g b l) (x : Nat) (hx : x < 18446744073709551616) (h0 : x ≠ 0) (v : Value) (n : Nd) (hv : OwnNd 0 w v n) (hl : (putA l x n).length ≤ 20000) :
    ∃ w', (Instr.mapUpdate 68 (.map (some b)) (.int .u64 x) v).run Try.prog w = .ok () w' ∧ ArAt w' g b (putA l x n) ∧ Only w w' (fun q => q = b) ∧ w'.heap.size = w.heap.size := by
  obtain ⟨vl, h1, h2⟩ := h.ex
  have hlen := h2.length
  obtain ⟨w', hrun, g1, g2, g3⟩ := h1.store (t := 68) Try.underlying26 Try.underlying68 x hx v (by have := h.few; unfold maxLen; omega)
  obtain ⟨es, c, hbm⟩ := h1.isMap
  have hs : ∀ k, k = b → ∀ cs fr, w.heap[k]? ≠ some (.cells cs 26 fr) := fun k hk cs fr e => by subst hk; rw [hbm] at e; cases e
  refine ⟨w', hrun, ⟨(g2.block g h.lt.1 (fun e => by subst e; rw [h.box] at hbm; cases hbm)).trans h.box, ⟨_, g1, (h2.put x hv).mono fun v n hn => hn.only g2 hs⟩, fun p hp => ?_, hl⟩, g2, g3⟩
  rcases mem_insA.1 hp with rfl | hp
  · exact h0
  · exact h.nz p (List.mem_filter.1 hp).1

def Nd.prog : Nd := ⟨1, ⟨#[]⟩, 0, 0, 0, []⟩
theorem Nd.prog_ok : Nd.prog.Ok := ⟨by decide, by decide, by decide, by decide, Nat.zero_le _, Nat.zero_le _, fun x hx => by cases hx⟩

set_option maxRecDepth 10000 in
set_option maxHeartbeats 800000 in
theorem arnew_any (w : World) :
    Calls Try.prog 9 #[] w fun e w' => ∃ g b, e = .returned (.pointer (some ⟨g, 0, none⟩)) ∧ ArAt w' g b [(1, .prog)] ∧ w.heap.size ≤ g ∧ w.heap.size ≤ b ∧ Below w.heap.size w w' := by
  have hmm := @run_makeMap Try.prog
  obtain ⟨w1, hrun, h1, h2, h3⟩ := (MapU.new (P := Try.prog) (k := 26) w).store (t := 68) Try.underlying26 Try.underlying68 1 (by decide) (NdVal .prog (.slice none 0 0)) (by decide)
  have hb0 := bal (bre w) (.map #[] 0)
  have hb1 : Below w.heap.size w w1 := hb0.trans (h2.below w.heap.size hb0.size fun i hi e => by omega)
  have hrun' : (Instr.mapUpdate 68 (.map (some w.heap.size)) (.int .u64 1) (.agg #[.int .u8 1, .string ⟨#[]⟩, .int .i64 0, .int .u8 0, .int .u64 0, .slice none 0 0])).run Try.prog (w.alloc (.map #[] 0)) = .ok () w1 := hrun
  have H1 := Lib.hid h1
  have HB1 := Lib.hid hb1
  clear hrun h1 h2 h3 hb0 hb1
  go_enter Try.func9, Try.ntmps9
  go_wp2_with fail
  go_ret
  have hbx := bal (bre w1) (.cells #[.map (some w.heap.size)] 70)
  have hn := heap_alloc_new w1 (.cells #[.map (some w.heap.size)] 70)
  refine ⟨_, w.heap.size, rfl, ⟨hn, ⟨_, H1.out.below hbx, .cons ⟨rfl, ⟨_, rfl, OwnIds.nil _ _, Nd.prog_ok⟩⟩ .nil⟩, fun p hp => ?_, ?_⟩, HB1.out.size, Nat.le_refl _, btr HB1.out hbx⟩
  · simp at hp; subst hp; exact Nat.one_ne_zero
  · simp

set_option maxRecDepth 10000 in
theorem arroot_any (g : Nat) (w : World) : Calls Try.prog 29 #[.pointer (some ⟨g, 0, none⟩)] w fun e w' => e = .returned (.int .u64 1) ∧ w' = w := by
  go_enter Try.func29, Try.ntmps29
  go_wp2
  go_ret
  exact ⟨rfl, rfl⟩
set_option maxRecDepth 10000 in
theorem arroot_nil (w : World) : Calls Try.prog 29 #[.pointer none] w fun e w' => e = .returned (.int .u64 0) ∧ w' = w := by
  go_enter Try.func29, Try.ntmps29
  go_wp2
  go_ret
  exact ⟨rfl, rfl⟩

set_option maxRecDepth 10000 in
theorem arlen_any (g b : Nat) (l : List (Nat × Nd)) (w : World) (h : ArAt w g b l) : Calls Try.prog 24 #[.pointer (some ⟨g, 0, none⟩)] w fun e w' => e = .returned (.int .i64 l.length) ∧ w' = w := by
  have c0 := h.c0
  have hlen := fun ty => h.len ty
  clear h
  go_enter Try.func24, Try.ntmps24
  go_wp2_with fail
  go_ret
  exact ⟨rfl, rfl⟩
set_option maxRecDepth 10000 in
theorem arlen_nil (w : World) : Calls Try.prog 24 #[.pointer none] w fun e w' => e = .returned (.int .i64 0) ∧ w' = w := by
  go_enter Try.func24, Try.ntmps24
  go_wp2
  go_ret
  exact ⟨rfl, rfl⟩
end Go.Proofs.Ytnbncjebmlicgaa
/- Walk: Get, Put. -/
namespace Go.Proofs.Ytnbncjebmlicgaa
open Go.RowKit

set_option maxRecDepth 10000 in
set_option maxHeartbeats 800000 in
theorem arget_nil (x : Nat) (w : World) :
    Calls Try.prog 20 #[.pointer none, .int .u64 x] w fun e w' => e = .returned (.tuple #[NdVal .zero (.slice none 0 0), .bool false]) ∧ Below w.heap.size w w' := by
  go_enter Try.func20, Try.ntmps20
  go_upto_region 2 with fail
  have hb0 := bal (bre w) (.cells #[.int .u8 0, .string ⟨#[]⟩, .int .i64 0, .int .u8 0, .int .u64 0, .slice none 0 0] 29)
  have hr1 := heap_alloc_new w (.cells #[.int .u8 0, .string ⟨#[]⟩, .int .i64 0, .int .u8 0, .int .u64 0, .slice none 0 0] 29)
  generalize w.alloc (.cells #[.int .u8 0, .string ⟨#[]⟩, .int .i64 0, .int .u8 0, .int .u64 0, .slice none 0 0] 29) = W at *
  obtain ⟨n4, hn4⟩ : ∃ n, n = w.heap.size := ⟨_, rfl⟩
  rw [← hn4] at hr1 ⊢
  have hR : Row6 W n4 .zero (.slice none 0 0) := hr1
  have HR := Lib.hid hR
  have HB := Lib.hid hb0
  have HN : Hid (w.heap.size ≤ n4) := Lib.hid (by omega)
  have p0 := hR.c0
  have p1 := hR.c1
  have p2 := hR.c2
  have p3 := hR.c3
  have p4 := hR.c4
  have p5 := hR.c5
  have pf := hR.fz
  clear hb0 hr1 hR hn4
  go_wp2_with fail
  have hrow := HR.out.put .zero (.slice none 0 0)
  have hbel := put6_below HB.out HN.out .zero (.slice none 0 0)
  have e9 : ((((((W.setCell ⟨n4, 0, none⟩ (.int .u8 (Nd.zero.kind : Int))).setCell ⟨n4, 1, none⟩ (.string Nd.zero.name)).setCell ⟨n4, 2, none⟩ (.int .i64 Nd.zero.num)).setCell ⟨n4, 3, none⟩ (.int .u8 (Nd.zero.typ : Int))).setCell ⟨n4, 4, none⟩ (.int .u64 (Nd.zero.ref : Int))).setCell ⟨n4, 5, none⟩ (.slice none 0 0)) = (((((W.setCell ⟨n4, 0, none⟩ (.int .u8 0)).setCell ⟨n4, 1, none⟩ (.string ⟨#[]⟩)).setCell ⟨n4, 2, none⟩ (.int .i64 0)).setCell ⟨n4, 3, none⟩ (.int .u8 0)).setCell ⟨n4, 4, none⟩ (.int .u64 0)).setCell ⟨n4, 5, none⟩ (.slice none 0 0) := rfl
  rw [e9] at hrow hbel
  clear e9
  generalize (((((W.setCell ⟨n4, 0, none⟩ (.int .u8 0)).setCell ⟨n4, 1, none⟩ (.string ⟨#[]⟩)).setCell ⟨n4, 2, none⟩ (.int .i64 0)).setCell ⟨n4, 3, none⟩ (.int .u8 0)).setCell ⟨n4, 4, none⟩ (.int .u64 0)).setCell ⟨n4, 5, none⟩ (.slice none 0 0) = W9 at *
  have d0 := hrow.c0
  have d1 := hrow.c1
  have d2 := hrow.c2
  have d3 := hrow.c3
  have d4 := hrow.c4
  have d5 := hrow.c5
  refine bodyPost_ret (v := .tuple #[NdVal .zero (.slice none 0 0), .bool false]) (by simp [results, Try.results20, go_sem, d0, d1, d2, d3, d4, d5, NdVal]) rfl ?_
  exact ⟨rfl, hbel⟩

set_option maxRecDepth 10000 in
set_option maxHeartbeats 800000 in
theorem arget_any (g b : Nat) (l : List (Nat × Nd)) (x : Nat) (w : World) (h : ArAt w g b l) (hx : x < 18446744073709551616) :
    Calls Try.prog 20 #[.pointer (some ⟨g, 0, none⟩), .int .u64 x] w fun e w' => ∃ v', e = .returned (.tuple #[v', .bool (getA l x).isSome]) ∧ OwnNd w.heap.size w' v' (atN l x) ∧ Below w.heap.size w w' := by
  have H := Lib.hid h
  obtain ⟨nd, hnd⟩ : ∃ n, n = atN l x := ⟨_, rfl⟩
  rw [← hnd]
  have HND := Lib.hid hnd
  obtain ⟨bo, hbo⟩ : ∃ n, n = (getA l x).isSome := ⟨_, rfl⟩
  rw [← hbo]
  have HBO := Lib.hid hbo
  clear h hnd hbo
  go_enter Try.func20, Try.ntmps20
  go_upto_region 3 with fail
  have hb0 := bal (bre w) (.cells #[.int .u8 0, .string ⟨#[]⟩, .int .i64 0, .int .u8 0, .int .u64 0, .slice none 0 0] 29)
  have hr1 := heap_alloc_new w (.cells #[.int .u8 0, .string ⟨#[]⟩, .int .i64 0, .int .u8 0, .int .u64 0, .slice none 0 0] 29)
  generalize w.alloc (.cells #[.int .u8 0, .string ⟨#[]⟩, .int .i64 0, .int .u8 0, .int .u64 0, .slice none 0 0] 29) = W at *
  obtain ⟨n4, hn4⟩ : ∃ n, n = w.heap.size := ⟨_, rfl⟩
  rw [← hn4] at hr1 ⊢
  have hR : Row6 W n4 .zero (.slice none 0 0) := hr1
  have HR := Lib.hid hR
  have HB := Lib.hid hb0
  have HA := Lib.hid (H.out.below hb0)
  have HN : Hid (w.heap.size ≤ n4) := Lib.hid (by omega)
  obtain ⟨kv, r1, -, hk, ok⟩ := HA.out.look x hx
  obtain ⟨ka, kc, rfl⟩ := hk.slice
  have HK := Lib.hid hk
  have HOK := Lib.hid ok
  rw [← HND.out, ← HBO.out] at r1
  rw [← HND.out] at HK HOK
  obtain ⟨L, hL⟩ : ∃ L, L = nd.kids.length := ⟨_, rfl⟩
  rw [← hL] at r1 HK
  have HL := Lib.hid hL
  unfold NdVal at r1
  have c0 := HA.out.c0
  clear hb0 hr1 hR hn4 hk ok hL H
  go_upto_region 4 with fail
  have hb1 := bal (bre W) (.cells #[.int .u8 nd.kind, .string nd.name, .int .i64 nd.num, .int .u8 nd.typ, .int .u64 nd.ref, .slice ka L kc] 29)
  have hr1 := heap_alloc_new W (.cells #[.int .u8 nd.kind, .string nd.name, .int .i64 nd.num, .int .u8 nd.typ, .int .u64 nd.ref, .slice ka L kc] 29)
  generalize W.alloc (.cells #[.int .u8 nd.kind, .string nd.name, .int .i64 nd.num, .int .u8 nd.typ, .int .u64 nd.ref, .slice ka L kc] 29) = W1 at *
  obtain ⟨n6, hn6⟩ : ∃ n, n = W.heap.size := ⟨_, rfl⟩
  rw [← hn6] at hr1 ⊢
  have hR1 : Row6 W1 n6 nd (.slice ka L kc) := hr1
  have y0 := hR1.c0
  have y1 := hR1.c1
  have y2 := hR1.c2
  have y3 := hR1.c3
  have y4 := hR1.c4
  have y5 := hR1.c5
  have HR1 := Lib.hid (HR.out.below hb1)
  have HB1 := Lib.hid (btr HB.out hb1)
  have HK1 := Lib.hid (HK.out.below hb1)
  clear hb1 hr1 hR1 hn6 r1 c0 HK HR HA HB
  go_wp2_with fail
  refine (whole_any _ nd W1 ⟨.slice ka L kc, rfl, HK1.out.ids, HOK.out⟩).mono ?_
  rintro e W2 ⟨v2, rfl, ho2, hb2⟩
  obtain ⟨kv2, rfl, hk2, -⟩ := id ho2
  obtain ⟨ka2, kc2, rfl⟩ := hk2.slice
  have HO2 := Lib.hid hk2
  have HR2 := Lib.hid (HR1.out.below hb2)
  have HB2 := Lib.hid (btr HB1.out hb2)
  have HS := Lib.hid (Nat.le_trans HB1.out.size (Nat.le_refl _))
  have hr2 := HR2.out
  have p0 := hr2.c0
  have p1 := hr2.c1
  have p2 := hr2.c2
  have p3 := hr2.c3
  have p4 := hr2.c4
  have p5 := hr2.c5
  have pf := hr2.fz
  unfold NdVal
  clear ho2 hk2 hb2 hr2 y0 y1 y2 y3 y4 y5 HR1 HB1 HK1
  go_wp2_with fail
  have hrow := HR2.out.put nd (.slice ka2 nd.kids.length kc2)
  have hbel := put6_below HB2.out HN.out nd (.slice ka2 nd.kids.length kc2)
  have hown := HO2.out.only (put6_only W2 n4 nd (.slice ka2 nd.kids.length kc2)) (fun k hk cs fr e => by cases hk; rw [HR2.out] at e; cases e)
  generalize (((((W2.setCell ⟨n4, 0, none⟩ (.int .u8 nd.kind)).setCell ⟨n4, 1, none⟩ (.string nd.name)).setCell ⟨n4, 2, none⟩ (.int .i64 nd.num)).setCell ⟨n4, 3, none⟩ (.int .u8 nd.typ)).setCell ⟨n4, 4, none⟩ (.int .u64 nd.ref)).setCell ⟨n4, 5, none⟩ (.slice ka2 nd.kids.length kc2) = W9 at *
  have d0 := hrow.c0
  have d1 := hrow.c1
  have d2 := hrow.c2
  have d3 := hrow.c3
  have d4 := hrow.c4
  have d5 := hrow.c5
  refine bodyPost_ret (v := .tuple #[NdVal nd (.slice ka2 nd.kids.length kc2), .bool bo]) (by simp [results, Try.results20, go_sem, d0, d1, d2, d3, d4, d5, NdVal]) rfl ?_
  exact ⟨_, rfl, ⟨_, rfl, hown.base HS.out, HOK.out⟩, hbel⟩
end Go.Proofs.Ytnbncjebmlicgaa
/- Walk: Put. -/
namespace Go.Proofs.Ytnbncjebmlicgaa
open Go.RowKit

set_option maxRecDepth 10000 in
set_option maxHeartbeats 800000 in
theorem arput_nil (x : Nat) (v : Value) (n : Nd) (w : World) (hv : NdAt w v n) :
    Calls Try.prog 10 #[.pointer none, .int .u64 x, v] w fun e w' => e = .returned (.int .i64 3) ∧ Below w.heap.size w w' := by
  obtain ⟨kv, rfl, -, -⟩ := hv
  unfold NdVal
  go_enter Try.func10, Try.ntmps10
  go_wp2_with fail
  go_ret
  exact ⟨rfl, bal (bre w) _⟩

set_option maxRecDepth 10000 in
set_option maxHeartbeats 1600000 in
theorem arput_zero (g b : Nat) (l : List (Nat × Nd)) (v : Value) (n : Nd) (w : World) (h : ArAt w g b l) (hv : NdAt w v n) :
    Calls Try.prog 10 #[.pointer (some ⟨g, 0, none⟩), .int .u64 0, v] w fun e w' => e = .returned (.int .i64 1) ∧ Below w.heap.size w w' := by
  obtain ⟨kv, rfl, hk, ok⟩ := hv
  obtain ⟨ka, kc, rfl, -⟩ := id hk
  have H := Lib.hid h
  unfold NdVal
  clear h hk ok
  go_enter Try.func10, Try.ntmps10
  go_upto_region 3 with fail
  have hb0 := bal (bre w) (.cells #[.int .u8 n.kind, .string n.name, .int .i64 n.num, .int .u8 n.typ, .int .u64 n.ref, .slice ka n.kids.length kc] 29)
  generalize w.alloc (.cells #[.int .u8 n.kind, .string n.name, .int .i64 n.num, .int .u8 n.typ, .int .u64 n.ref, .slice ka n.kids.length kc] 29) = W at *
  have HA := H.out.below hb0
  obtain ⟨kv, r1, -, hk, ok⟩ := HA.look 0 (by decide)
  obtain ⟨ka2, kc2, rfl⟩ := hk.slice
  unfold NdVal at r1
  have c0 := HA.c0
  have r1' : (Instr.lookup 68 (.map (some b)) (.int .u64 0) true).run Try.prog W = _ := r1
  have HB := Lib.hid hb0
  clear hk ok H HA hb0 r1
  go_wp2_with fail
  go_ret
  exact ⟨rfl, bal HB.out _⟩

set_option maxRecDepth 10000 in
set_option maxHeartbeats 1600000 in
theorem arput_ok (g b : Nat) (l : List (Nat × Nd)) (x : Nat) (v : Value) (n : Nd) (w : World) (h : ArAt w g b l) (hv : NdAt w v n) (hx : x < 18446744073709551616) (hx0 : x ≠ 0) (hroom : (getA l x).isSome = true ∨ l.length < 20000) :
    Calls Try.prog 10 #[.pointer (some ⟨g, 0, none⟩), .int .u64 x, v] w fun e w' => e = .returned (.int .i64 0) ∧ ArAt w' g b (putA l x n) ∧ Only w w' (fun q => q = b) := by
  obtain ⟨kv, rfl, hkk, okk⟩ := hv
  obtain ⟨ka, kc, rfl, -⟩ := id hkk
  have HKK := Lib.hid hkk
  have HOK := Lib.hid okk
  have H := Lib.hid h
  have hlen : (putA l x n).length ≤ 20000 := by
    unfold putA
    rw [length_insA]
    cases hg : getA l x with
    | none =>
      rw [delA_not l x hg]
      rcases hroom with hr | hr
      · rw [hg] at hr; cases hr
      · omega
    | some y =>
      have := length_del_some h.asc hg
      have := h.few
      omega
  have HLEN := Lib.hid hlen
  obtain ⟨bo, hbo⟩ : ∃ q, q = (getA l x).isSome := ⟨_, rfl⟩
  have HBO := Lib.hid hbo
  obtain ⟨L, hL⟩ : ∃ q, q = l.length := ⟨_, rfl⟩
  have HL := Lib.hid hL
  rw [← hbo, ← hL] at hroom
  have HROOM := Lib.hid hroom
  obtain ⟨KL, hK⟩ : ∃ q, q = n.kids.length := ⟨_, rfl⟩
  rw [← hK] at HKK
  unfold NdVal
  rw [← hK]
  have q1 : ((x : Int) == 0) = false := beq_false_of_ne (by omega)
  have q2 : decide ((x : Int) = 0) = false := decide_eq_false (by omega)
  have HX0 := Lib.hid hx0
  clear h hkk okk hlen hbo hL hroom hK hx0
  go_enter Try.func10, Try.ntmps10
  go_upto_region 3 with fail
  have hb0 := bal (bre w) (.cells #[.int .u8 n.kind, .string n.name, .int .i64 n.num, .int .u8 n.typ, .int .u64 n.ref, .slice ka KL kc] 29)
  have hr0 := heap_alloc_new w (.cells #[.int .u8 n.kind, .string n.name, .int .i64 n.num, .int .u8 n.typ, .int .u64 n.ref, .slice ka KL kc] 29)
  generalize w.alloc (.cells #[.int .u8 n.kind, .string n.name, .int .i64 n.num, .int .u8 n.typ, .int .u64 n.ref, .slice ka KL kc] 29) = W at *
  obtain ⟨n5, hn5⟩ : ∃ n, n = w.heap.size := ⟨_, rfl⟩
  rw [← hn5] at hr0 ⊢
  have hR5 : Row6 W n5 n (.slice ka KL kc) := hr0
  have HR5 := Lib.hid hR5
  have HA := Lib.hid (H.out.below hb0)
  obtain ⟨kv2, r1, -, hk2, -⟩ := HA.out.look x hx
  obtain ⟨ka2, kc2, rfl⟩ := hk2.slice
  obtain ⟨n2, hn2⟩ : ∃ q, q = atN l x := ⟨_, rfl⟩
  rw [← hn2, ← HBO.out] at r1
  unfold NdVal at r1
  have c0 := HA.out.c0
  have HB := Lib.hid hb0
  have HKW := Lib.hid (HKK.out.below hb0)
  have hlen := fun ty => HA.out.len ty
  rw [← HL.out] at hlen
  clear hb0 hr0 hR5 hk2 hn2 hn5 H HKK
  go_upto_block 0 with fail
  have hb1 := bal (bre W) (.cells #[.int .u8 n2.kind, .string n2.name, .int .i64 n2.num, .int .u8 n2.typ, .int .u64 n2.ref, .slice ka2 n2.kids.length kc2] 29)
  generalize W.alloc (.cells #[.int .u8 n2.kind, .string n2.name, .int .i64 n2.num, .int .u8 n2.typ, .int .u64 n2.ref, .slice ka2 n2.kids.length kc2] 29) = W1 at *
  have HA1 := Lib.hid (HA.out.below hb1)
  have HR1 := Lib.hid (HR5.out.below hb1)
  have HB1 := Lib.hid (btr HB.out hb1)
  have HK1 := Lib.hid (HKW.out.below hb1)
  have hlen := fun ty => HA1.out.len ty
  rw [← HL.out] at hlen
  have c0 := HA1.out.c0
  clear hb1 r1 HA HR5 HB HKW
  go_cut [20, 23] from 21 to 33 (fun _ _ w' => w' = W1)
  case first =>
    cases bo with
    | true =>
      go_wp2_with fail
      go_meet
      case rel => rfl
    | false =>
      have d1 : decide ((20000 : Int) ≤ (L : Int)) = false := decide_eq_false (by rcases HROOM.out with h | h; cases h; omega)
      have d1n : decide (20000 ≤ L) = false := decide_eq_false (by rcases HROOM.out with h | h; cases h; omega)
      go_wp2_with fail
      go_meet
      case rel => rfl
  case rest =>
  rename World => wc
  have hwc' := hcut.symm
  subst hwc'
  clear hcut
  go_upto_region 8 with fail
  have HSB : Hid (∀ w', Below W1.heap.size W1 w' → (w'.cell? ⟨g, 0, none⟩ = some (.map (some b)) ∧ w'.cell? ⟨n5, 0, none⟩ = some (.int .u8 n.kind) ∧ w'.cell? ⟨n5, 1, none⟩ = some (.string n.name) ∧ w'.cell? ⟨n5, 2, none⟩ = some (.int .i64 n.num) ∧ w'.cell? ⟨n5, 3, none⟩ = some (.int .u8 n.typ) ∧ w'.cell? ⟨n5, 4, none⟩ = some (.int .u64 n.ref) ∧ w'.cell? ⟨n5, 5, none⟩ = some (.slice ka KL kc))) := Lib.hid (fun w' hb => ⟨(HA1.out.below hb).c0, (HR1.out.below hb).c0, (HR1.out.below hb).c1, (HR1.out.below hb).c2, (HR1.out.below hb).c3, (HR1.out.below hb).c4, (HR1.out.below hb).c5⟩)
  refine region_anyZ (z := 7) (S := fun w' => (w'.cell? ⟨g, 0, none⟩ = some (.map (some b)) ∧ w'.cell? ⟨n5, 0, none⟩ = some (.int .u8 n.kind) ∧ w'.cell? ⟨n5, 1, none⟩ = some (.string n.name) ∧ w'.cell? ⟨n5, 2, none⟩ = some (.int .i64 n.num) ∧ w'.cell? ⟨n5, 3, none⟩ = some (.int .u8 n.typ) ∧ w'.cell? ⟨n5, 4, none⟩ = some (.int .u64 n.ref) ∧ w'.cell? ⟨n5, 5, none⟩ = some (.slice ka KL kc))) (by kernel_rfl) ?_
  refine anyZ_begin (fun hcl0 => ?_)
  refine anyZ_held (by exact HSB.out _ (bdr (bre W1))) (fun hHeld => ?_)
  -- 0: Op.move (Operand.tmp 0)
  refine' anyZ_pure (i := 0) (v := _) rfl (by rfl) (by kernel_rfl) (by kernel_rfl) (by kernel_rfl) hcl0 (fun _ _ _ h => h) (Or.inl ⟨by rfl, fun w _ => ?hz1⟩) (fun _ => hHeld) (fun hcl1 => ?rz1)
  case hz1 => (simp only [List.getElem_toArray, List.getElem_cons_zero]; first | (go_simp; with_reducible rfl) | (go_simp; done) | rfl)
  simp only [List.getElem_toArray, List.getElem_cons_zero, Act.put, List.setIfInBounds_toArray, List.set_cons_zero, List.set_cons_succ]
  -- 1: Op.nilCheck (Operand.tmp 34)
  refine' anyZ_pure (i := 1) (v := _) rfl (by rfl) (by kernel_rfl) (by kernel_rfl) (by kernel_rfl) hcl1 (fun _ _ _ h => h) (Or.inl ⟨by rfl, fun w _ => ?hz2⟩) (fun _ => hHeld) (fun hcl2 => ?rz2)
  case hz2 => (simp only [List.getElem_toArray, List.getElem_cons_succ, List.getElem_cons_zero]; first | (go_simp; with_reducible rfl) | (go_simp; done) | rfl)
  simp only [List.getElem_toArray, List.getElem_cons_succ, List.getElem_cons_zero, Act.put, List.setIfInBounds_toArray, List.set_cons_zero, List.set_cons_succ]
  -- 2: Op.fieldAddr 70 (Operand.tmp 35) 0
  refine' anyZ_pure (i := 2) (v := _) rfl (by rfl) (by kernel_rfl) (by kernel_rfl) (by kernel_rfl) hcl2 (fun _ _ _ h => h) (Or.inl ⟨by rfl, fun w _ => ?hz3⟩) (fun _ => hHeld) (fun hcl3 => ?rz3)
  case hz3 => (simp only [List.getElem_toArray, List.getElem_cons_succ, List.getElem_cons_zero]; first | (go_simp; with_reducible rfl) | (go_simp; done) | rfl)
  simp only [List.getElem_toArray, List.getElem_cons_succ, List.getElem_cons_zero, Act.put, List.setIfInBounds_toArray, List.set_cons_zero, List.set_cons_succ]
  -- 3: Op.load 68 (Operand.tmp 36)
  refine' anyZ_take (i := 3) (v := _) rfl (by rfl) (by kernel_rfl) (by kernel_rfl) (by kernel_rfl) hcl3 8 (by kernel_rfl) (by kernel_rfl) (fun _ _ _ h => h) (Or.inl ⟨by rfl, fun w hSw => ?hz4⟩) hHeld (fun hcl4 => ?rz4)
  case hz4 => (simp only [List.getElem_toArray, List.getElem_cons_succ, List.getElem_cons_zero]; obtain ⟨hS1, hS2, hS3, hS4, hS5, hS6, hS7⟩ := hSw; first | (go_simp; with_reducible rfl) | (go_simp; done) | rfl)
  simp only [List.getElem_toArray, List.getElem_cons_succ, List.getElem_cons_zero, Act.put, List.setIfInBounds_toArray, List.set_cons_zero, List.set_cons_succ]
  -- 4: Op.move (Operand.tmp 1)
  refine' anyZ_pure (i := 4) (v := _) rfl (by rfl) (by kernel_rfl) (by kernel_rfl) (by kernel_rfl) hcl4 (fun _ _ _ h => h) (Or.inl ⟨by rfl, fun w _ => ?hz5⟩) (fun _ => hHeld) (fun hcl5 => ?rz5)
  case hz5 => (simp only [List.getElem_toArray, List.getElem_cons_succ, List.getElem_cons_zero]; first | (go_simp; with_reducible rfl) | (go_simp; done) | rfl)
  simp only [List.getElem_toArray, List.getElem_cons_succ, List.getElem_cons_zero, Act.put, List.setIfInBounds_toArray, List.set_cons_zero, List.set_cons_succ]
  -- 5: Op.load 29 (Operand.tmp 5)
  refine' anyZ_take (i := 5) (v := _) rfl (by rfl) (by kernel_rfl) (by kernel_rfl) (by kernel_rfl) hcl5 8 (by kernel_rfl) (by kernel_rfl) (fun _ _ _ h => h) (Or.inl ⟨by rfl, fun w hSw => ?hz6⟩) hHeld (fun hcl6 => ?rz6)
  case hz6 => (simp only [List.getElem_toArray, List.getElem_cons_succ, List.getElem_cons_zero]; obtain ⟨hS1, hS2, hS3, hS4, hS5, hS6, hS7⟩ := hSw; first | (go_simp; with_reducible rfl) | (go_simp; done) | rfl)
  simp only [List.getElem_toArray, List.getElem_cons_succ, List.getElem_cons_zero, Act.put, List.setIfInBounds_toArray, List.set_cons_zero, List.set_cons_succ]
  -- 6: Op.call { callee := Callee.value (Operand.func 27), args := 
  refine anyZ_one (i := 6) hcl6 (by kernel_rfl) (by simp only [List.getElem?_toArray, List.getElem?_cons_succ, List.getElem?_cons_zero]; rfl) (by rfl) (fun hcl7 K hK => ?_)
  go_simp
  refine (whole_any _ n W1.drew ⟨.slice ka KL kc, rfl, HK1.out.below (bdr (bre W1)), HOK.out⟩).mono ?_
  rintro e W3 ⟨v3, rfl, ho3, hb3⟩
  have hb3' := btr (bdr (bre W1)) hb3
  have HO3 := Lib.hid (ho3.base (Nat.zero_le _))
  have HA3 := Lib.hid (HA1.out.below hb3')
  have HB3 := Lib.hid (btr HB1.out hb3')
  have HX3 := Lib.hid hb3'
  clear ho3 hb3 hb3'
  refine hK _ _ (fun _ => ?_) ?_
  · exact HSB.out _ HX3.out
  clear hK K hHeld
  try simp only [Act.put, List.setIfInBounds_toArray, List.set_cons_zero, List.set_cons_succ]
  refine anyZ_chain_at (by kernel_rfl) ?_
  simp only [List.drop_succ_cons, List.drop_zero]
  obtain ⟨W4, hrun, ha4, ho4, hs4⟩ := HA3.out.store x hx HX0.out v3 n HO3.out HLEN.out
  have HA4 := Lib.hid ha4
  have HO4 := Lib.hid (((Only.of_below HB3.out (fun q => q = b)).trans ho4 fun _ _ h => h))
  clear ha4 ho4 hs4
  go_wp2_with fail
  go_ret
  exact ⟨rfl, HA4.out, HO4.out⟩
end Go.Proofs.Ytnbncjebmlicgaa
/- Ranging over a map of unsigned keys, whatever the order. -/
namespace Go.Proofs.Ytnbncjebmlicgaa
open Go.RowKit Go.Maps

/-- r is an iterator over the map at b; left: which keys are still to come -/
def RngAt (P : Program) (k : TypeId) (w : World) (b r : Nat) (vl : List (Nat × Value)) (left : Nat → Bool) : Prop :=
  ∃ L cnt, w.ranges P k rawE b r vl.length (dU vl) L cnt ∧ (∀ p ∈ vl, L (kU p.1) = left p.1) ∧ AscA vl

section
variable {P : Program} {k t e : TypeId} {w w' : World} {b r : Nat} {vl : List (Nat × Value)} {left : Nat → Bool}

theorem MapU.range (h : MapU P k w b vl) (hk : P.underlying k = some (.int .u64)) (ht : P.underlying t = some (.map k e)) :
    ∃ w', (Instr.range t (.map (some b))).run P w = .ok (.pointer (some ⟨w.heap.size, 0, none⟩)) w' ∧ RngAt P k w' b w.heap.size vl (fun _ => true) ∧ Below w.heap.size w w' ∧ w'.heap.size = w.heap.size + 1 := by
  obtain ⟨w', hrun, h1, h2, h3⟩ := h.1.range (int_keyed hk) ht
  refine ⟨w', hrun, ⟨_, _, h1, fun p hp => ?_, h.2⟩, ⟨h2.os, h2.tape, h2.output, h2.size, fun i hi => h2.block i hi (by simp)⟩, h3⟩
  rw [has_dU, getA_of_mem h.2 hp]
  rfl

theorem RngAt.map (h : RngAt P k w b r vl left) : MapU P k w b vl := by
  obtain ⟨L, cnt, h1, -, h3⟩ := h
  exact ⟨h1.owns, h3⟩
theorem RngAt.lt (h : RngAt P k w b r vl left) : r < w.heap.size := by
  obtain ⟨L, cnt, h1, -⟩ := h
  exact h1.lt
theorem RngAt.iter (h : RngAt P k w b r vl left) : ∃ m s q c, w.heap[r]? = some (.mapIter m s q c) := by
  obtain ⟨L, cnt, ⟨es, clock, since, seen, c0, -, -, -, -, hr, -⟩, -⟩ := h
  exact ⟨_, _, _, _, hr⟩
theorem RngAt.only {S : Nat → Prop} (h : RngAt P k w b r vl left) (ho : Only w w' S) (hb : ¬ S b) (hr : ¬ S r) : RngAt P k w' b r vl left ∧ w'.rangeLeft b r = w.rangeLeft b r := by
  obtain ⟨L, cnt, h1, h2, h3⟩ := h
  have hbl := h1.owns.lt
  have hrl := h1.lt
  have e0 := h1.left_eq
  obtain ⟨es, clock, since, seen, c0, g1, g2, g3, g4, g5, g6⟩ := h1
  have h4 : w'.ranges P k rawE b r vl.length (dU vl) L cnt := ⟨es, clock, since, seen, c0, (ho.block b hbl hb).trans g1, g2, g3, g4, (ho.block r hrl hr).trans g5, g6⟩
  exact ⟨⟨L, cnt, h4, h2, h3⟩, h4.left_eq.trans e0.symm⟩

/-- the step -/
theorem RngAt.next (h : RngAt P k w b r vl left) (hk : P.underlying k = some (.int .u64)) (ty : TypeId) :
    ((∀ p ∈ vl, left p.1 = false) ∧ (Instr.next (.pointer (some ⟨r, 0, none⟩)) false ty).run P w = .ok (.tuple #[.bool false]) w) ∨
    ∃ p w', p ∈ vl ∧ left p.1 = true ∧ (Instr.next (.pointer (some ⟨r, 0, none⟩)) false ty).run P w = .ok (.tuple #[.bool true, .int .u64 p.1, p.2]) w' ∧
      RngAt P k w' b r vl (fun x => left x && !(x == p.1)) ∧ w'.rangeLeft b r < w.rangeLeft b r ∧ Only w w' (fun q => q = r) ∧ w'.heap.size = w.heap.size ∧
      (Instr.entry (.pointer (some ⟨r, 0, none⟩))).run P w' = .ok (.tuple #[.int .u64 p.1, p.2]) w' := by
  obtain ⟨L, cnt, h1, h2, h3⟩ := h
  have e0 := h1.left_eq
  rcases h1.next (int_keyed hk) ty with ⟨-, hl, hrun⟩ | ⟨key, v, kl, y, w', cnt', hkey, hl, hv, hat, hrun, hr', hlt, hg, hs, hen⟩
  · exact .inl ⟨fun p hp => by rw [← h2 p hp]; exact hl _, hrun⟩
  · obtain ⟨x, rfl, rfl, hwf⟩ := keyOf_int_inv hk hkey
    have hx : 0 ≤ x ∧ x < 18446744073709551616 := by
      simp [Lit.wf, IntKind.min, IntKind.max, IntKind.signed, IntKind.bits] at hwf
      omega
    obtain ⟨n, rfl⟩ := Int.eq_ofNat_of_zero_le hx.1
    have hy : y = (.held v, []) := by cases hv; rfl
    subst hy
    have hget : getA vl n = some v := by
      have h5 := fun z => (atKey_dU vl n z).symm.trans (hat (.held z))
      cases hg : getA vl n with
      | none =>
        rw [hg] at h5
        have h6 : (Value.bool true) = v := by have := h5 (.bool true); cases this; rfl
        have h7 : (Value.bool false) = v := by have := h5 (.bool false); cases this; rfl
        rw [← h6] at h7
        cases h7
      | some u =>
        rw [hg] at h5
        have := h5 (.bool true)
        cases this
        rfl
    have hmem := getA_mem hget
    refine .inr ⟨(n, v), w', hmem, by rw [← h2 _ hmem]; exact hl, hrun, ⟨_, _, hr', fun p hp => ?_, h3⟩, by rw [e0, hr'.left_eq]; exact hlt, (Only.of_grown hg).mono fun i _ e => (by cases e; rfl), hs, hen⟩
    show (L (kU p.1) && !(kU p.1).sameKey (kU n)) = _
    rw [h2 p hp, kU_same]
end
end Go.Proofs.Ytnbncjebmlicgaa
/- Parent: of which node it is a kid, and where: plainly, and the walk. -/
namespace Go.Proofs.Ytnbncjebmlicgaa
open Go.RowKit

/-- the first node that has it -/
def parOf (l : List (Nat × Nd)) (x : Nat) : Nat × Int := match l.find? (fun p => p.2.kids.contains x) with | some p => (p.1, idxI p.2.kids x) | none => (0, 0)

theorem idxI_sign (l : List Nat) (x : Nat) : (0 ≤ idxI l x ↔ l.contains x = true) ∧ -1 ≤ idxI l x ∧ idxI l x < (l.length : Int) + 1 := by
  unfold idxI
  cases h : l.findIdx? (· == x) with
  | none =>
    have h1 := List.findIdx?_eq_none_iff.1 h
    refine ⟨⟨fun hh => absurd hh (by decide), fun hh => ?_⟩, by decide, by show (-1 : Int) < _; omega⟩
    have := h1 x (by simpa using hh)
    simp at this
  | some k =>
    have h1 := List.findIdx?_eq_some_iff_getElem.1 h
    obtain ⟨hk, he, -⟩ := h1
    refine ⟨⟨fun _ => ?_, fun _ => by simp⟩, by show (-1 : Int) ≤ (k : Int); omega, by show (k : Int) < _; omega⟩
    have : l[k] = x := by simpa using he
    rw [List.contains_iff_mem, ← this]
    exact List.getElem_mem hk

theorem parOf_none {m : List (Nat × Nd)} {x : Nat} (h : ∀ q ∈ m, q.2.kids.contains x = false) : parOf m x = (0, 0) := by
  unfold parOf
  rw [List.find?_eq_none.2 fun q hq => by rw [h q hq]; decide]
theorem parOf_min {m : List (Nat × Nd)} {x : Nat} (ha : m.Pairwise (fun p q => p.1 < q.1)) {p : Nat × Nd} (hp : p ∈ m) (hc : p.2.kids.contains x = true) (hmin : ∀ q ∈ m, q.2.kids.contains x = true → p.1 ≤ q.1) : parOf m x = (p.1, idxI p.2.kids x) := by
  unfold parOf
  induction m with
  | nil => cases hp
  | cons y r ih =>
    rw [List.find?_cons]
    have hy := List.pairwise_cons.1 ha
    rcases List.mem_cons.1 hp with rfl | hp
    · rw [hc]
    · cases hyc : y.2.kids.contains x with
      | false => exact ih hy.2 hp fun q hq hqc => hmin q (List.mem_cons_of_mem _ hq) hqc
      | true =>
        have h1 := hmin y (List.mem_cons_self ..) hyc
        have h2 := hy.1 p hp
        omega
theorem parOf_some {m : List (Nat × Nd)} {x : Nat} (ha : m.Pairwise (fun p q => p.1 < q.1)) (h : ∃ q ∈ m, q.2.kids.contains x = true) : ∃ p ∈ m, p.2.kids.contains x = true ∧ (∀ q ∈ m, q.2.kids.contains x = true → p.1 ≤ q.1) := by
  induction m with
  | nil => obtain ⟨q, hq, -⟩ := h; cases hq
  | cons y r ih =>
    have hy := List.pairwise_cons.1 ha
    cases hyc : y.2.kids.contains x with
    | true => exact ⟨y, List.mem_cons_self .., hyc, fun q hq _ => by
        rcases List.mem_cons.1 hq with rfl | hq
        · exact Nat.le_refl _
        · exact Nat.le_of_lt (hy.1 q hq)⟩
    | false =>
      obtain ⟨q, hq, hqc⟩ := h
      have hqr : q ∈ r := by
        rcases List.mem_cons.1 hq with rfl | hq
        · rw [hyc] at hqc; cases hqc
        · exact hq
      obtain ⟨p, hp, hpc, hpm⟩ := ih hy.2 ⟨q, hqr, hqc⟩
      refine ⟨p, List.mem_cons_of_mem _ hp, hpc, fun q hq hqc => ?_⟩
      rcases List.mem_cons.1 hq with rfl | hq
      · rw [hyc] at hqc; cases hqc
      · exact hpm q hq hqc

/-- those that have come -/
def seenA {α : Type} (l : List (Nat × α)) (left : Nat → Bool) : List (Nat × α) := l.filter fun p => !left p.1
theorem mem_seenA {α : Type} {l : List (Nat × α)} {left : Nat → Bool} {p : Nat × α} : p ∈ seenA l left ↔ p ∈ l ∧ left p.1 = false := by
  unfold seenA
  rw [List.mem_filter]
  simp
theorem asc_key {α : Type} {l : List (Nat × α)} (h : AscA l) {p q : Nat × α} (hp : p ∈ l) (hq : q ∈ l) (he : p.1 = q.1) : p = q := by
  have h1 := getA_of_mem h hp
  have h2 := getA_of_mem h hq
  rw [he, h2] at h1
  exact Prod.ext he (Option.some.inj h1).symm

theorem parOf_step {l : List (Nat × Nd)} (ha : AscA l) (hz : ∀ p ∈ l, p.1 ≠ 0) {left : Nat → Bool} {p : Nat × Nd} (hp : p ∈ l) (hl : left p.1 = true) (x : Nat) :
    parOf (seenA l (fun y => left y && !(y == p.1))) x = if 0 ≤ idxI p.2.kids x ∧ ((parOf (seenA l left) x).1 = 0 ∨ p.1 < (parOf (seenA l left) x).1) then (p.1, idxI p.2.kids x) else parOf (seenA l left) x := by
  have hmem : ∀ q, q ∈ seenA l (fun y => left y && !(y == p.1)) ↔ q ∈ seenA l left ∨ q = p := fun q => by
    rw [mem_seenA, mem_seenA]
    constructor
    · rintro ⟨h1, h2⟩
      simp at h2
      by_cases he : q.1 = p.1
      · exact .inr (asc_key ha h1 hp he)
      · refine .inl ⟨h1, ?_⟩
        cases hq : left q.1 with
        | false => rfl
        | true => exact absurd (h2 hq) he
    · rintro (⟨h1, h2⟩ | rfl)
      · exact ⟨h1, by rw [h2]; rfl⟩
      · exact ⟨hp, by simp⟩
  have hasc : ∀ lf, (seenA l lf).Pairwise (fun p q => p.1 < q.1) := fun lf => ha.1.filter _
  have hsign := (idxI_sign p.2.kids x).1
  by_cases hex : ∃ q ∈ seenA l left, q.2.kids.contains x = true
  · obtain ⟨q, hq, hqc, hqm⟩ := parOf_some (hasc left) hex
    rw [parOf_min (hasc left) hq hqc hqm]
    have hq0 : q.1 ≠ 0 := hz q (mem_seenA.1 hq).1
    by_cases hc : p.2.kids.contains x = true ∧ p.1 < q.1
    · rw [if_pos ⟨hsign.2 hc.1, .inr hc.2⟩]
      refine parOf_min (hasc _) ((hmem p).2 (.inr rfl)) hc.1 fun r hr hrc => ?_
      rcases (hmem r).1 hr with hr | rfl
      · exact Nat.le_trans (Nat.le_of_lt hc.2) (hqm r hr hrc)
      · exact Nat.le_refl _
    · rw [if_neg (fun h => hc ⟨hsign.1 h.1, by rcases h.2 with h | h; exact absurd h hq0; exact h⟩)]
      refine parOf_min (hasc _) ((hmem q).2 (.inl hq)) hqc fun r hr hrc => ?_
      rcases (hmem r).1 hr with hr | rfl
      · exact hqm r hr hrc
      · rcases Nat.lt_or_ge r.1 q.1 with h | h
        · exact absurd ⟨hrc, h⟩ hc
        · exact h
  · have hno : ∀ q ∈ seenA l left, q.2.kids.contains x = false := fun q hq => by
      cases h : q.2.kids.contains x with
      | false => rfl
      | true => exact absurd ⟨q, hq, h⟩ hex
    rw [parOf_none hno]
    by_cases hc : p.2.kids.contains x = true
    · rw [if_pos ⟨hsign.2 hc, .inl rfl⟩]
      refine parOf_min (hasc _) ((hmem p).2 (.inr rfl)) hc fun r hr hrc => ?_
      rcases (hmem r).1 hr with hr | rfl
      · rw [hno r hr] at hrc; cases hrc
      · exact Nat.le_refl _
    · rw [if_neg (fun h => hc (hsign.1 h.1))]
      refine parOf_none fun r hr => ?_
      rcases (hmem r).1 hr with hr | rfl
      · exact hno r hr
      · simpa using hc
theorem seenA_start {α : Type} (l : List (Nat × α)) : seenA l (fun _ => true) = [] := by
  unfold seenA
  exact List.filter_eq_nil_iff.2 fun p _ => by simp
theorem seenA_end {α : Type} {l : List (Nat × α)} {left : Nat → Bool} (h : ∀ p ∈ l, left p.1 = false) : seenA l left = l := by
  unfold seenA
  exact List.filter_eq_self.2 fun p hp => by rw [h p hp]; rfl

/-- an arena's map, ranged over -/
structure ArRng (w : World) (g b r : Nat) (l : List (Nat × Nd)) (vl : List (Nat × Value)) (left : Nat → Bool) : Prop where
  ar : ArAt w g b l
  rng : RngAt Try.prog 26 w b r vl left
  step : StepA (fun v n => OwnNd 0 w v n) vl l
theorem ArRng.notId {w : World} {g b r : Nat} {l : List (Nat × Nd)} {vl : List (Nat × Value)} {left : Nat → Bool} (h : ArRng w g b r l vl left) : ∀ k, k = r → ∀ cs fr, w.heap[k]? ≠ some (.cells cs 26 fr) := fun k hk cs fr e => by
  obtain ⟨m, s, q, c, hi⟩ := h.rng.iter
  subst hk
  rw [hi] at e
  cases e
theorem ArRng.ne {w : World} {g b r : Nat} {l : List (Nat × Nd)} {vl : List (Nat × Value)} {left : Nat → Bool} (h : ArRng w g b r l vl left) : g ≠ r ∧ b ≠ r := by
  obtain ⟨m, s, q, c, hi⟩ := h.rng.iter
  obtain ⟨es, cl, hm⟩ := h.rng.map.isMap
  refine ⟨fun e => ?_, fun e => ?_⟩
  · subst e; rw [h.ar.box] at hi; cases hi
  · subst e; rw [hm] at hi; cases hi
theorem ArRng.below {w w' : World} {g b r : Nat} {l : List (Nat × Nd)} {vl : List (Nat × Value)} {left : Nat → Bool} (h : ArRng w g b r l vl left) (hb : Below w.heap.size w w') : ArRng w' g b r l vl left ∧ w'.rangeLeft b r = w.rangeLeft b r := by
  obtain ⟨h1, h2⟩ := h.rng.only (Only.of_below hb fun _ => False) (fun h => h) (fun h => h)
  exact ⟨⟨h.ar.below hb, h1, h.step.mono fun v n hn => hn.below hb⟩, h2⟩
theorem ArAt.range {w : World} {g b : Nat} {l : List (Nat × Nd)} (h : ArAt w g b l) :
    ∃ w' vl, (Instr.range 68 (.map (some b))).run Try.prog w = .ok (.pointer (some ⟨w.heap.size, 0, none⟩)) w' ∧ ArRng w' g b w.heap.size l vl (fun _ => true) ∧ Below w.heap.size w w' ∧ w'.heap.size = w.heap.size + 1 := by
  obtain ⟨vl, h1, h2⟩ := h.ex
  obtain ⟨w', hrun, g1, g2, g3⟩ := h1.range (t := 68) Try.underlying26 Try.underlying68
  exact ⟨w', vl, hrun, ⟨h.below g2, g1, h2.mono fun v n hn => hn.below g2⟩, g2, g3⟩
theorem StepA.mem {α β : Type} {R : α → β → Prop} {l : List (Nat × α)} {m : List (Nat × β)} (h : StepA R l m) {p : Nat × α} (hp : p ∈ l) : ∃ q ∈ m, q.1 = p.1 ∧ R p.2 q.2 := by
  induction h with
  | nil => cases hp
  | cons h _ ih =>
    rcases List.mem_cons.1 hp with rfl | hp
    · exact ⟨_, List.mem_cons_self .., h.1.symm, h.2⟩
    · obtain ⟨q, hq, h1⟩ := ih hp
      exact ⟨q, List.mem_cons_of_mem _ hq, h1⟩
theorem StepA.mem' {α β : Type} {R : α → β → Prop} {l : List (Nat × α)} {m : List (Nat × β)} (h : StepA R l m) {q : Nat × β} (hq : q ∈ m) : ∃ p ∈ l, q.1 = p.1 ∧ R p.2 q.2 := by
  induction h with
  | nil => cases hq
  | cons h _ ih =>
    rcases List.mem_cons.1 hq with rfl | hq
    · exact ⟨_, List.mem_cons_self .., h.1.symm, h.2⟩
    · obtain ⟨p, hp, h1⟩ := ih hq
      exact ⟨p, List.mem_cons_of_mem _ hp, h1⟩
/-- the next one -/
theorem ArRng.next {w : World} {g b r : Nat} {l : List (Nat × Nd)} {vl : List (Nat × Value)} {left : Nat → Bool} (h : ArRng w g b r l vl left) :
    ((∀ p ∈ l, left p.1 = false) ∧ (Instr.next (.pointer (some ⟨r, 0, none⟩)) false 0).run Try.prog w = .ok (.tuple #[.bool false]) w) ∨
    ∃ p kv w', p ∈ l ∧ left p.1 = true ∧ (Instr.next (.pointer (some ⟨r, 0, none⟩)) false 0).run Try.prog w = .ok (.tuple #[.bool true, .int .u64 p.1, NdVal p.2 kv]) w' ∧ OwnIds 0 w' kv p.2.kids ∧ p.2.Ok ∧ p.1 < 18446744073709551616 ∧
      ArRng w' g b r l vl (fun x => left x && !(x == p.1)) ∧ w'.rangeLeft b r < w.rangeLeft b r ∧ Only w w' (fun q => q = r) ∧ w'.heap.size = w.heap.size ∧
      (Instr.entry (.pointer (some ⟨r, 0, none⟩))).run Try.prog w' = .ok (.tuple #[.int .u64 p.1, NdVal p.2 kv]) w' := by
  obtain ⟨hgr, hbr⟩ := h.ne
  rcases h.rng.next Try.underlying26 0 with ⟨h1, h2⟩ | ⟨p, w', hp, hl, hrun, hr', hlt, ho, hs, hen⟩
  · refine .inl ⟨fun q hq => ?_, h2⟩
    obtain ⟨p, hp, he, -⟩ := h.step.mem' hq
    rw [he]
    exact h1 p hp
  · obtain ⟨q, hq, he, kv, hkv, hk, ok⟩ := h.step.mem hp
    have hst : StepA (fun v n => OwnNd 0 w' v n) vl l := h.step.mono fun v n hn => hn.only ho h.notId
    rw [hkv, ← he] at hrun hen
    rw [← he] at hl hr'
    exact .inr ⟨q, kv, w', hq, hl, hrun, hk.only ho h.notId, ok, h.ar.asc.2 q hq, ⟨h.ar.only ho hgr hbr h.notId, hr', hst⟩, hlt, ho, hs, hen⟩

set_option maxRecDepth 10000 in
theorem arparent_nil (x : Nat) (w : World) : Calls Try.prog 11 #[.pointer none, .int .u64 x] w fun e w' => e = .returned (.tuple #[.int .u64 0, .int .i64 0]) ∧ w' = w := by
  go_enter Try.func11, Try.ntmps11
  go_wp2
  go_ret2
  exact ⟨rfl, rfl⟩

set_option maxRecDepth 10000 in
set_option maxHeartbeats 1600000 in
theorem arparent_any (g b : Nat) (l : List (Nat × Nd)) (x : Nat) (w : World) (h : ArAt w g b l) :
    Calls Try.prog 11 #[.pointer (some ⟨g, 0, none⟩), .int .u64 x] w fun e w' => e = .returned (.tuple #[.int .u64 (parOf l x).1, .int .i64 (parOf l x).2]) ∧ Below w.heap.size w w' := by
  have H := Lib.hid h
  have HNZ := Lib.hid h.nz
  have HASC := Lib.hid h.asc
  have c0 := h.c0
  obtain ⟨w0, vl, hrun, h0, hb0, hs0⟩ := h.range
  obtain ⟨r, hr⟩ : ∃ r, r = w.heap.size := ⟨_, rfl⟩
  rw [← hr] at hrun h0
  have H0 := Lib.hid h0
  have HB0 := Lib.hid hb0
  have HR : Hid (w.heap.size ≤ r) := Lib.hid (by omega)
  clear h h0 hb0 hs0 hr
  go_enter Try.func11, Try.ntmps11
  go_wp2_with fail
  go_loopw [6, 7, 8, 9, 10] (fun o a _ _ _ wr => ∃ left, o = .int .u64 (parOf (seenA l left) x).1 ∧ a = .int .i64 (parOf (seenA l left) x).2 ∧ Hid (ArRng wr g b r l vl left) ∧ Hid (Below w.heap.size w wr)) (fun _ _ _ _ _ wr => wr.rangeLeft b r)
  case atStart => exact ⟨fun _ => true, by rw [seenA_start]; rfl, by rw [seenA_start]; rfl, H0, HB0⟩
  case round =>
    clear H0 HB0 H hrun c0
    obtain ⟨left, rfl, rfl, har, hbl⟩ := hrel
    rcases har.out.next with ⟨hend, hnx⟩ | ⟨p, kv, w1, hp, hl, hnx, hk, ok, h64, har1, hlt, ho, hs, hen⟩
    · have he := seenA_end hend
      rw [he]
      clear he hend har
      go_wp2_with fail
      go_ret2
      exact ⟨rfl, hbl.out⟩
    · have hb1 : Below w.heap.size w w1 := hbl.out.trans (ho.below w.heap.size hbl.out.size fun i hi e => by have := HR.out; omega)
      obtain ⟨out, hout⟩ : ∃ q, q = (parOf (seenA l left) x).1 := ⟨_, rfl⟩
      obtain ⟨att, hatt⟩ : ∃ q, q = (parOf (seenA l left) x).2 := ⟨_, rfl⟩
      have hstep := parOf_step HASC.out HNZ.out hp hl x
      have hpair : parOf (seenA l left) x = (out, att) := by rw [hout, hatt]
      rw [hpair] at hstep
      rw [← hout, ← hatt]
      have HSTEP := Lib.hid hstep
      have HAR1 := Lib.hid har1
      have HB1 := Lib.hid hb1
      have HLT := Lib.hid hlt
      have HK := Lib.hid hk
      obtain ⟨ka, kc, rfl⟩ := hk.slice
      obtain ⟨pk, n⟩ := p
      replace hstep := HSTEP.out
      obtain ⟨KL, hKL⟩ : ∃ q, q = n.kids.length := ⟨_, rfl⟩
      have HKL := Lib.hid hKL
      unfold NdVal at hnx hen
      replace hnx : _ = Result.ok (Value.tuple #[.bool true, .int .u64 (pk : Int), .agg #[.int .u8 n.kind, .string n.name, .int .i64 n.num, .int .u8 n.typ, .int .u64 n.ref, .slice ka n.kids.length kc]]) w1 := hnx
      replace hen : _ = Result.ok (Value.tuple #[.int .u64 (pk : Int), .agg #[.int .u8 n.kind, .string n.name, .int .i64 n.num, .int .u8 n.typ, .int .u64 n.ref, .slice ka n.kids.length kc]]) w1 := hen
      rw [← hKL] at hnx hen
      clear hout hatt hpair hstep har1 hb1 hlt hk ok ho hs har hbl hp hl hKL
      go_upto_region 7 with fail
      have hb2 := bal (bre w1) (.cells #[.int .u8 n.kind, .string n.name, .int .i64 n.num, .int .u8 n.typ, .int .u64 n.ref, .slice ka KL kc] 29)
      have hr2 := heap_alloc_new w1 (.cells #[.int .u8 n.kind, .string n.name, .int .i64 n.num, .int .u8 n.typ, .int .u64 n.ref, .slice ka KL kc] 29)
      generalize w1.alloc (.cells #[.int .u8 n.kind, .string n.name, .int .i64 n.num, .int .u8 n.typ, .int .u64 n.ref, .slice ka KL kc] 29) = w2 at *
      obtain ⟨n9, hn9⟩ : ∃ q, q = w1.heap.size := ⟨_, rfl⟩
      rw [← hn9] at hr2 ⊢
      have hR2 : Row6 w2 n9 n (.slice ka KL kc) := hr2
      have y5 := hR2.c5
      have HAR2 := Lib.hid (HAR1.out.below hb2)
      have HB2 := Lib.hid (HB1.out.trans (hb2.mono HB1.out.size))
      have HK2 := Lib.hid (HK.out.below hb2)
      clear hb2 hr2 hR2 hn9 hnx hen HAR1 HB1 HK
      go_wp2_with fail
      refine (idindex_any _ n.kids x w2 (by rw [HKL.out]; exact HK2.out.ids)).mono ?_
      rintro e w3 ⟨rfl, hw⟩
      have hw' := hw.symm
      subst hw'
      clear hw y5
      have hstep := HSTEP.out
      replace hstep : parOf (seenA l (fun y => left y && !(y == pk))) x = if 0 ≤ idxI n.kids x ∧ (out = 0 ∨ pk < out) then (pk, idxI n.kids x) else (out, att) := hstep
      have hsg := (idxI_sign n.kids x).2
      generalize idxI n.kids x = ix at *
      by_cases h1 : 0 ≤ ix
      · have d1 : decide ((0 : Int) ≤ ix) = true := decide_eq_true h1
        by_cases h2 : out = 0
        · have d2 : ((out : Int) == 0) = true := beq_iff_eq.2 (by omega)
          have d3 : decide ((out : Int) = 0) = true := decide_eq_true (by omega)
          rw [if_pos ⟨h1, .inl h2⟩] at hstep
          have HST := Lib.hid hstep
          clear hstep hsg HSTEP h2
          go_wp2_with fail
          go_roundw
          case rel => exact ⟨_, by rw [HST.out], by rw [HST.out], Lib.hid HAR2.out.1, HB2⟩
          case measure => rw [HAR2.out.2]; exact HLT.out
        · have d2 : ((out : Int) == 0) = false := beq_false_of_ne (by omega)
          have d3 : decide ((out : Int) = 0) = false := decide_eq_false (by omega)
          by_cases h3 : pk < out
          · have d4 : decide ((pk : Int) < (out : Int)) = true := decide_eq_true (by omega)
            have d4n : decide (pk < out) = true := decide_eq_true h3
            rw [if_pos ⟨h1, .inr h3⟩] at hstep
            have HST := Lib.hid hstep
            clear hstep hsg HSTEP h2
            go_wp2_with fail
            go_roundw
            case rel => exact ⟨_, by rw [HST.out], by rw [HST.out], Lib.hid HAR2.out.1, HB2⟩
            case measure => rw [HAR2.out.2]; exact HLT.out
          · have d4 : decide ((pk : Int) < (out : Int)) = false := decide_eq_false (by omega)
            have d4n : decide (pk < out) = false := decide_eq_false h3
            rw [if_neg (fun h => by rcases h.2 with h | h; exact h2 h; exact h3 h)] at hstep
            have HST := Lib.hid hstep
            clear hstep hsg HSTEP h2
            go_wp2_with fail
            go_roundw
            case rel => exact ⟨_, by rw [HST.out], by rw [HST.out], Lib.hid HAR2.out.1, HB2⟩
            case measure => rw [HAR2.out.2]; exact HLT.out
      · have d1 : decide ((0 : Int) ≤ ix) = false := decide_eq_false h1
        rw [if_neg (fun h => h1 h.1)] at hstep
        have HST := Lib.hid hstep
        clear hstep hsg HSTEP
        go_wp2_with fail
        go_roundw
        case rel => exact ⟨_, by rw [HST.out], by rw [HST.out], Lib.hid HAR2.out.1, HB2⟩
        case measure => rw [HAR2.out.2]; exact HLT.out
end Go.Proofs.Ytnbncjebmlicgaa
/- Above: the nearest of a kind: plainly, and the walk. -/
namespace Go.Proofs.Ytnbncjebmlicgaa
open Go.RowKit

/-- how many entries a map's block holds -/
def mapSize (w : World) (b : Nat) : Nat := match w.heap[b]? with | some (.map es _) => es.size | _ => 0
theorem MapU.size {P : Program} {k : TypeId} {w : World} {b : Nat} {l : List (Nat × Value)} (h : MapU P k w b l) : mapSize w b = l.length := by
  obtain ⟨es, clock, hb, F, -, hD⟩ := h.1
  unfold mapSize
  rw [hb]
  have h1 := congrArg Maps.size hD
  rw [size_dU] at h1
  have h2 : Maps.size (DataW.map ((es.toList.map (Go.WideElems.rg P k rawE)).foldr DataW.insert [])) = es.size := by
    show (List.foldr DataW.insert [] (es.toList.map (Go.WideElems.rg P k rawE))).length = es.size
    rw [length_sorted]
    simp
  show es.size = _
  omega

theorem sub_len {α β : Type} {sl : List (Nat × α)} {l : List (Nat × β)} (hs : AscA sl) (hl : AscA l) (h : ∀ p ∈ sl, (getA l p.1).isSome = true) : sl.length ≤ l.length := by
  have h1 := hs.1
  clear hs
  induction sl generalizing l with
  | nil => exact Nat.zero_le _
  | cons p r ih =>
    have hp := List.pairwise_cons.1 h1
    obtain ⟨v, hv⟩ := Option.isSome_iff_exists.1 (h p (List.mem_cons_self ..))
    have hd := length_del_some hl hv
    have := ih (hl.del p.1) (fun q hq => by rw [getA_del_other _ _ _ (by have := hp.1 q hq; omega)]; exact h q (List.mem_cons_of_mem _ hq)) hp.2
    rw [List.length_cons]
    omega

def aboveF (l : List (Nat × Nd)) (kind : Nat) : Nat → List (Nat × Value) → Nat → Nat
  | 0, _, _ => 0
  | f + 1, sl, x => if x = 0 ∨ (getA sl x).isSome = true then 0 else match getA l x with
    | none => 0
    | some n => if n.kind = kind then x else aboveF l kind f (putA sl x (.bool true)) (parOf l x).1
/-- the nearest one of a kind, on the way up -/
def aboveOf (l : List (Nat × Nd)) (x kind : Nat) : Nat := aboveF l kind (l.length + 1) [] x

theorem parOf_lt {l : List (Nat × Nd)} (ha : AscA l) (x : Nat) : (parOf l x).1 < 18446744073709551616 := by
  unfold parOf
  cases h : l.find? (fun p => p.2.kids.contains x) with
  | none => exact (by decide : (0 : Nat) < 18446744073709551616)
  | some p => exact ha.2 p (List.mem_of_find?_eq_some h)

/-- what stands on the way up -/
structure AbSt (w wr : World) (g b bs : Nat) (l : List (Nat × Nd)) (kind R : Nat) (sl : List (Nat × Value)) (x : Nat) : Prop where
  ar : ArAt wr g b l
  mp : MapU Try.prog 26 wr bs sl
  tr : ∀ p ∈ sl, p.2 = .bool true
  sub : ∀ p ∈ sl, (getA l p.1).isSome = true
  lt : x < 18446744073709551616
  is : aboveF l kind (l.length + 1 - sl.length) sl x = R
  new : w.heap.size ≤ bs
  bel : Below w.heap.size w wr
theorem AbSt.below {w wr w' : World} {g b bs kind R x : Nat} {l : List (Nat × Nd)} {sl : List (Nat × Value)} (h : AbSt w wr g b bs l kind R sl x) (hb : Below wr.heap.size wr w') : AbSt w w' g b bs l kind R sl x :=
  ⟨h.ar.below hb, h.mp.below hb, h.tr, h.sub, h.lt, h.is, h.new, btr h.bel hb⟩
theorem AbSt.len {w wr : World} {g b bs kind R x : Nat} {l : List (Nat × Nd)} {sl : List (Nat × Value)} (h : AbSt w wr g b bs l kind R sl x) : sl.length ≤ l.length := sub_len h.mp.2 h.ar.asc h.sub
theorem AbSt.seen {w wr : World} {g b bs kind R x : Nat} {l : List (Nat × Nd)} {sl : List (Nat × Value)} (h : AbSt w wr g b bs l kind R sl x) :
    (Instr.lookup 74 (.map (some bs)) (.int .u64 x) false).run Try.prog wr = .ok (.bool (getA sl x).isSome) wr := by
  have h1 := h.mp.look1 (t := 74) Try.underlying26 Try.underlying74 (z := .bool false) (by kernel_rfl) x h.lt
  cases hg : getA sl x with
  | none => rw [hg] at h1; exact h1
  | some v =>
    rw [hg] at h1
    have := h.tr _ (getA_mem hg)
    change v = _ at this
    subst this
    exact h1
theorem AbSt.step {w wr w' : World} {g b bs kind R x : Nat} {l : List (Nat × Nd)} {sl : List (Nat × Value)} {n : Nd} (h : AbSt w wr g b bs l kind R sl x) (hx : x ≠ 0) (hs : getA sl x = none) (hn : getA l x = some n) (hk : n.kind ≠ kind)
    (hm : MapU Try.prog 26 w' bs (putA sl x (.bool true))) (ho : Only wr w' (fun q => q = bs)) : AbSt w w' g b bs l kind R (putA sl x (.bool true)) (parOf l x).1 := by
  obtain ⟨es, c, hbm⟩ := h.mp.isMap
  have hlen : (putA sl x (.bool true)).length = sl.length + 1 := by unfold putA; rw [length_insA, delA_not _ _ hs]
  refine ⟨h.ar.only ho (fun e => ?_) (fun e => ?_) (fun k hk' cs fr e => by subst hk'; rw [hbm] at e; cases e), hm, fun p hp => ?_, fun p hp => ?_, parOf_lt h.ar.asc x, ?_, h.new, h.bel.trans (ho.below w.heap.size h.bel.size fun i hi e => by have := h.new; omega)⟩
  · subst e; rw [h.ar.box] at hbm; cases hbm
  · obtain ⟨vl, h1, h2⟩ := h.ar.ex
    subst e
    obtain ⟨es1, c1, hb1, F1, -, hD1⟩ := h1.1
    obtain ⟨es2, c2, hb2, F2, -, hD2⟩ := h.mp.1
    rw [hb1] at hb2
    cases hb2
    have hd : dU vl = dU sl := hD1.trans hD2.symm
    have hv : vl = sl := by
      have h3 : entU vl = entU sl := by injection hd
      have h4 : ∀ (a c : List (Nat × Value)), entU a = entU c → a = c := by
        intro a
        induction a with
        | nil => intro c h; cases c with
          | nil => rfl
          | cons y r => cases h
        | cons y r ih => intro c h; cases c with
          | nil => cases h
          | cons y' r' =>
            have h5 := List.cons.inj h
            have h6 : kU y.1 = kU y'.1 ∧ (DataW.held y.2 : DataW Value) = .held y'.2 := by simpa using h5.1
            have h7 : y.1 = y'.1 := by have := h6.1; unfold kU at this; injection this with _ h8; omega
            have h8 : y.2 = y'.2 := by have := h6.2; injection this
            rw [ih r' h5.2, Prod.ext h7 h8]
      exact h4 _ _ h3
    rcases h2.get x with ⟨-, h9⟩ | ⟨a, c, h9, -⟩
    · rw [hn] at h9; cases h9
    · rw [hv, hs] at h9; cases h9
  · rcases mem_insA.1 hp with rfl | hp
    · rfl
    · exact h.tr p (List.mem_filter.1 hp).1
  · rcases mem_insA.1 hp with rfl | hp
    · show (getA l x).isSome = true
      rw [hn]; rfl
    · exact h.sub p (List.mem_filter.1 hp).1
  · have h1 := h.is
    have h2 := h.len
    rw [hlen, show l.length + 1 - sl.length = (l.length + 1 - (sl.length + 1)) + 1 by omega] at *
    rw [aboveF, if_neg (by rw [hs]; rintro (h | h); exact hx h; cases h), hn] at h1
    simp only at h1
    rwa [if_neg hk] at h1
theorem AbSt.stop {w wr : World} {g b bs kind R x : Nat} {l : List (Nat × Nd)} {sl : List (Nat × Value)} (h : AbSt w wr g b bs l kind R sl x) : (x = 0 ∨ (getA sl x).isSome = true → R = 0) ∧ (x ≠ 0 → getA sl x = none → (getA l x = none → R = 0) ∧ ∀ n, getA l x = some n → n.kind = kind → R = x) := by
  have h1 := h.is
  have h2 := h.len
  rw [show l.length + 1 - sl.length = (l.length - sl.length) + 1 by omega, aboveF] at h1
  refine ⟨fun hh => by rw [if_pos hh] at h1; exact h1.symm, fun hx hs => ?_⟩
  rw [if_neg (by rw [hs]; rintro (h | h); exact hx h; cases h)] at h1
  refine ⟨fun hn => by rw [hn] at h1; exact h1.symm, fun n hn hk => ?_⟩
  rw [hn] at h1
  simp only at h1
  rw [if_pos hk] at h1
  exact h1.symm

set_option maxRecDepth 10000 in
set_option maxHeartbeats 1600000 in
theorem arabove_any (g b : Nat) (l : List (Nat × Nd)) (x kind : Nat) (w : World) (h : ArAt w g b l) (hx : x < 18446744073709551616) :
    Calls Try.prog 13 #[.pointer (some ⟨g, 0, none⟩), .int .u64 x, .int .u8 kind] w fun e w' => e = .returned (.int .u64 (aboveOf l x kind)) ∧ Below w.heap.size w w' := by
  obtain ⟨R, hR⟩ : ∃ R, R = aboveOf l x kind := ⟨_, rfl⟩
  rw [← hR]
  have hmm := @run_makeMap Try.prog
  have hm0 : MapU Try.prog 26 (w.alloc (.map #[] 0)) w.heap.size [] := MapU.new w
  have hb0 := bal (bre w) (.map #[] 0)
  have hst : AbSt w (w.alloc (.map #[] 0)) g b w.heap.size l kind R [] x := ⟨h.below hb0, hm0, (fun p hp => nomatch hp), (fun p hp => nomatch hp), hx, hR.symm, Nat.le_refl _, hb0⟩
  have HST := Lib.hid hst
  clear h hx hR hm0 hb0 hst
  go_enter Try.func13, Try.ntmps13
  go_wp2_with fail
  go_loopw [1, 8, 9] (fun i _ _ wr => ∃ (sl : List (Nat × Value)) (x : Nat), i = .int .u64 x ∧ Hid (AbSt w wr g b w.heap.size l kind R sl x)) (fun _ _ _ wr => l.length + 1 - mapSize wr w.heap.size)
  case atStart => exact ⟨[], x, rfl, HST⟩
  case round =>
    clear HST hmm
    obtain ⟨sl, y, rfl, hst⟩ := hrel
    by_cases hy0 : y = 0
    · subst hy0
      have hR0 := hst.out.stop.1 (.inl rfl)
      have HB := Lib.hid hst.out.bel
      clear hst
      subst hR0
      go_wp2_with fail
      go_ret
      exact ⟨rfl, HB.out⟩
    · have q1 : ((y : Int) == 0) = false := beq_false_of_ne (by omega)
      have q2 : decide ((y : Int) = 0) = false := decide_eq_false (by omega)
      have q3 : ((y : Int) != 0) = true := by rw [bne, q1]; rfl
      have q4 : ¬ (y : Int) = 0 := by omega
      have hsn := hst.out.seen
      cases hs : getA sl y with
      | some u =>
        rw [hs] at hsn
        have hR0 := hst.out.stop.1 (.inr (by rw [hs]; rfl))
        have HB := Lib.hid hst.out.bel
        replace hsn : _ = Result.ok (Value.bool true) wr := hsn
        clear hst hs
        subst hR0
        go_wp2_with fail
        go_ret
        exact ⟨rfl, HB.out⟩
      | none =>
        rw [hs] at hsn
        replace hsn : _ = Result.ok (Value.bool false) wr := hsn
        have HS := Lib.hid hs
        have HY0 := Lib.hid hy0
        clear hs hy0
        go_wp2_with fail
        refine (arget_any g b l y wr hst.out.ar hst.out.lt).mono ?_
        rintro e w1 ⟨v1, rfl, ho1, hb1⟩
        have HST1 := Lib.hid (hst.out.below hb1)
        have HSZ := Lib.hid (show mapSize w1 w.heap.size = sl.length from HST1.out.mp.size)
        have HSW := Lib.hid (show mapSize wr w.heap.size = sl.length from hst.out.mp.size)
        have hstop := (HST1.out.stop.2 HY0.out HS.out)
        have HSTOP := Lib.hid hstop
        obtain ⟨kv, rfl, hk, ok⟩ := ho1
        obtain ⟨ka, kc, rfl⟩ := hk.slice
        clear hb1 hst hstop hsn hk ok
        unfold NdVal
        cases hn : getA l y with
        | none =>
          have hR0 := HSTOP.out.1 hn
          have hat : atN l y = .zero := by unfold atN; rw [hn]; rfl
          rw [hat]
          have HB := Lib.hid HST1.out.bel
          clear hn hat HSTOP HST1 HSZ HSW
          subst hR0
          go_wp2_with fail
          go_ret
          exact ⟨rfl, bal HB.out _⟩
        | some n =>
          have hat : atN l y = n := by unfold atN; rw [hn]; rfl
          rw [hat]
          have HN := Lib.hid hn
          obtain ⟨KL, hKL⟩ : ∃ q, q = n.kids.length := ⟨_, rfl⟩
          rw [← hKL]
          clear hn hat hKL
          go_upto_region 4 with fail
          have hb2 := bal (bre w1) (.cells #[.int .u8 n.kind, .string n.name, .int .i64 n.num, .int .u8 n.typ, .int .u64 n.ref, .slice ka KL kc] 29)
          have hr2 := heap_alloc_new w1 (.cells #[.int .u8 n.kind, .string n.name, .int .i64 n.num, .int .u8 n.typ, .int .u64 n.ref, .slice ka KL kc] 29)
          generalize w1.alloc (.cells #[.int .u8 n.kind, .string n.name, .int .i64 n.num, .int .u8 n.typ, .int .u64 n.ref, .slice ka KL kc] 29) = w2 at *
          obtain ⟨n8, hn8⟩ : ∃ q, q = w1.heap.size := ⟨_, rfl⟩
          rw [← hn8] at hr2 ⊢
          have hR2 : Row6 w2 n8 n (.slice ka KL kc) := hr2
          have y0 := hR2.c0
          have HST2 := Lib.hid (HST1.out.below hb2)
          clear hb2 hr2 hR2 hn8 HST1 HSZ
          by_cases hk : n.kind = kind
          · have d1 : ((n.kind : Int) == (kind : Int)) = true := beq_iff_eq.2 (by omega)
            have d2 : decide ((n.kind : Int) = (kind : Int)) = true := decide_eq_true (by omega)
            have hR0 := HSTOP.out.2 n HN.out hk
            have HB := Lib.hid HST2.out.bel
            clear HSTOP HST2
            subst hR0
            go_wp2_with fail
            go_ret
            exact ⟨rfl, HB.out⟩
          · have d1 : ((n.kind : Int) == (kind : Int)) = false := beq_false_of_ne (by omega)
            have d2 : decide ((n.kind : Int) = (kind : Int)) = false := decide_eq_false (by omega)
            obtain ⟨w3, hrun, hm3, ho3, hs3⟩ := HST2.out.mp.store (t := 74) Try.underlying26 Try.underlying74 y HST2.out.lt (.bool true) (by have := HST2.out.len; have := HST2.out.ar.few; unfold maxLen; omega)
            have hst3 := HST2.out.step HY0.out HS.out HN.out hk hm3 ho3
            have HST3 := Lib.hid hst3
            have HM3 := Lib.hid (show mapSize w3 w.heap.size = sl.length + 1 by rw [hm3.size]; unfold putA; rw [length_insA, delA_not _ _ HS.out])
            have HLE := Lib.hid HST2.out.len
            clear hm3 ho3 hs3 hst3 HSTOP HST2 hk
            go_wp2_with fail
            refine (arparent_any g b l y w3 HST3.out.ar).mono ?_
            rintro e w4 ⟨rfl, hb4⟩
            have HST4 := Lib.hid (HST3.out.below hb4)
            have HM4 := Lib.hid (show mapSize w4 w.heap.size = sl.length + 1 by rw [HST4.out.mp.size, ← HST3.out.mp.size]; exact HM3.out)
            clear hb4 hrun HST3 HM3
            go_wp2_with fail
            go_roundw
            case rel => exact ⟨_, _, rfl, HST4⟩
            case measure => rw [HM4.out, HSW.out]; have := HLE.out; omega
end Go.Proofs.Ytnbncjebmlicgaa
/- Tree: plainly: level by level. -/
namespace Go.Proofs.Ytnbncjebmlicgaa
open Go.RowKit

/-- the kids of one node -/
def kidsF (l : List (Nat × Nd)) (i : Nat) : List Nat → List (Nat × Nat) → List Nat → Option (List (Nat × Nat) × List Nat)
  | [], dl, nx => some (dl, nx)
  | k :: ks, dl, nx => if (getA dl k).isSome = true ∨ (getA l k).isSome = false ∨ 200 ≤ (getA dl i).getD 0 then none else kidsF l i ks (putA dl k ((getA dl i).getD 0 + 1)) (nx ++ [k])
/-- one level -/
def levelF (l : List (Nat × Nd)) : List Nat → List (Nat × Nat) → List Nat → Option (List (Nat × Nat) × List Nat)
  | [], dl, nx => some (dl, nx)
  | i :: is, dl, nx => match kidsF l i (atN l i).kids dl nx with
    | none => none
    | some (dl', nx') => levelF l is dl' nx'
/-- all levels -/
def bfsF (l : List (Nat × Nd)) : Nat → List Nat → List (Nat × Nat) → Option (List (Nat × Nat))
  | 0, _, dl => some dl
  | f + 1, lv, dl => if lv = [] then some dl else match levelF l lv dl [] with
    | none => none
    | some (dl', nx) => bfsF l f nx dl'
def refsB (l : List (Nat × Nd)) : Bool := l.all fun p => p.2.ref == 0 || (getA l p.2.ref).isSome
def treeOf (l : List (Nat × Nd)) : Bool := match getA l 1 with
  | none => false
  | some r => if r.kind ≠ 1 then false else match bfsF l (2 * l.length + 3) [1] [(1, 1)] with
    | none => false
    | some dl => refsB l && decide (dl.length = l.length)

def treeEnd (l : List (Nat × Nd)) : Option (List (Nat × Nat)) → Bool
  | none => false
  | some dl => refsB l && decide (dl.length = l.length)
def bfsNext (l : List (Nat × Nd)) (f : Nat) : Option (List (Nat × Nat) × List Nat) → Option (List (Nat × Nat))
  | none => none
  | some (dl', nx) => bfsF l f nx dl'
def kidsNext (l : List (Nat × Nd)) (is : List Nat) : Option (List (Nat × Nat) × List Nat) → Option (List (Nat × Nat) × List Nat)
  | none => none
  | some (dl', nx) => levelF l is dl' nx
theorem treeOf_end {l : List (Nat × Nd)} {r : Nd} (h : getA l 1 = some r) (hk : r.kind = 1) : treeOf l = treeEnd l (bfsF l (2 * l.length + 3) [1] [(1, 1)]) := by
  unfold treeOf
  rw [h]
  show (if r.kind ≠ 1 then false else _) = _
  rw [if_neg (fun h => h hk)]
  cases bfsF l (2 * l.length + 3) [1] [(1, 1)] <;> rfl
theorem bfsF_next {l : List (Nat × Nd)} {f : Nat} {lv : List Nat} {dl : List (Nat × Nat)} (h : lv ≠ []) : bfsF l (f + 1) lv dl = bfsNext l f (levelF l lv dl []) := by
  rw [bfsF, if_neg h]
  cases levelF l lv dl [] <;> rfl

theorem field_kids (v0 v1 v2 v3 v4 v5 : Value) (w : World) : (Instr.field 29 (.agg #[v0, v1, v2, v3, v4, v5]) 5).run Try.prog w = .ok v5 w := by kernel_rfl

/-- a map of numbers -/
def IntMap (w : World) (b : Nat) (dl : List (Nat × Nat)) : Prop := ∃ dv, MapU Try.prog 26 w b dv ∧ StepA (fun v (d : Nat) => v = .int .i64 d) dv dl
theorem IntMap.only {w w' : World} {b : Nat} {dl : List (Nat × Nat)} {S : Nat → Prop} (h : IntMap w b dl) (ho : Only w w' S) (hs : ¬ S b) : IntMap w' b dl := by
  obtain ⟨dv, h1, h2⟩ := h
  exact ⟨dv, h1.only ho hs, h2⟩
theorem IntMap.below {w w' : World} {b : Nat} {dl : List (Nat × Nat)} (h : IntMap w b dl) (hb : Below w.heap.size w w') : IntMap w' b dl := h.only (Only.of_below hb fun _ => False) fun h => h
theorem IntMap.asc {w : World} {b : Nat} {dl : List (Nat × Nat)} (h : IntMap w b dl) : AscA dl := by
  obtain ⟨dv, h1, h2⟩ := h
  exact h2.asc h1.2
theorem IntMap.isMap {w : World} {b : Nat} {dl : List (Nat × Nat)} (h : IntMap w b dl) : ∃ es c, w.heap[b]? = some (.map es c) := by
  obtain ⟨dv, h1, h2⟩ := h
  exact h1.isMap
theorem IntMap.size {w : World} {b : Nat} {dl : List (Nat × Nat)} (h : IntMap w b dl) : mapSize w b = dl.length := by
  obtain ⟨dv, h1, h2⟩ := h
  rw [h1.size, h2.length]
theorem IntMap.len {w : World} {b : Nat} {dl : List (Nat × Nat)} (h : IntMap w b dl) (ty : TypeId) : (Builtin.len_ #[72] ty #[.map (some b)]).run Try.prog w = .ok (.int .i64 dl.length) w := by
  obtain ⟨dv, h1, h2⟩ := h
  have := h1.len (t := 72) Try.underlying72 ty
  rwa [h2.length] at this
theorem IntMap.look {w : World} {b : Nat} {dl : List (Nat × Nat)} (h : IntMap w b dl) (x : Nat) (hx : x < 18446744073709551616) :
    (Instr.lookup 72 (.map (some b)) (.int .u64 x) true).run Try.prog w = .ok (.tuple #[.int .i64 ((getA dl x).getD 0 : Nat), .bool (getA dl x).isSome]) w ∧
      (Instr.lookup 72 (.map (some b)) (.int .u64 x) false).run Try.prog w = .ok (.int .i64 ((getA dl x).getD 0 : Nat)) w := by
  obtain ⟨dv, h1, h2⟩ := h
  have e1 := h1.look (t := 72) Try.underlying26 Try.underlying72 (z := .int .i64 0) (by kernel_rfl) x hx
  have e2 := h1.look1 (t := 72) Try.underlying26 Try.underlying72 (z := .int .i64 0) (by kernel_rfl) x hx
  rcases h2.get x with ⟨g1, g2⟩ | ⟨v, d, g1, g2, rfl⟩
  · rw [g1] at e1 e2
    rw [g2]
    exact ⟨e1, e2⟩
  · rw [g1] at e1 e2
    rw [g2]
    exact ⟨e1, e2⟩
theorem IntMap.store {w : World} {b : Nat} {dl : List (Nat × Nat)} (h : IntMap w b dl) (x : Nat) (hx : x < 18446744073709551616) (d : Nat) (hl : dl.length ≤ 1000000) :
    ∃ w', (Instr.mapUpdate 72 (.map (some b)) (.int .u64 x) (.int .i64 d)).run Try.prog w = .ok () w' ∧ IntMap w' b (putA dl x d) ∧ Only w w' (fun q => q = b) ∧ w'.heap.size = w.heap.size := by
  obtain ⟨dv, h1, h2⟩ := h
  have hlen := h2.length
  obtain ⟨w', hrun, g1, g2, g3⟩ := h1.store (t := 72) Try.underlying26 Try.underlying72 x hx (.int .i64 d) (by unfold maxLen; omega)
  exact ⟨w', hrun, ⟨_, g1, h2.put x rfl⟩, g2, g3⟩

/-- ahead of a level -/
structure TrSt (w wr : World) (g b bd : Nat) (l : List (Nat × Nd)) (R : Option (List (Nat × Nat))) (lvv : Value) (lv : List Nat) (dl : List (Nat × Nat)) : Prop where
  ar : ArAt wr g b l
  mp : IntMap wr bd dl
  lvl : Ids wr lvv lv
  lt : ∀ x ∈ lv, x < 18446744073709551616
  sub : ∀ p ∈ dl, (getA l p.1).isSome = true
  is : ∃ f, bfsF l f lv dl = R ∧ 2 * (l.length + 1 - dl.length) + min lv.length 1 ≤ f
  ne : g ≠ bd ∧ b ≠ bd
  new : w.heap.size ≤ bd
  bel : Below w.heap.size w wr
theorem TrSt.below {w wr w' : World} {g b bd : Nat} {l : List (Nat × Nd)} {R : Option (List (Nat × Nat))} {lvv : Value} {lv : List Nat} {dl : List (Nat × Nat)} (h : TrSt w wr g b bd l R lvv lv dl) (hb : Below wr.heap.size wr w') : TrSt w w' g b bd l R lvv lv dl :=
  ⟨h.ar.below hb, h.mp.below hb, h.lvl.below hb, h.lt, h.sub, h.is, h.ne, h.new, btr h.bel hb⟩
theorem TrSt.len {w wr : World} {g b bd : Nat} {l : List (Nat × Nd)} {R : Option (List (Nat × Nat))} {lvv : Value} {lv : List Nat} {dl : List (Nat × Nat)} (h : TrSt w wr g b bd l R lvv lv dl) : dl.length ≤ l.length := sub_len h.mp.asc h.ar.asc h.sub

/-- within a level: of what was there at its start only the map at bd has turned -/
structure TrIn (w0 wx : World) (bd : Nat) (l : List (Nat × Nd)) (nv : Value) (nx : List Nat) (dl dl0 : List (Nat × Nat)) : Prop where
  only : Only w0 wx (fun q => q = bd)
  mp : IntMap wx bd dl
  own : OwnIds w0.heap.size wx nv nx
  lt : ∀ x ∈ nx, x < 18446744073709551616
  sub : ∀ p ∈ dl, (getA l p.1).isSome = true
  len : dl.length = dl0.length + nx.length
theorem TrIn.below {w0 wx w' : World} {bd : Nat} {l : List (Nat × Nd)} {nv : Value} {nx : List Nat} {dl dl0 : List (Nat × Nat)} (h : TrIn w0 wx bd l nv nx dl dl0) (hb : Below wx.heap.size wx w') : TrIn w0 w' bd l nv nx dl dl0 :=
  ⟨h.only.trans (Only.of_below hb fun q => q = bd) fun _ _ h => h, h.mp.below hb, h.own.below hb, h.lt, h.sub, h.len⟩
theorem TrSt.notId {w wr : World} {g b bd : Nat} {l : List (Nat × Nd)} {R : Option (List (Nat × Nat))} {lvv : Value} {lv : List Nat} {dl : List (Nat × Nat)} (h : TrSt w wr g b bd l R lvv lv dl) : ∀ k, k = bd → ∀ cs fr, wr.heap[k]? ≠ some (.cells cs 26 fr) := fun k hk cs fr e => by
  obtain ⟨es, c, hm⟩ := h.mp.isMap
  subst hk
  rw [hm] at e
  cases e
theorem TrSt.arIn {w w0 wx : World} {g b bd : Nat} {l : List (Nat × Nd)} {R : Option (List (Nat × Nat))} {lvv nv : Value} {lv nx : List Nat} {dl dl0 : List (Nat × Nat)} (h : TrSt w w0 g b bd l R lvv lv dl0) (hi : TrIn w0 wx bd l nv nx dl dl0) : ArAt wx g b l :=
  h.ar.only hi.only h.ne.1 h.ne.2 h.notId
theorem TrSt.belIn {w w0 wx : World} {g b bd : Nat} {l : List (Nat × Nd)} {R : Option (List (Nat × Nat))} {lvv nv : Value} {lv nx : List Nat} {dl dl0 : List (Nat × Nat)} (h : TrSt w w0 g b bd l R lvv lv dl0) (hi : TrIn w0 wx bd l nv nx dl dl0) : Below w.heap.size w wx :=
  h.bel.trans (hi.only.below w.heap.size h.bel.size fun i hi e => by have := h.new; omega)

theorem Only.base {a x c : World} {S : Nat → Prop} (h : Only a x S) (k : Below a.heap.size x c) : Only a c S :=
  ⟨k.os.trans h.os, k.tape.trans h.tape, k.output.trans h.output, Nat.le_trans h.size k.size, fun i hi hn => (k.block i hi).trans (h.block i hi hn)⟩
theorem IntMap.low {w w' : World} {b B : Nat} {dl : List (Nat × Nat)} (h : IntMap w b dl) (hb : Below B w w') (hlt : b < B) : IntMap w' b dl := by
  obtain ⟨dv, h1, h2⟩ := h
  obtain ⟨es, c, g1, g2⟩ := h1.1
  exact ⟨dv, ⟨⟨es, c, (hb.block b hlt).trans g1, g2⟩, h1.2⟩, h2⟩
theorem TrSt.lookIn {w w0 wx : World} {g b bd : Nat} {l : List (Nat × Nd)} {R : Option (List (Nat × Nat))} {lvv nv : Value} {lv nx : List Nat} {dl dl0 : List (Nat × Nat)} (h : TrSt w w0 g b bd l R lvv lv dl0) (hi : TrIn w0 wx bd l nv nx dl dl0) (x : Nat) (hx : x < 18446744073709551616) :
    ∃ kv, (Instr.lookup 68 (.map (some b)) (.int .u64 x) true).run Try.prog wx = .ok (.tuple #[NdVal (atN l x) kv, .bool (getA l x).isSome]) wx ∧
      (Instr.lookup 68 (.map (some b)) (.int .u64 x) false).run Try.prog wx = .ok (NdVal (atN l x) kv) wx ∧ OwnIds 0 w0 kv (atN l x).kids ∧ (atN l x).Ok := by
  obtain ⟨vl, h1, h2⟩ := h.ar.ex
  have h1' := h1.only hi.only h.ne.2
  have e1 := h1'.look (t := 68) Try.underlying26 Try.underlying68 (zeroNd wx) x hx
  have e2 := h1'.look1 (t := 68) Try.underlying26 Try.underlying68 (zeroNd wx) x hx
  unfold atN
  rcases h2.get x with ⟨g1, g2⟩ | ⟨v, n, g1, g2, kv, rfl, hk, ok⟩
  · rw [g1] at e1 e2
    rw [g2]
    exact ⟨_, e1, e2, OwnIds.nil _ _, Nd.zero_ok⟩
  · rw [g1] at e1 e2
    rw [g2]
    exact ⟨kv, e1, e2, hk, ok⟩
theorem TrSt.lvlIn {w w0 wx : World} {g b bd : Nat} {l : List (Nat × Nd)} {R : Option (List (Nat × Nat))} {lvv nv : Value} {lv nx : List Nat} {dl dl0 : List (Nat × Nat)} (h : TrSt w w0 g b bd l R lvv lv dl0) (hi : TrIn w0 wx bd l nv nx dl dl0) (j x : Nat) (hj : lv[j]? = some x) :
    ∃ gb ob n c, lvv = .slice (some ⟨gb, ob, none⟩) n c ∧ wx.cell? ⟨gb, ob + j, none⟩ = some (.int .u64 x) := by
  obtain ⟨a, c, rfl, -, -, -, hr⟩ := h.lvl
  rcases hr with h0 | ⟨gb, ob, rfl, hr⟩
  · rw [h0] at hj; cases hj
  · obtain ⟨u, hu, rfl⟩ := hr j x hj
    refine ⟨gb, ob, _, _, rfl, ?_⟩
    have hlt := block_lt_of_cell hu
    have hne : ¬ gb = bd := fun e => by
      obtain ⟨es, cc, hm⟩ := h.mp.isMap
      subst e
      unfold World.cell? at hu
      rw [hm] at hu
      cases hu
    have hb := hi.only.block gb hlt hne
    have h9 : wx.cell? ⟨gb, ob + j, none⟩ = w0.cell? ⟨gb, ob + j, none⟩ := by
      unfold World.cell?
      simp only [hb]
    exact h9.trans hu
theorem ids_one (w : World) (x : Nat) : Ids (w.alloc (.cells #[.int .u64 x] 26)) (.slice (some ⟨w.heap.size, 0, none⟩) 1 1) [x] := by
  refine ⟨_, _, rfl, by simp [maxLen], Nat.le_refl _, (fun h => nomatch h), .inr ⟨_, _, rfl, fun j y hy => ?_⟩⟩
  rcases j with _ | j
  · cases hy
    exact ⟨_, cell_of_row _ _ 0 _ _ _ (heap_alloc_new w _), rfl⟩
  · cases hy
theorem Ids.cell {w : World} {v : Value} {l : List Nat} (h : Ids w v l) (m x : Nat) (hm : l[m]? = some x) : ∃ g o c, v = .slice (some ⟨g, o, none⟩) l.length c ∧ w.cell? ⟨g, o + m, none⟩ = some (.int .u64 x) := by
  obtain ⟨a, c, rfl, -, -, -, hr⟩ := h
  rcases hr with h0 | ⟨gb, ob, rfl, hr⟩
  · rw [h0] at hm; cases hm
  · obtain ⟨u, hu, rfl⟩ := hr m x hm
    exact ⟨gb, ob, c, rfl, hu⟩
theorem TrIn.more {w0 wx w5 w6 w7 : World} {bd k d : Nat} {l : List (Nat × Nd)} {nv v' : Value} {nx : List Nat} {dl dl0 : List (Nat × Nat)} (h : TrIn w0 wx bd l nv nx dl dl0) (hb5 : Below wx.heap.size wx w5) (ho6 : Only w5 w6 (fun q => q = bd)) (hm6 : IntMap w6 bd (putA dl k d))
    (hb7 : Below w0.heap.size w6 w7) (hlt : bd < w0.heap.size) (ho7 : OwnIds w0.heap.size w7 v' (nx ++ [k])) (hk : k < 18446744073709551616) (hkl : (getA l k).isSome = true) (hkd : getA dl k = none) : TrIn w0 w7 bd l v' (nx ++ [k]) (putA dl k d) dl0 := by
  have h5 := h.below hb5
  refine ⟨(h5.only.trans ho6 fun _ _ h => h).base hb7, hm6.low hb7 hlt, ho7, fun x hx => ?_, fun p hp => ?_, ?_⟩
  · rcases List.mem_append.1 hx with hx | hx
    · exact h.lt x hx
    · rw [List.mem_singleton.1 hx]; exact hk
  · rcases mem_insA.1 hp with rfl | hp
    · exact hkl
    · exact h.sub p (List.mem_filter.1 hp).1
  · unfold putA
    rw [length_insA, delA_not _ _ hkd, List.length_append, h.len]
    simp
    omega
def sliceLen : Value → Nat
  | .slice _ n _ => n
  | _ => 0
theorem Ids.slice {w : World} {v : Value} {l : List Nat} (h : Ids w v l) : ∃ a c, v = .slice a l.length c := by
  obtain ⟨a, c, e, -⟩ := h
  exact ⟨a, c, e⟩

theorem TrSt.next {w w0 wx : World} {g b bd f : Nat} {l : List (Nat × Nd)} {R : Option (List (Nat × Nat))} {lvv nv : Value} {lv nx : List Nat} {dl dl0 : List (Nat × Nat)} (h : TrSt w w0 g b bd l R lvv lv dl0) (hi : TrIn w0 wx bd l nv nx dl dl0)
    (hf : bfsF l f nx dl = R) (hl : 2 * (l.length + 1 - dl0.length) ≤ f) : TrSt w wx g b bd l R nv nx dl ∧ 2 * (l.length + 1 - mapSize wx bd) + min nx.length 1 < 2 * (l.length + 1 - mapSize w0 bd) + 1 := by
  have h1 := h.len
  have h2 : dl.length ≤ l.length := sub_len hi.mp.asc h.ar.asc hi.sub
  have h3 := hi.len
  refine ⟨⟨h.arIn hi, hi.mp, hi.own.ids, hi.lt, hi.sub, ⟨f, hf, by omega⟩, h.ne, h.new, h.belIn hi⟩, ?_⟩
  rw [hi.mp.size, h.mp.size]
  omega
theorem TrSt.done {w w0 : World} {g b bd : Nat} {l : List (Nat × Nd)} {R : Option (List (Nat × Nat))} {lvv : Value} {lv : List Nat} {dl : List (Nat × Nat)} (h : TrSt w w0 g b bd l R lvv lv dl) (hl : lv = []) : R = some dl := by
  obtain ⟨f, hf, -⟩ := h.is
  subst hl
  rw [← hf]
  cases f with
  | zero => rfl
  | succ f => rw [bfsF, if_pos rfl]

theorem ArRng.lookB {w : World} {g b r : Nat} {l : List (Nat × Nd)} {vl : List (Nat × Value)} {left : Nat → Bool} (h : ArRng w g b r l vl left) (x : Nat) (hx : x < 18446744073709551616) :
    ∃ a n c, ∀ w', Below w.heap.size w w' → (Instr.lookup 68 (.map (some b)) (.int .u64 x) true).run Try.prog w' = .ok (.tuple #[NdVal (atN l x) (.slice a n c), .bool (getA l x).isSome]) w' := by
  have key : ∀ w', Below w.heap.size w w' → _ := fun w' hb => (h.rng.map.below hb).look (t := 68) Try.underlying26 Try.underlying68 (zeroNd w') x hx
  unfold atN
  rcases h.step.get x with ⟨g1, g2⟩ | ⟨v, n, g1, g2, kv, rfl, hk, ok⟩
  · rw [g2]
    rw [g1] at key
    exact ⟨_, _, _, key⟩
  · rw [g2]
    rw [g1] at key
    obtain ⟨a, c, rfl⟩ := hk.slice
    exact ⟨_, _, _, key⟩

theorem levelF_cons (l : List (Nat × Nd)) (lv : List Nat) (j i : Nat) (dl : List (Nat × Nat)) (nx : List Nat) (h : lv[j]? = some i) :
    levelF l (lv.drop j) dl nx = kidsNext l (lv.drop (j + 1)) (kidsF l i (atN l i).kids dl nx) := by
  obtain ⟨hj, he⟩ := List.getElem?_eq_some_iff.1 h
  rw [List.drop_eq_getElem_cons hj, he, levelF]
  cases kidsF l i (atN l i).kids dl nx <;> rfl
theorem kidsF_cons (l : List (Nat × Nd)) (i : Nat) (ks : List Nat) (m k : Nat) (dl : List (Nat × Nat)) (nx : List Nat) (h : ks[m]? = some k) :
    kidsF l i (ks.drop m) dl nx = if (getA dl k).isSome = true ∨ (getA l k).isSome = false ∨ 200 ≤ (getA dl i).getD 0 then none else kidsF l i (ks.drop (m + 1)) (putA dl k ((getA dl i).getD 0 + 1)) (nx ++ [k]) := by
  obtain ⟨hj, he⟩ := List.getElem?_eq_some_iff.1 h
  rw [List.drop_eq_getElem_cons hj, he, kidsF]
end Go.Proofs.Ytnbncjebmlicgaa
