/- Nodes; Whole: a node with kids of its own. -/
import Derived.Test.YtnbncjebmlicgaaIds
import Derived.Test.YtnbncjebmlicgaaLong
import Derived.Test.YtnbncjebmlicgaaOrdG
import Derived.Deep.CutBlock
import Derived.Deep.CutRange
import Derived.BigQuiet
import Derived.Deep.QuietTactic
import Derived.Lib.Hide
import Derived.StillTailTactics
import Derived.WalkKit
namespace Go.Proofs.Ytnbncjebmlicgaa
open Go.RowKit

structure Nd where
  kind : Nat
  name : ByteArray
  num : Int
  typ : Nat
  ref : Nat
  kids : List Nat

structure Nd.Ok (n : Nd) : Prop where
  kind : n.kind < 256
  typ : n.typ < 256
  ref : n.ref < 18446744073709551616
  num : (Lit.int .i64 n.num).wf = true
  name : n.name.size ≤ maxLen
  few : n.kids.length ≤ 1000000
  ids : ∀ x ∈ n.kids, x < 18446744073709551616

def Nd.zero : Nd := ⟨0, ⟨#[]⟩, 0, 0, 0, []⟩
theorem Nd.zero_ok : Nd.zero.Ok := ⟨by decide, by decide, by decide, by decide, Nat.zero_le _, Nat.zero_le _, fun x hx => by cases hx⟩

def NdVal (n : Nd) (kv : Value) : Value := .agg #[.int .u8 n.kind, .string n.name, .int .i64 n.num, .int .u8 n.typ, .int .u64 n.ref, kv]
/-- a node as a value; its kids in memory -/
def NdAt (w : World) (v : Value) (n : Nd) : Prop := ∃ kv, v = NdVal n kv ∧ Ids w kv n.kids ∧ n.Ok
def OwnNd (base : Nat) (w : World) (v : Value) (n : Nd) : Prop := ∃ kv, v = NdVal n kv ∧ OwnIds base w kv n.kids ∧ n.Ok
theorem OwnNd.at {base : Nat} {w : World} {v : Value} {n : Nd} (h : OwnNd base w v n) : NdAt w v n := by
  obtain ⟨kv, rfl, h1, h2⟩ := h
  exact ⟨kv, rfl, h1.ids, h2⟩
theorem OwnNd.base {base base' : Nat} {w : World} {v : Value} {n : Nd} (h : OwnNd base w v n) (hb : base' ≤ base) : OwnNd base' w v n := by
  obtain ⟨kv, rfl, h1, h2⟩ := h
  exact ⟨kv, rfl, h1.base hb, h2⟩
theorem NdAt.below {w w' : World} {v : Value} {n : Nd} (h : NdAt w v n) (hb : Below w.heap.size w w') : NdAt w' v n := by
  obtain ⟨kv, rfl, h1, h2⟩ := h
  exact ⟨kv, rfl, h1.below hb, h2⟩
theorem OwnNd.zero (base : Nat) (w : World) : OwnNd base w (NdVal .zero (.slice none 0 0)) .zero := ⟨_, rfl, OwnIds.nil _ _, Nd.zero_ok⟩
theorem zeroNd (w : World) : (zeroValue 29).run Try.prog w = .ok (NdVal .zero (.slice none 0 0)) w := by kernel_rfl

theorem own_kept {e : TypeId} {base : Nat} {w w' : World} {v : Value} {n : Nat} {xs : List Value} {S : Nat → Prop} (h : w.ownsRow base e 1 v n xs) (ho : Only w w' S) (hs : ∀ k, S k → ∀ cs fr, w.heap[k]? ≠ some (.cells cs e fr)) : w'.ownsRow base e 1 v n xs := by
  refine ⟨h.1, ?_⟩
  rcases h.2 with h2 | ⟨g, cap, cur, rfl, hb, hg, h3⟩
  · exact .inl h2
  · exact .inr ⟨g, cap, cur, rfl, hb, (ho.block g (Array.getElem?_eq_some_iff.1 hg).1 fun hS => hs g hS _ _ hg).trans hg, h3⟩
theorem OwnIds.only {base : Nat} {w w' : World} {v : Value} {l : List Nat} {S : Nat → Prop} (h : OwnIds base w v l) (ho : Only w w' S) (hs : ∀ k, S k → ∀ cs fr, w.heap[k]? ≠ some (.cells cs 26 fr)) : OwnIds base w' v l := own_kept h ho hs
theorem OwnNd.only {base : Nat} {w w' : World} {v : Value} {n : Nd} {S : Nat → Prop} (h : OwnNd base w v n) (ho : Only w w' S) (hs : ∀ k, S k → ∀ cs fr, w.heap[k]? ≠ some (.cells cs 26 fr)) : OwnNd base w' v n := by
  obtain ⟨kv, rfl, h1, h2⟩ := h
  exact ⟨kv, rfl, h1.only ho hs, h2⟩
theorem OwnNd.below {base : Nat} {w w' : World} {v : Value} {n : Nd} (h : OwnNd base w v n) (hb : Below w.heap.size w w') : OwnNd base w' v n := h.only (Only.of_below hb fun _ => False) fun _ h => h.elim
theorem OwnIds.below {base : Nat} {w w' : World} {v : Value} {l : List Nat} (h : OwnIds base w v l) (hb : Below w.heap.size w w') : OwnIds base w' v l := h.only (Only.of_below hb fun _ => False) fun _ h => h.elim

/-- six cells that hold a node -/
def Row6 (w : World) (g : Nat) (n : Nd) (kv : Value) : Prop := w.heap[g]? = some (.cells #[.int .u8 n.kind, .string n.name, .int .i64 n.num, .int .u8 n.typ, .int .u64 n.ref, kv] 29 (0, 0))
theorem Row6.lt {w : World} {g : Nat} {n : Nd} {kv : Value} (h : Row6 w g n kv) : g < w.heap.size := (Array.getElem?_eq_some_iff.1 h).1
theorem Row6.below {w w' : World} {g : Nat} {n : Nd} {kv : Value} (h : Row6 w g n kv) (hb : Below w.heap.size w w') : Row6 w' g n kv := (hb.block g h.lt).trans h
theorem Row6.only {w w' : World} {g : Nat} {n : Nd} {kv : Value} {S : Nat → Prop} (h : Row6 w g n kv) (ho : Only w w' S) (hs : ¬ S g) : Row6 w' g n kv := (ho.block g h.lt hs).trans h
theorem Row6.c0 {w : World} {g : Nat} {n : Nd} {kv : Value} (h : Row6 w g n kv) : w.cell? ⟨g, 0, none⟩ = some (.int .u8 n.kind) := cell_of_row w g 0 _ _ _ h
theorem Row6.c1 {w : World} {g : Nat} {n : Nd} {kv : Value} (h : Row6 w g n kv) : w.cell? ⟨g, 1, none⟩ = some (.string n.name) := cell_of_row w g 1 _ _ _ h
theorem Row6.c2 {w : World} {g : Nat} {n : Nd} {kv : Value} (h : Row6 w g n kv) : w.cell? ⟨g, 2, none⟩ = some (.int .i64 n.num) := cell_of_row w g 2 _ _ _ h
theorem Row6.c3 {w : World} {g : Nat} {n : Nd} {kv : Value} (h : Row6 w g n kv) : w.cell? ⟨g, 3, none⟩ = some (.int .u8 n.typ) := cell_of_row w g 3 _ _ _ h
theorem Row6.c4 {w : World} {g : Nat} {n : Nd} {kv : Value} (h : Row6 w g n kv) : w.cell? ⟨g, 4, none⟩ = some (.int .u64 n.ref) := cell_of_row w g 4 _ _ _ h
theorem Row6.c5 {w : World} {g : Nat} {n : Nd} {kv : Value} (h : Row6 w g n kv) : w.cell? ⟨g, 5, none⟩ = some kv := cell_of_row w g 5 _ _ _ h
theorem Row6.fz {w : World} {g : Nat} {n : Nd} {kv : Value} (h : Row6 w g n kv) (i : Nat) : w.frozen? ⟨g, i, none⟩ = false := frozen_of_row w g i _ _ h
theorem Row6.put {w : World} {g : Nat} {n : Nd} {kv : Value} (h : Row6 w g n kv) (m : Nd) (u : Value) :
    Row6 ((((((w.setCell ⟨g, 0, none⟩ (.int .u8 m.kind)).setCell ⟨g, 1, none⟩ (.string m.name)).setCell ⟨g, 2, none⟩ (.int .i64 m.num)).setCell ⟨g, 3, none⟩ (.int .u8 m.typ)).setCell ⟨g, 4, none⟩ (.int .u64 m.ref)).setCell ⟨g, 5, none⟩ u) g m u :=
  heap_setCell_same _ g 5 _ _ u (heap_setCell_same _ g 4 _ _ (.int .u64 m.ref) (heap_setCell_same _ g 3 _ _ (.int .u8 m.typ) (heap_setCell_same _ g 2 _ _ (.int .i64 m.num) (heap_setCell_same _ g 1 _ _ (.string m.name) (heap_setCell_same _ g 0 _ _ (.int .u8 m.kind) h)))))
theorem put6_below {w w0 : World} {B g : Nat} (h : Below B w0 w) (hg : B ≤ g) (m : Nd) (u : Value) :
    Below B w0 ((((((w.setCell ⟨g, 0, none⟩ (.int .u8 m.kind)).setCell ⟨g, 1, none⟩ (.string m.name)).setCell ⟨g, 2, none⟩ (.int .i64 m.num)).setCell ⟨g, 3, none⟩ (.int .u8 m.typ)).setCell ⟨g, 4, none⟩ (.int .u64 m.ref)).setCell ⟨g, 5, none⟩ u) :=
  (((((h.setCell hg _).setCell hg _).setCell hg _).setCell hg _).setCell hg _).setCell hg _

theorem put6_only (w : World) (g : Nat) (m : Nd) (u : Value) :
    Only w ((((((w.setCell ⟨g, 0, none⟩ (.int .u8 m.kind)).setCell ⟨g, 1, none⟩ (.string m.name)).setCell ⟨g, 2, none⟩ (.int .i64 m.num)).setCell ⟨g, 3, none⟩ (.int .u8 m.typ)).setCell ⟨g, 4, none⟩ (.int .u64 m.ref)).setCell ⟨g, 5, none⟩ u) (fun k => k = g) := by
  have s : ∀ (x : World) (i : Nat) (v : Value), Only x (x.setCell ⟨g, i, none⟩ v) (fun k => k = g) := fun x i v => Only.setCell x ⟨g, i, none⟩ v
  exact (((((s _ _ _).trans (s _ _ _) fun _ _ h => h).trans (s _ _ _) fun _ _ h => h).trans (s _ _ _) fun _ _ h => h).trans (s _ _ _) fun _ _ h => h).trans (s _ _ _) fun _ _ h => h

theorem two_new (w : World) (o1 o2 : Obj) : ((w.alloc o1).alloc o2).heap[w.heap.size]? = some o1 ∧ ((w.alloc o1).alloc o2).heap[w.heap.size + 1]? = some o2 := by
  have h2 := (MapKept.heap_alloc (w.alloc o1) o2)
  have h1 := (MapKept.heap_alloc w o1)
  have hs : (w.alloc o1).heap.size = w.heap.size + 1 := by simp
  exact ⟨(h2.2 _ (by rw [hs]; omega)).trans h1.1, by rw [← hs]; exact h2.1⟩

set_option maxRecDepth 10000 in
set_option maxHeartbeats 800000 in
theorem whole_any (v : Value) (n : Nd) (w : World) (hv : NdAt w v n) :
    Calls Try.prog 27 #[v] w fun e w' => ∃ v', e = .returned v' ∧ OwnNd w.heap.size w' v' n ∧ Below w.heap.size w w' := by
  obtain ⟨kv, rfl, hk, ok⟩ := hv
  obtain ⟨a, c, rfl, -⟩ := id hk
  have HK := Lib.hid hk
  have HOK := Lib.hid ok
  unfold NdVal
  obtain ⟨L, hL⟩ : ∃ L, L = n.kids.length := ⟨_, rfl⟩
  rw [← hL] at HK ⊢
  clear hk ok hL
  go_enter Try.func27, Try.ntmps27
  go_upto_region 1 with fail
  have hb0 := bal (bal (bre w) (.cells #[.int .u8 n.kind, .string n.name, .int .i64 n.num, .int .u8 n.typ, .int .u64 n.ref, .slice a L c] 29)) (.cells #[.int .u8 0, .string ⟨#[]⟩, .int .i64 0, .int .u8 0, .int .u64 0, .slice none 0 0] 29)
  obtain ⟨hr1, hr2⟩ := two_new w (.cells #[.int .u8 n.kind, .string n.name, .int .i64 n.num, .int .u8 n.typ, .int .u64 n.ref, .slice a L c] 29) (.cells #[.int .u8 0, .string ⟨#[]⟩, .int .i64 0, .int .u8 0, .int .u64 0, .slice none 0 0] 29)
  generalize (w.alloc (.cells #[.int .u8 n.kind, .string n.name, .int .i64 n.num, .int .u8 n.typ, .int .u64 n.ref, .slice a L c] 29)).alloc (.cells #[.int .u8 0, .string ⟨#[]⟩, .int .i64 0, .int .u8 0, .int .u64 0, .slice none 0 0] 29) = W at *
  obtain ⟨n1, hn1⟩ : ∃ n, n = w.heap.size := ⟨_, rfl⟩
  rw [← hn1] at hr1 hr2 ⊢
  obtain ⟨n2, hn2⟩ : ∃ n, n = n1 + 1 := ⟨_, rfl⟩
  rw [← hn2] at hr2
  try rw [← hn2]
  have hR1 : Row6 W n1 n (.slice a L c) := hr1
  have hR2 : Row6 W n2 .zero (.slice none 0 0) := hr2
  have HB0 := Lib.hid hb0
  have HR1 := Lib.hid hR1
  have HR2 := Lib.hid hR2
  have HN1 : Hid (w.heap.size ≤ n1) := Lib.hid (by omega)
  have HN2 : Hid (w.heap.size ≤ n2) := Lib.hid (by omega)
  have hne : ¬ n2 = n1 := by omega
  have HNE := Lib.hid hne
  have y5 := hR1.c5
  clear hb0 hr1 hr2 hR1 hR2 hn1 hn2 hne
  go_wp2_with fail
  refine (idclone_any _ n.kids W (HK.out.below HB0.out) (by have := HOK.out.few; omega)).mono ?_
  rintro e w1 ⟨v1, rfl, ho1, hb1⟩
  obtain ⟨a1, c1, rfl⟩ := ho1.slice
  have HO1 := Lib.hid ho1
  have HB1 := Lib.hid (btr HB0.out hb1)
  have HS := Lib.hid hb1.size
  have HR11 := Lib.hid (HR1.out.below hb1)
  have HR12 := Lib.hid (HR2.out.below hb1)
  have z5 := HR11.out.c5
  have zf := HR11.out.fz
  clear ho1 hb1 y5
  go_upto_region 2 with fail
  have hr3 : Row6 (w1.setCell ⟨n1, 5, none⟩ (.slice a1 n.kids.length c1)) n1 n (.slice a1 n.kids.length c1) := heap_setCell_same w1 n1 5 _ _ _ HR11.out
  have hr4 : Row6 (w1.setCell ⟨n1, 5, none⟩ (.slice a1 n.kids.length c1)) n2 .zero (.slice none 0 0) := HR12.out.only (Only.setCell w1 ⟨n1, 5, none⟩ _) HNE.out
  have hb3 : Below w.heap.size w (w1.setCell ⟨n1, 5, none⟩ (.slice a1 n.kids.length c1)) := HB1.out.setCell HN1.out _
  have ho3 := HO1.out.only (Only.setCell w1 ⟨n1, 5, none⟩ (.slice a1 n.kids.length c1)) (fun k hk cs fr e => by cases hk; rw [HR11.out] at e; cases e)
  generalize w1.setCell ⟨n1, 5, none⟩ (.slice a1 n.kids.length c1) = w3 at *
  have HR3 := Lib.hid hr3
  have HR4 := Lib.hid hr4
  have HB3 := Lib.hid hb3
  have HO3 := Lib.hid ho3
  have q0 := hr3.c0
  have q1 := hr3.c1
  have q2 := hr3.c2
  have q3 := hr3.c3
  have q4 := hr3.c4
  have q5 := hr3.c5
  have p0 := hr4.c0
  have p1 := hr4.c1
  have p2 := hr4.c2
  have p3 := hr4.c3
  have p4 := hr4.c4
  have p5 := hr4.c5
  have pf := hr4.fz
  clear hr3 hr4 hb3 ho3 z5 zf HR11 HR12 HO1 HB1
  go_wp2_with fail
  have hrow := HR4.out.put n (.slice a1 n.kids.length c1)
  have hbel := put6_below HB3.out HN2.out n (.slice a1 n.kids.length c1)
  have hown := HO3.out.only (put6_only w3 n2 n (.slice a1 n.kids.length c1)) (fun k hk cs fr e => by cases hk; rw [HR4.out] at e; cases e)
  generalize (((((w3.setCell ⟨n2, 0, none⟩ (.int .u8 n.kind)).setCell ⟨n2, 1, none⟩ (.string n.name)).setCell ⟨n2, 2, none⟩ (.int .i64 n.num)).setCell ⟨n2, 3, none⟩ (.int .u8 n.typ)).setCell ⟨n2, 4, none⟩ (.int .u64 n.ref)).setCell ⟨n2, 5, none⟩ (.slice a1 n.kids.length c1) = W9 at *
  have d0 := hrow.c0
  have d1 := hrow.c1
  have d2 := hrow.c2
  have d3 := hrow.c3
  have d4 := hrow.c4
  have d5 := hrow.c5
  refine bodyPost_ret (v := NdVal n (.slice a1 n.kids.length c1)) (by simp [results, Try.results27, go_sem, d0, d1, d2, d3, d4, d5, NdVal]) rfl ?_
  exact ⟨_, rfl, ⟨_, rfl, hown.base (Nat.le_trans HB0.out.size (Nat.le_refl _)), HOK.out⟩, hbel⟩
end Go.Proofs.Ytnbncjebmlicgaa
