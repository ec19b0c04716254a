/- Walk: Get, Put. -/
import Derived.Test.YtnbncjebmlicgaaAr
namespace Go.Proofs.Ytnbncjebmlicgaa
open Go.RowKit

set_option maxRecDepth 10000 in
set_option maxHeartbeats 800000 in
theorem arget_nil (x : Nat) (w : World) :
    Calls Try.prog 20 #[.pointer none, .int .u64 x] w fun e w' => e = .returned (.tuple #[NdVal .zero (.slice none 0 0), .bool false]) ∧ Below w.heap.size w w' := by
  go_enter Try.func20, Try.ntmps20
  go_upto_region 2 with fail
  have hb0 := bal (bre w) (.cells #[.int .u8 0, .string ⟨#[]⟩, .int .i64 0, .int .u8 0, .int .u64 0, .slice none 0 0] 29)
  have hr1 := heap_alloc_new w (.cells #[.int .u8 0, .string ⟨#[]⟩, .int .i64 0, .int .u8 0, .int .u64 0, .slice none 0 0] 29)
  generalize w.alloc (.cells #[.int .u8 0, .string ⟨#[]⟩, .int .i64 0, .int .u8 0, .int .u64 0, .slice none 0 0] 29) = W at *
  obtain ⟨n4, hn4⟩ : ∃ n, n = w.heap.size := ⟨_, rfl⟩
  rw [← hn4] at hr1 ⊢
  have hR : Row6 W n4 .zero (.slice none 0 0) := hr1
  have HR := Lib.hid hR
  have HB := Lib.hid hb0
  have HN : Hid (w.heap.size ≤ n4) := Lib.hid (by omega)
  have p0 := hR.c0
  have p1 := hR.c1
  have p2 := hR.c2
  have p3 := hR.c3
  have p4 := hR.c4
  have p5 := hR.c5
  have pf := hR.fz
  clear hb0 hr1 hR hn4
  go_wp2_with fail
  have hrow := HR.out.put .zero (.slice none 0 0)
  have hbel := put6_below HB.out HN.out .zero (.slice none 0 0)
  have e9 : ((((((W.setCell ⟨n4, 0, none⟩ (.int .u8 (Nd.zero.kind : Int))).setCell ⟨n4, 1, none⟩ (.string Nd.zero.name)).setCell ⟨n4, 2, none⟩ (.int .i64 Nd.zero.num)).setCell ⟨n4, 3, none⟩ (.int .u8 (Nd.zero.typ : Int))).setCell ⟨n4, 4, none⟩ (.int .u64 (Nd.zero.ref : Int))).setCell ⟨n4, 5, none⟩ (.slice none 0 0)) = (((((W.setCell ⟨n4, 0, none⟩ (.int .u8 0)).setCell ⟨n4, 1, none⟩ (.string ⟨#[]⟩)).setCell ⟨n4, 2, none⟩ (.int .i64 0)).setCell ⟨n4, 3, none⟩ (.int .u8 0)).setCell ⟨n4, 4, none⟩ (.int .u64 0)).setCell ⟨n4, 5, none⟩ (.slice none 0 0) := rfl
  rw [e9] at hrow hbel
  clear e9
  generalize (((((W.setCell ⟨n4, 0, none⟩ (.int .u8 0)).setCell ⟨n4, 1, none⟩ (.string ⟨#[]⟩)).setCell ⟨n4, 2, none⟩ (.int .i64 0)).setCell ⟨n4, 3, none⟩ (.int .u8 0)).setCell ⟨n4, 4, none⟩ (.int .u64 0)).setCell ⟨n4, 5, none⟩ (.slice none 0 0) = W9 at *
  have d0 := hrow.c0
  have d1 := hrow.c1
  have d2 := hrow.c2
  have d3 := hrow.c3
  have d4 := hrow.c4
  have d5 := hrow.c5
  refine bodyPost_ret (v := .tuple #[NdVal .zero (.slice none 0 0), .bool false]) (by simp [results, Try.results20, go_sem, d0, d1, d2, d3, d4, d5, NdVal]) rfl ?_
  exact ⟨rfl, hbel⟩

set_option maxRecDepth 10000 in
set_option maxHeartbeats 800000 in
theorem arget_any (g b : Nat) (l : List (Nat × Nd)) (x : Nat) (w : World) (h : ArAt w g b l) (hx : x < 18446744073709551616) :
    Calls Try.prog 20 #[.pointer (some ⟨g, 0, none⟩), .int .u64 x] w fun e w' => ∃ v', e = .returned (.tuple #[v', .bool (getA l x).isSome]) ∧ OwnNd w.heap.size w' v' (atN l x) ∧ Below w.heap.size w w' := by
  have H := Lib.hid h
  obtain ⟨nd, hnd⟩ : ∃ n, n = atN l x := ⟨_, rfl⟩
  rw [← hnd]
  have HND := Lib.hid hnd
  obtain ⟨bo, hbo⟩ : ∃ n, n = (getA l x).isSome := ⟨_, rfl⟩
  rw [← hbo]
  have HBO := Lib.hid hbo
  clear h hnd hbo
  go_enter Try.func20, Try.ntmps20
  go_upto_region 3 with fail
  have hb0 := bal (bre w) (.cells #[.int .u8 0, .string ⟨#[]⟩, .int .i64 0, .int .u8 0, .int .u64 0, .slice none 0 0] 29)
  have hr1 := heap_alloc_new w (.cells #[.int .u8 0, .string ⟨#[]⟩, .int .i64 0, .int .u8 0, .int .u64 0, .slice none 0 0] 29)
  generalize w.alloc (.cells #[.int .u8 0, .string ⟨#[]⟩, .int .i64 0, .int .u8 0, .int .u64 0, .slice none 0 0] 29) = W at *
  obtain ⟨n4, hn4⟩ : ∃ n, n = w.heap.size := ⟨_, rfl⟩
  rw [← hn4] at hr1 ⊢
  have hR : Row6 W n4 .zero (.slice none 0 0) := hr1
  have HR := Lib.hid hR
  have HB := Lib.hid hb0
  have HA := Lib.hid (H.out.below hb0)
  have HN : Hid (w.heap.size ≤ n4) := Lib.hid (by omega)
  obtain ⟨kv, r1, -, hk, ok⟩ := HA.out.look x hx
  obtain ⟨ka, kc, rfl⟩ := hk.slice
  have HK := Lib.hid hk
  have HOK := Lib.hid ok
  rw [← HND.out, ← HBO.out] at r1
  rw [← HND.out] at HK HOK
  obtain ⟨L, hL⟩ : ∃ L, L = nd.kids.length := ⟨_, rfl⟩
  rw [← hL] at r1 HK
  have HL := Lib.hid hL
  unfold NdVal at r1
  have c0 := HA.out.c0
  clear hb0 hr1 hR hn4 hk ok hL H
  go_upto_region 4 with fail
  have hb1 := bal (bre W) (.cells #[.int .u8 nd.kind, .string nd.name, .int .i64 nd.num, .int .u8 nd.typ, .int .u64 nd.ref, .slice ka L kc] 29)
  have hr1 := heap_alloc_new W (.cells #[.int .u8 nd.kind, .string nd.name, .int .i64 nd.num, .int .u8 nd.typ, .int .u64 nd.ref, .slice ka L kc] 29)
  generalize W.alloc (.cells #[.int .u8 nd.kind, .string nd.name, .int .i64 nd.num, .int .u8 nd.typ, .int .u64 nd.ref, .slice ka L kc] 29) = W1 at *
  obtain ⟨n6, hn6⟩ : ∃ n, n = W.heap.size := ⟨_, rfl⟩
  rw [← hn6] at hr1 ⊢
  have hR1 : Row6 W1 n6 nd (.slice ka L kc) := hr1
  have y0 := hR1.c0
  have y1 := hR1.c1
  have y2 := hR1.c2
  have y3 := hR1.c3
  have y4 := hR1.c4
  have y5 := hR1.c5
  have HR1 := Lib.hid (HR.out.below hb1)
  have HB1 := Lib.hid (btr HB.out hb1)
  have HK1 := Lib.hid (HK.out.below hb1)
  clear hb1 hr1 hR1 hn6 r1 c0 HK HR HA HB
  go_wp2_with fail
  refine (whole_any _ nd W1 ⟨.slice ka L kc, rfl, HK1.out.ids, HOK.out⟩).mono ?_
  rintro e W2 ⟨v2, rfl, ho2, hb2⟩
  obtain ⟨kv2, rfl, hk2, -⟩ := id ho2
  obtain ⟨ka2, kc2, rfl⟩ := hk2.slice
  have HO2 := Lib.hid hk2
  have HR2 := Lib.hid (HR1.out.below hb2)
  have HB2 := Lib.hid (btr HB1.out hb2)
  have HS := Lib.hid (Nat.le_trans HB1.out.size (Nat.le_refl _))
  have hr2 := HR2.out
  have p0 := hr2.c0
  have p1 := hr2.c1
  have p2 := hr2.c2
  have p3 := hr2.c3
  have p4 := hr2.c4
  have p5 := hr2.c5
  have pf := hr2.fz
  unfold NdVal
  clear ho2 hk2 hb2 hr2 y0 y1 y2 y3 y4 y5 HR1 HB1 HK1
  go_wp2_with fail
  have hrow := HR2.out.put nd (.slice ka2 nd.kids.length kc2)
  have hbel := put6_below HB2.out HN.out nd (.slice ka2 nd.kids.length kc2)
  have hown := HO2.out.only (put6_only W2 n4 nd (.slice ka2 nd.kids.length kc2)) (fun k hk cs fr e => by cases hk; rw [HR2.out] at e; cases e)
  generalize (((((W2.setCell ⟨n4, 0, none⟩ (.int .u8 nd.kind)).setCell ⟨n4, 1, none⟩ (.string nd.name)).setCell ⟨n4, 2, none⟩ (.int .i64 nd.num)).setCell ⟨n4, 3, none⟩ (.int .u8 nd.typ)).setCell ⟨n4, 4, none⟩ (.int .u64 nd.ref)).setCell ⟨n4, 5, none⟩ (.slice ka2 nd.kids.length kc2) = W9 at *
  have d0 := hrow.c0
  have d1 := hrow.c1
  have d2 := hrow.c2
  have d3 := hrow.c3
  have d4 := hrow.c4
  have d5 := hrow.c5
  refine bodyPost_ret (v := .tuple #[NdVal nd (.slice ka2 nd.kids.length kc2), .bool bo]) (by simp [results, Try.results20, go_sem, d0, d1, d2, d3, d4, d5, NdVal]) rfl ?_
  exact ⟨_, rfl, ⟨_, rfl, hown.base HS.out, HOK.out⟩, hbel⟩
end Go.Proofs.Ytnbncjebmlicgaa
