/- Walks: the law's do, case by case. -/
import Derived.Test.YtkonjjanoifinaaRkDo
import Derived.Test.YtkonjjanoifinaaMake
import Derived.Test.YtkonjjanoifinaaDkRotE
import Derived.BigQuiet
namespace Go.Proofs.Ytkonjjanoifinaa
open Go.RowKit

set_option maxRecDepth 10000 in
theorem r511_any (w : World) : Calls Try.prog 38 #[] w fun e w' => ∃ v, e = .returned v ∧ Own8 5 w.heap.size w' v (List.replicate 511 0) ∧ Below w.heap.size w w' := by
  go_enter Try.func38, Try.ntmps38
  go_wp2_with (refine wpList_make8 rfl _ _ 22 5 make8 rfl 511 rfl rfl (by omega) ?_; intro w1 hm1 hb1)
  go_ret
  exact ⟨_, rfl, hm1, hb1⟩

set_option maxRecDepth 10000 in
set_option maxHeartbeats 3200000 in
theorem do_limit (g : Nat) (d : Dk) (F : Nat → Prop) (v : Value) (a : Actn) (w : World) (h : DiskAt w g d F) (ha : ActAt w v a) (hao : a.Ok) (hd : a.do_ % 7 = 6) :
    Calls Try.prog 24 #[.pointer (some ⟨g, 0, none⟩), v] w fun e w' => e = .returned (.tuple #[.pointer (some ⟨g, 0, none⟩), .int .i64 0]) ∧ DiskAt w' g ⟨d.safe, d.wait, d.count, decide (0 ≤ a.n), a.n⟩ F ∧ Moved w w' F F := by
  obtain ⟨vp, vk, rfl, hvp, hvk⟩ := ha
  obtain ⟨o1, o2, o3, o4, o5, o6, o7, o8⟩ := hao
  obtain ⟨ap, cp, rfl, _⟩ := id hvp
  obtain ⟨ak, ck, rfl, _⟩ := id hvk
  have HD := Lib.hid h
  have HVP := Lib.hid hvp
  have HVK := Lib.hid hvk
  clear h hvp hvk
  go_enter Try.func24, Try.ntmps24
  go_upto_region 1 with fail
  obtain ⟨n0, hn0⟩ : ∃ n0, n0 = w.heap.size := ⟨_, rfl⟩
  have hr0 := heap_alloc_new w (.cells #[.int .u8 a.do_, .int .i64 a.i, .slice ap a.p.length cp, .bool a.odd, .int .i64 a.bit, .int .i64 a.n, .int .u32 a.mask, .slice ak a.keep.length ck] 52)
  have hb0 := bal (bre w) (.cells #[.int .u8 a.do_, .int .i64 a.i, .slice ap a.p.length cp, .bool a.odd, .int .i64 a.bit, .int .i64 a.n, .int .u32 a.mask, .slice ak a.keep.length ck] 52)
  rw [← hn0] at hr0 ⊢
  generalize w.alloc (.cells #[.int .u8 a.do_, .int .i64 a.i, .slice ap a.p.length cp, .bool a.odd, .int .i64 a.bit, .int .i64 a.n, .int .u32 a.mask, .slice ak a.keep.length ck] 52) = W at *
  obtain ⟨f0, f1, f2, f3, f4, f5, f6, f7, ff⟩ := arow8 hr0
  have hdW := HD.out.below hb0
  have hpW := HVP.out.below hb0
  have hkW := HVK.out.below hb0
  have HDW := Lib.hid hdW
  have HPW := Lib.hid hpW
  have HKW := Lib.hid hkW
  have HB0 := Lib.hid hb0
  have hMW := Moved.of_below F hb0
  have HMW := Lib.hid hMW
  have HLT := Lib.hid (show n0 < W.heap.size from (Array.getElem?_eq_some_iff.1 hr0).1)
  clear hdW hpW hkW hb0 hr0 hn0 hMW HD HVP HVK
  go_wp2_with fail
  refine (limit_any g d F a.n W HDW.out).mono ?_
  rintro e w1 ⟨rfl, hd1, hm1⟩
  go_wp2_with fail
  go_ret2
  exact ⟨rfl, hd1, HMW.out.trans hm1⟩

set_option maxRecDepth 10000 in
set_option maxHeartbeats 3200000 in
theorem do_sync (g : Nat) (d : Dk) (F : Nat → Prop) (v : Value) (a : Actn) (w : World) (h : DiskAt w g d F) (ha : ActAt w v a) (hao : a.Ok) (hd : a.do_ % 7 = 3) (hm : d.may = true) (hl0 : d.bound = true → -9223372036854775808 < d.left) (hl1 : d.left ≤ 9223372036854775807) (hw : d.wait.length ≤ 1000000) :
    Calls Try.prog 24 #[.pointer (some ⟨g, 0, none⟩), v] w fun e w' => ∃ F', e = .returned (.tuple #[.pointer (some ⟨g, 0, none⟩), .int .i64 0]) ∧ DiskAt w' g d.synced F' ∧ Moved w w' F F' := by
  obtain ⟨vp, vk, rfl, hvp, hvk⟩ := ha
  obtain ⟨o1, o2, o3, o4, o5, o6, o7, o8⟩ := hao
  obtain ⟨ap, cp, rfl, _⟩ := id hvp
  obtain ⟨ak, ck, rfl, _⟩ := id hvk
  have HD := Lib.hid h
  have HVP := Lib.hid hvp
  have HVK := Lib.hid hvk
  clear h hvp hvk
  go_enter Try.func24, Try.ntmps24
  go_upto_region 1 with fail
  obtain ⟨n0, hn0⟩ : ∃ n0, n0 = w.heap.size := ⟨_, rfl⟩
  have hr0 := heap_alloc_new w (.cells #[.int .u8 a.do_, .int .i64 a.i, .slice ap a.p.length cp, .bool a.odd, .int .i64 a.bit, .int .i64 a.n, .int .u32 a.mask, .slice ak a.keep.length ck] 52)
  have hb0 := bal (bre w) (.cells #[.int .u8 a.do_, .int .i64 a.i, .slice ap a.p.length cp, .bool a.odd, .int .i64 a.bit, .int .i64 a.n, .int .u32 a.mask, .slice ak a.keep.length ck] 52)
  rw [← hn0] at hr0 ⊢
  generalize w.alloc (.cells #[.int .u8 a.do_, .int .i64 a.i, .slice ap a.p.length cp, .bool a.odd, .int .i64 a.bit, .int .i64 a.n, .int .u32 a.mask, .slice ak a.keep.length ck] 52) = W at *
  obtain ⟨f0, f1, f2, f3, f4, f5, f6, f7, ff⟩ := arow8 hr0
  have hdW := HD.out.below hb0
  have hpW := HVP.out.below hb0
  have hkW := HVK.out.below hb0
  have HDW := Lib.hid hdW
  have HPW := Lib.hid hpW
  have HKW := Lib.hid hkW
  have HB0 := Lib.hid hb0
  have hMW := Moved.of_below F hb0
  have HMW := Lib.hid hMW
  have HLT := Lib.hid (show n0 < W.heap.size from (Array.getElem?_eq_some_iff.1 hr0).1)
  clear hdW hpW hkW hb0 hr0 hn0 hMW HD HVP HVK
  go_wp2_with fail
  refine (sync_ok_free g d F W HDW.out hm hl0 hl1 hw).mono ?_
  rintro e w1 ⟨F', rfl, hd1, hm1⟩
  go_wp2_with fail
  go_ret2
  first | exact ⟨F', rfl, hd1, HMW.out.trans hm1⟩ | exact ⟨rfl, F', hd1, HMW.out.trans hm1⟩

set_option maxRecDepth 10000 in
set_option maxHeartbeats 3200000 in
theorem do_sync_off (g : Nat) (d : Dk) (F : Nat → Prop) (v : Value) (a : Actn) (w : World) (h : DiskAt w g d F) (ha : ActAt w v a) (hao : a.Ok) (hd : a.do_ % 7 = 3) (hm : d.may = false) (hl0 : d.bound = true → -9223372036854775808 < d.left) (hl1 : d.left ≤ 9223372036854775807) :
    Calls Try.prog 24 #[.pointer (some ⟨g, 0, none⟩), v] w fun e w' => e = .returned (.tuple #[.pointer (some ⟨g, 0, none⟩), .int .i64 8]) ∧ DiskAt w' g d F ∧ Moved w w' F F := by
  obtain ⟨vp, vk, rfl, hvp, hvk⟩ := ha
  obtain ⟨o1, o2, o3, o4, o5, o6, o7, o8⟩ := hao
  obtain ⟨ap, cp, rfl, _⟩ := id hvp
  obtain ⟨ak, ck, rfl, _⟩ := id hvk
  have HD := Lib.hid h
  have HVP := Lib.hid hvp
  have HVK := Lib.hid hvk
  clear h hvp hvk
  go_enter Try.func24, Try.ntmps24
  go_upto_region 1 with fail
  obtain ⟨n0, hn0⟩ : ∃ n0, n0 = w.heap.size := ⟨_, rfl⟩
  have hr0 := heap_alloc_new w (.cells #[.int .u8 a.do_, .int .i64 a.i, .slice ap a.p.length cp, .bool a.odd, .int .i64 a.bit, .int .i64 a.n, .int .u32 a.mask, .slice ak a.keep.length ck] 52)
  have hb0 := bal (bre w) (.cells #[.int .u8 a.do_, .int .i64 a.i, .slice ap a.p.length cp, .bool a.odd, .int .i64 a.bit, .int .i64 a.n, .int .u32 a.mask, .slice ak a.keep.length ck] 52)
  rw [← hn0] at hr0 ⊢
  generalize w.alloc (.cells #[.int .u8 a.do_, .int .i64 a.i, .slice ap a.p.length cp, .bool a.odd, .int .i64 a.bit, .int .i64 a.n, .int .u32 a.mask, .slice ak a.keep.length ck] 52) = W at *
  obtain ⟨f0, f1, f2, f3, f4, f5, f6, f7, ff⟩ := arow8 hr0
  have hdW := HD.out.below hb0
  have hpW := HVP.out.below hb0
  have hkW := HVK.out.below hb0
  have HDW := Lib.hid hdW
  have HPW := Lib.hid hpW
  have HKW := Lib.hid hkW
  have HB0 := Lib.hid hb0
  have hMW := Moved.of_below F hb0
  have HMW := Lib.hid hMW
  have HLT := Lib.hid (show n0 < W.heap.size from (Array.getElem?_eq_some_iff.1 hr0).1)
  clear hdW hpW hkW hb0 hr0 hn0 hMW HD HVP HVK
  go_wp2_with fail
  refine (sync_off_free g d F W HDW.out hm hl0 hl1).mono ?_
  rintro e w1 ⟨rfl, hd1, hm1⟩
  go_wp2_with fail
  go_ret2
  exact ⟨rfl, hd1, HMW.out.trans hm1⟩

set_option maxRecDepth 10000 in
set_option maxHeartbeats 3200000 in
theorem do_rot_arg (g : Nat) (d : Dk) (F : Nat → Prop) (v : Value) (a : Actn) (w : World) (h : DiskAt w g d F) (ha : ActAt w v a) (hao : a.Ok) (hd : a.do_ % 7 = 4) (hbad : a.n < 0 ∨ 32 < a.n ∨ a.bit < 0 ∨ 4096 < a.bit + a.n) :
    Calls Try.prog 24 #[.pointer (some ⟨g, 0, none⟩), v] w fun e w' => e = .returned (.tuple #[.pointer (some ⟨g, 0, none⟩), .int .i64 1]) ∧ DiskAt w' g d F ∧ Moved w w' F F := by
  have HBAD := Lib.hid hbad
  clear hbad
  obtain ⟨vp, vk, rfl, hvp, hvk⟩ := ha
  obtain ⟨o1, o2, o3, o4, o5, o6, o7, o8⟩ := hao
  obtain ⟨ap, cp, rfl, _⟩ := id hvp
  obtain ⟨ak, ck, rfl, _⟩ := id hvk
  have HD := Lib.hid h
  have HVP := Lib.hid hvp
  have HVK := Lib.hid hvk
  clear h hvp hvk
  go_enter Try.func24, Try.ntmps24
  go_upto_region 1 with fail
  obtain ⟨n0, hn0⟩ : ∃ n0, n0 = w.heap.size := ⟨_, rfl⟩
  have hr0 := heap_alloc_new w (.cells #[.int .u8 a.do_, .int .i64 a.i, .slice ap a.p.length cp, .bool a.odd, .int .i64 a.bit, .int .i64 a.n, .int .u32 a.mask, .slice ak a.keep.length ck] 52)
  have hb0 := bal (bre w) (.cells #[.int .u8 a.do_, .int .i64 a.i, .slice ap a.p.length cp, .bool a.odd, .int .i64 a.bit, .int .i64 a.n, .int .u32 a.mask, .slice ak a.keep.length ck] 52)
  rw [← hn0] at hr0 ⊢
  generalize w.alloc (.cells #[.int .u8 a.do_, .int .i64 a.i, .slice ap a.p.length cp, .bool a.odd, .int .i64 a.bit, .int .i64 a.n, .int .u32 a.mask, .slice ak a.keep.length ck] 52) = W at *
  obtain ⟨f0, f1, f2, f3, f4, f5, f6, f7, ff⟩ := arow8 hr0
  have hdW := HD.out.below hb0
  have hpW := HVP.out.below hb0
  have hkW := HVK.out.below hb0
  have HDW := Lib.hid hdW
  have HPW := Lib.hid hpW
  have HKW := Lib.hid hkW
  have HB0 := Lib.hid hb0
  have hMW := Moved.of_below F hb0
  have HMW := Lib.hid hMW
  have HLT := Lib.hid (show n0 < W.heap.size from (Array.getElem?_eq_some_iff.1 hr0).1)
  clear hdW hpW hkW hb0 hr0 hn0 hMW HD HVP HVK
  go_wp2_with fail
  refine (rot_arg g d F a.i a.bit a.n a.mask W HDW.out (by have := HBAD.out; omega) o7 o8).mono ?_
  rintro e w1 ⟨rfl, rfl⟩
  go_wp2_with fail
  go_ret2
  exact ⟨rfl, HDW.out, HMW.out⟩

set_option maxRecDepth 10000 in
set_option maxHeartbeats 3200000 in
theorem do_rot_index (g : Nat) (d : Dk) (F : Nat → Prop) (v : Value) (a : Actn) (w : World) (h : DiskAt w g d F) (ha : ActAt w v a) (hao : a.Ok) (hd : a.do_ % 7 = 4) (p1 : 0 ≤ a.n) (p2 : a.n ≤ 32) (p3 : 0 ≤ a.bit) (p4 : a.bit + a.n ≤ 4096) (hi : ¬ (0 ≤ a.i ∧ a.i < d.safe.length)) :
    Calls Try.prog 24 #[.pointer (some ⟨g, 0, none⟩), v] w fun e w' => e = .returned (.tuple #[.pointer (some ⟨g, 0, none⟩), .int .i64 6]) ∧ DiskAt w' g d F ∧ Moved w w' F F := by
  have HI := Lib.hid hi
  clear hi
  obtain ⟨vp, vk, rfl, hvp, hvk⟩ := ha
  obtain ⟨o1, o2, o3, o4, o5, o6, o7, o8⟩ := hao
  obtain ⟨ap, cp, rfl, _⟩ := id hvp
  obtain ⟨ak, ck, rfl, _⟩ := id hvk
  have HD := Lib.hid h
  have HVP := Lib.hid hvp
  have HVK := Lib.hid hvk
  clear h hvp hvk
  go_enter Try.func24, Try.ntmps24
  go_upto_region 1 with fail
  obtain ⟨n0, hn0⟩ : ∃ n0, n0 = w.heap.size := ⟨_, rfl⟩
  have hr0 := heap_alloc_new w (.cells #[.int .u8 a.do_, .int .i64 a.i, .slice ap a.p.length cp, .bool a.odd, .int .i64 a.bit, .int .i64 a.n, .int .u32 a.mask, .slice ak a.keep.length ck] 52)
  have hb0 := bal (bre w) (.cells #[.int .u8 a.do_, .int .i64 a.i, .slice ap a.p.length cp, .bool a.odd, .int .i64 a.bit, .int .i64 a.n, .int .u32 a.mask, .slice ak a.keep.length ck] 52)
  rw [← hn0] at hr0 ⊢
  generalize w.alloc (.cells #[.int .u8 a.do_, .int .i64 a.i, .slice ap a.p.length cp, .bool a.odd, .int .i64 a.bit, .int .i64 a.n, .int .u32 a.mask, .slice ak a.keep.length ck] 52) = W at *
  obtain ⟨f0, f1, f2, f3, f4, f5, f6, f7, ff⟩ := arow8 hr0
  have hdW := HD.out.below hb0
  have hpW := HVP.out.below hb0
  have hkW := HVK.out.below hb0
  have HDW := Lib.hid hdW
  have HPW := Lib.hid hpW
  have HKW := Lib.hid hkW
  have HB0 := Lib.hid hb0
  have hMW := Moved.of_below F hb0
  have HMW := Lib.hid hMW
  have HLT := Lib.hid (show n0 < W.heap.size from (Array.getElem?_eq_some_iff.1 hr0).1)
  clear hdW hpW hkW hb0 hr0 hn0 hMW HD HVP HVK
  go_wp2_with fail
  refine (rot_index g d F a.i a.bit a.n a.mask W HDW.out p1 p2 p3 (by omega) HI.out).mono ?_
  rintro e w1 ⟨rfl, rfl⟩
  go_wp2_with fail
  go_ret2
  exact ⟨rfl, HDW.out, HMW.out⟩

set_option maxRecDepth 10000 in
set_option maxHeartbeats 3200000 in
theorem do_rot (g : Nat) (d : Dk) (F : Nat → Prop) (v : Value) (a : Actn) (w : World) (h : DiskAt w g d F) (ha : ActAt w v a) (hao : a.Ok) (hd : a.do_ % 7 = 4) (p1 : 0 ≤ a.n) (p2 : a.n ≤ 32) (p3 : 0 ≤ a.bit) (p4 : a.bit + a.n ≤ 4096) (p5 : 0 ≤ a.i) (p6 : a.i < d.safe.length) (hw : d.wait.length ≤ 1000000) :
    Calls Try.prog 24 #[.pointer (some ⟨g, 0, none⟩), v] w fun e w' => e = .returned (.tuple #[.pointer (some ⟨g, 0, none⟩), .int .i64 0]) ∧ DiskAt w' g (d.rotted a.i.toNat a.bit.toNat a.mask a.n.toNat) F ∧ Moved w w' F F := by
  obtain ⟨vp, vk, rfl, hvp, hvk⟩ := ha
  obtain ⟨o1, o2, o3, o4, o5, o6, o7, o8⟩ := hao
  obtain ⟨ap, cp, rfl, _⟩ := id hvp
  obtain ⟨ak, ck, rfl, _⟩ := id hvk
  have HD := Lib.hid h
  have HVP := Lib.hid hvp
  have HVK := Lib.hid hvk
  clear h hvp hvk
  go_enter Try.func24, Try.ntmps24
  go_upto_region 1 with fail
  obtain ⟨n0, hn0⟩ : ∃ n0, n0 = w.heap.size := ⟨_, rfl⟩
  have hr0 := heap_alloc_new w (.cells #[.int .u8 a.do_, .int .i64 a.i, .slice ap a.p.length cp, .bool a.odd, .int .i64 a.bit, .int .i64 a.n, .int .u32 a.mask, .slice ak a.keep.length ck] 52)
  have hb0 := bal (bre w) (.cells #[.int .u8 a.do_, .int .i64 a.i, .slice ap a.p.length cp, .bool a.odd, .int .i64 a.bit, .int .i64 a.n, .int .u32 a.mask, .slice ak a.keep.length ck] 52)
  rw [← hn0] at hr0 ⊢
  generalize w.alloc (.cells #[.int .u8 a.do_, .int .i64 a.i, .slice ap a.p.length cp, .bool a.odd, .int .i64 a.bit, .int .i64 a.n, .int .u32 a.mask, .slice ak a.keep.length ck] 52) = W at *
  obtain ⟨f0, f1, f2, f3, f4, f5, f6, f7, ff⟩ := arow8 hr0
  have hdW := HD.out.below hb0
  have hpW := HVP.out.below hb0
  have hkW := HVK.out.below hb0
  have HDW := Lib.hid hdW
  have HPW := Lib.hid hpW
  have HKW := Lib.hid hkW
  have HB0 := Lib.hid hb0
  have hMW := Moved.of_below F hb0
  have HMW := Lib.hid hMW
  have HLT := Lib.hid (show n0 < W.heap.size from (Array.getElem?_eq_some_iff.1 hr0).1)
  clear hdW hpW hkW hb0 hr0 hn0 hMW HD HVP HVK
  have hrot := rot_ok g d F a.i.toNat a.bit.toNat a.n.toNat a.mask W HDW.out (by omega) (by omega) (by omega) o2 hw
  rw [show ((a.i.toNat : Nat) : Int) = a.i by omega, show ((a.bit.toNat : Nat) : Int) = a.bit by omega, show ((a.n.toNat : Nat) : Int) = a.n by omega] at hrot
  have HROT := Lib.hid hrot
  clear hrot
  go_wp2_with fail
  refine (HROT.out).mono ?_
  rintro e w1 ⟨rfl, hd1, hm1⟩
  go_wp2_with fail
  go_ret2
  exact ⟨rfl, hd1, HMW.out.trans hm1⟩

set_option maxRecDepth 10000 in
set_option maxHeartbeats 3200000 in
theorem do_crash (g : Nat) (d : Dk) (F : Nat → Prop) (v : Value) (a : Actn) (w : World) (h : DiskAt w g d F) (ha : ActAt w v a) (hao : a.Ok) (hd : a.do_ % 7 = 5) (hw : d.wait.length ≤ 1000000) :
    Calls Try.prog 24 #[.pointer (some ⟨g, 0, none⟩), v] w fun e w' => ∃ g' F', e = .returned (.tuple #[.pointer (some ⟨g', 0, none⟩), .int .i64 0]) ∧ DiskAt w' g' (d.crashed a.keep) F' ∧ (∀ k, F' k → w.heap.size ≤ k) ∧ Below w.heap.size w w' := by
  obtain ⟨vp, vk, rfl, hvp, hvk⟩ := ha
  obtain ⟨o1, o2, o3, o4, o5, o6, o7, o8⟩ := hao
  obtain ⟨ap, cp, rfl, _⟩ := id hvp
  obtain ⟨ak, ck, rfl, _⟩ := id hvk
  have HD := Lib.hid h
  have HVP := Lib.hid hvp
  have HVK := Lib.hid hvk
  clear h hvp hvk
  go_enter Try.func24, Try.ntmps24
  go_upto_region 1 with fail
  obtain ⟨n0, hn0⟩ : ∃ n0, n0 = w.heap.size := ⟨_, rfl⟩
  have hr0 := heap_alloc_new w (.cells #[.int .u8 a.do_, .int .i64 a.i, .slice ap a.p.length cp, .bool a.odd, .int .i64 a.bit, .int .i64 a.n, .int .u32 a.mask, .slice ak a.keep.length ck] 52)
  have hb0 := bal (bre w) (.cells #[.int .u8 a.do_, .int .i64 a.i, .slice ap a.p.length cp, .bool a.odd, .int .i64 a.bit, .int .i64 a.n, .int .u32 a.mask, .slice ak a.keep.length ck] 52)
  rw [← hn0] at hr0 ⊢
  generalize w.alloc (.cells #[.int .u8 a.do_, .int .i64 a.i, .slice ap a.p.length cp, .bool a.odd, .int .i64 a.bit, .int .i64 a.n, .int .u32 a.mask, .slice ak a.keep.length ck] 52) = W at *
  obtain ⟨f0, f1, f2, f3, f4, f5, f6, f7, ff⟩ := arow8 hr0
  have hdW := HD.out.below hb0
  have hpW := HVP.out.below hb0
  have hkW := HVK.out.below hb0
  have HDW := Lib.hid hdW
  have HPW := Lib.hid hpW
  have HKW := Lib.hid hkW
  have HB0 := Lib.hid hb0
  have hMW := Moved.of_below F hb0
  have HMW := Lib.hid hMW
  have HLT := Lib.hid (show n0 < W.heap.size from (Array.getElem?_eq_some_iff.1 hr0).1)
  clear hdW hpW hkW hb0 hr0 hn0 hMW HD HVP HVK
  go_wp2_with fail
  refine (crash_ok g d F _ a.keep W HDW.out HKW.out hw).mono ?_
  rintro e w1 ⟨gn, F', rfl, hd1, hF1, hb1⟩
  go_wp2_with fail
  go_ret2
  exact ⟨gn, F', rfl, hd1, fun k hk => Nat.le_trans HB0.out.size (hF1 k hk), HB0.out.trans (hb1.mono HB0.out.size)⟩

set_option maxRecDepth 10000 in
set_option maxHeartbeats 3200000 in
theorem do_write_odd (g : Nat) (d : Dk) (F : Nat → Prop) (v : Value) (a : Actn) (w : World) (h : DiskAt w g d F) (ha : ActAt w v a) (hao : a.Ok) (z : Nat) (hz : z < 3) (hd : a.do_ % 7 = z) (hodd : a.odd = true) :
    Calls Try.prog 24 #[.pointer (some ⟨g, 0, none⟩), v] w fun e w' => e = .returned (.tuple #[.pointer (some ⟨g, 0, none⟩), .int .i64 1]) ∧ DiskAt w' g d F ∧ Moved w w' F F := by
  have HODD := Lib.hid hodd
  clear hodd
  obtain ⟨vp, vk, rfl, hvp, hvk⟩ := ha
  obtain ⟨o1, o2, o3, o4, o5, o6, o7, o8⟩ := hao
  obtain ⟨ap, cp, rfl, _⟩ := id hvp
  obtain ⟨ak, ck, rfl, _⟩ := id hvk
  have HD := Lib.hid h
  have HVP := Lib.hid hvp
  have HVK := Lib.hid hvk
  clear h hvp hvk
  go_enter Try.func24, Try.ntmps24
  go_upto_region 1 with fail
  obtain ⟨n0, hn0⟩ : ∃ n0, n0 = w.heap.size := ⟨_, rfl⟩
  have hr0 := heap_alloc_new w (.cells #[.int .u8 a.do_, .int .i64 a.i, .slice ap a.p.length cp, .bool a.odd, .int .i64 a.bit, .int .i64 a.n, .int .u32 a.mask, .slice ak a.keep.length ck] 52)
  have hb0 := bal (bre w) (.cells #[.int .u8 a.do_, .int .i64 a.i, .slice ap a.p.length cp, .bool a.odd, .int .i64 a.bit, .int .i64 a.n, .int .u32 a.mask, .slice ak a.keep.length ck] 52)
  rw [← hn0] at hr0 ⊢
  generalize w.alloc (.cells #[.int .u8 a.do_, .int .i64 a.i, .slice ap a.p.length cp, .bool a.odd, .int .i64 a.bit, .int .i64 a.n, .int .u32 a.mask, .slice ak a.keep.length ck] 52) = W at *
  obtain ⟨f0, f1, f2, f3, f4, f5, f6, f7, ff⟩ := arow8 hr0
  have hdW := HD.out.below hb0
  have hpW := HVP.out.below hb0
  have hkW := HVK.out.below hb0
  have HDW := Lib.hid hdW
  have HPW := Lib.hid hpW
  have HKW := Lib.hid hkW
  have HB0 := Lib.hid hb0
  have hMW := Moved.of_below F hb0
  have HMW := Lib.hid hMW
  have HLT := Lib.hid (show n0 < W.heap.size from (Array.getElem?_eq_some_iff.1 hr0).1)
  clear hdW hpW hkW hb0 hr0 hn0 hMW HD HVP HVK
  have hz6 : ((z : Int) == 6) = false := by simp; omega
  have hy6 : decide ((z : Int) = 6) = false := decide_eq_false (by omega)
  have hz3 : ((z : Int) == 3) = false := by simp; omega
  have hy3 : decide ((z : Int) = 3) = false := decide_eq_false (by omega)
  have hz4 : ((z : Int) == 4) = false := by simp; omega
  have hy4 : decide ((z : Int) = 4) = false := decide_eq_false (by omega)
  have hz5 : ((z : Int) == 5) = false := by simp; omega
  have hy5 : decide ((z : Int) = 5) = false := decide_eq_false (by omega)
  have hodd := HODD.out
  rw [hodd] at f3
  go_upto_region 12 with fail
  refine region_anyZ (z := 5) (S := fun w' => w'.cell? ⟨n0, 1, none⟩ = some (.int .i64 a.i)) (by kernel_rfl) ?_
  refine anyZ_begin (fun hcl0 => ?_)
  refine anyZ_held (by exact f1) (fun hHeld => ?_)
  -- 0: Op.move (Operand.tmp 0)
  refine' anyZ_pure (i := 0) (v := _) rfl (by rfl) (by kernel_rfl) (by kernel_rfl) (by kernel_rfl) hcl0 (fun _ _ _ h => h) (Or.inl ⟨by rfl, fun w _ => ?h1⟩) (fun _ => hHeld) (fun hcl1 => ?r1)
  case h1 => (simp only [List.getElem_toArray, List.getElem_cons_zero]; first | (go_simp; with_reducible rfl) | (go_simp; done) | rfl)
  simp only [List.getElem_toArray, List.getElem_cons_zero, Act.put, List.setIfInBounds_toArray, List.set_cons_zero, List.set_cons_succ]
  -- 1: Op.move (Operand.tmp 0)
  refine' anyZ_pure (i := 1) (v := _) rfl (by rfl) (by kernel_rfl) (by kernel_rfl) (by kernel_rfl) hcl1 (fun _ _ _ h => h) (Or.inl ⟨by rfl, fun w _ => ?h2⟩) (fun _ => hHeld) (fun hcl2 => ?r2)
  case h2 => (simp only [List.getElem_toArray, List.getElem_cons_succ, List.getElem_cons_zero]; first | (go_simp; with_reducible rfl) | (go_simp; done) | rfl)
  simp only [List.getElem_toArray, List.getElem_cons_succ, List.getElem_cons_zero, Act.put, List.setIfInBounds_toArray, List.set_cons_zero, List.set_cons_succ]
  -- 2: Op.fieldAddr 52 (Operand.tmp 3) 1
  refine' anyZ_pure (i := 2) (v := _) rfl (by rfl) (by kernel_rfl) (by kernel_rfl) (by kernel_rfl) hcl2 (fun _ _ _ h => h) (Or.inl ⟨by rfl, fun w _ => ?h3⟩) (fun _ => hHeld) (fun hcl3 => ?r3)
  case h3 => (simp only [List.getElem_toArray, List.getElem_cons_succ, List.getElem_cons_zero]; first | (go_simp; with_reducible rfl) | (go_simp; done) | rfl)
  simp only [List.getElem_toArray, List.getElem_cons_succ, List.getElem_cons_zero, Act.put, List.setIfInBounds_toArray, List.set_cons_zero, List.set_cons_succ]
  -- 3: Op.load 3 (Operand.tmp 46)
  refine' anyZ_take (i := 3) (v := _) rfl (by rfl) (by kernel_rfl) (by kernel_rfl) (by kernel_rfl) hcl3 2 (by kernel_rfl) (by kernel_rfl) (fun _ _ _ h => h) (Or.inl ⟨by rfl, fun w hSw => ?h4⟩) hHeld (fun hcl4 => ?r4)
  case h4 => (simp only [List.getElem_toArray, List.getElem_cons_succ, List.getElem_cons_zero]; first | (go_simp; with_reducible rfl) | (go_simp; done) | rfl)
  simp only [List.getElem_toArray, List.getElem_cons_succ, List.getElem_cons_zero, Act.put, List.setIfInBounds_toArray, List.set_cons_zero, List.set_cons_succ]
  -- 4: Op.call { callee := Callee.value (Operand.func 38), args := 
  refine anyZ_one (i := 4) hcl4 (by kernel_rfl) (by simp only [List.getElem?_toArray, List.getElem?_cons_succ, List.getElem?_cons_zero]; rfl) (by rfl) (fun hcl5 K hK => ?_)
  go_simp
  refine (r511_any _).mono ?_
  rintro e w2 ⟨v2, rfl, ho2, hb2⟩
  have hb2' := btr (bdr (bre W)) hb2
  have hy2 := ho2.bytes
  obtain ⟨a2, c2, rfl, _⟩ := id hy2
  refine hK _ _ (fun _ => ?_) ?_
  · exact (hb2'.cell (p := ⟨n0, 1, none⟩) HLT.out).trans f1
  clear hK K hHeld
  try simp only [Act.put, List.setIfInBounds_toArray, List.set_cons_zero, List.set_cons_succ]
  refine anyZ_chain_at (by kernel_rfl) ?_
  simp only [List.drop_succ_cons, List.drop_zero]
  go_wp2_with fail
  refine (write_arg g d F a.i _ (List.replicate 511 0) w2 (HDW.out.below hb2') hy2 (by rw [List.length_replicate]; omega)).mono ?_
  rintro e w3 ⟨rfl, rfl⟩
  go_wp2_with fail
  go_ret2
  exact ⟨rfl, HDW.out.below hb2', HMW.out.trans (Moved.of_below F hb2')⟩

set_option maxRecDepth 10000 in
set_option maxHeartbeats 3200000 in
theorem do_write_index (g : Nat) (d : Dk) (F : Nat → Prop) (v : Value) (a : Actn) (w : World) (h : DiskAt w g d F) (ha : ActAt w v a) (hao : a.Ok) (z : Nat) (hz : z < 3) (hd : a.do_ % 7 = z) (hodd : a.odd = false) (hi : ¬ (0 ≤ a.i ∧ a.i < d.safe.length)) :
    Calls Try.prog 24 #[.pointer (some ⟨g, 0, none⟩), v] w fun e w' => e = .returned (.tuple #[.pointer (some ⟨g, 0, none⟩), .int .i64 6]) ∧ DiskAt w' g d F ∧ Moved w w' F F := by
  have HODD := Lib.hid hodd
  clear hodd
  have HI := Lib.hid hi
  clear hi
  obtain ⟨vp, vk, rfl, hvp, hvk⟩ := ha
  obtain ⟨o1, o2, o3, o4, o5, o6, o7, o8⟩ := hao
  obtain ⟨ap, cp, rfl, _⟩ := id hvp
  obtain ⟨ak, ck, rfl, _⟩ := id hvk
  have HD := Lib.hid h
  have HVP := Lib.hid hvp
  have HVK := Lib.hid hvk
  clear h hvp hvk
  go_enter Try.func24, Try.ntmps24
  go_upto_region 1 with fail
  obtain ⟨n0, hn0⟩ : ∃ n0, n0 = w.heap.size := ⟨_, rfl⟩
  have hr0 := heap_alloc_new w (.cells #[.int .u8 a.do_, .int .i64 a.i, .slice ap a.p.length cp, .bool a.odd, .int .i64 a.bit, .int .i64 a.n, .int .u32 a.mask, .slice ak a.keep.length ck] 52)
  have hb0 := bal (bre w) (.cells #[.int .u8 a.do_, .int .i64 a.i, .slice ap a.p.length cp, .bool a.odd, .int .i64 a.bit, .int .i64 a.n, .int .u32 a.mask, .slice ak a.keep.length ck] 52)
  rw [← hn0] at hr0 ⊢
  generalize w.alloc (.cells #[.int .u8 a.do_, .int .i64 a.i, .slice ap a.p.length cp, .bool a.odd, .int .i64 a.bit, .int .i64 a.n, .int .u32 a.mask, .slice ak a.keep.length ck] 52) = W at *
  obtain ⟨f0, f1, f2, f3, f4, f5, f6, f7, ff⟩ := arow8 hr0
  have hdW := HD.out.below hb0
  have hpW := HVP.out.below hb0
  have hkW := HVK.out.below hb0
  have HDW := Lib.hid hdW
  have HPW := Lib.hid hpW
  have HKW := Lib.hid hkW
  have HB0 := Lib.hid hb0
  have hMW := Moved.of_below F hb0
  have HMW := Lib.hid hMW
  have HLT := Lib.hid (show n0 < W.heap.size from (Array.getElem?_eq_some_iff.1 hr0).1)
  clear hdW hpW hkW hb0 hr0 hn0 hMW HD HVP HVK
  have hz6 : ((z : Int) == 6) = false := by simp; omega
  have hy6 : decide ((z : Int) = 6) = false := decide_eq_false (by omega)
  have hz3 : ((z : Int) == 3) = false := by simp; omega
  have hy3 : decide ((z : Int) = 3) = false := decide_eq_false (by omega)
  have hz4 : ((z : Int) == 4) = false := by simp; omega
  have hy4 : decide ((z : Int) = 4) = false := decide_eq_false (by omega)
  have hz5 : ((z : Int) == 5) = false := by simp; omega
  have hy5 : decide ((z : Int) = 5) = false := decide_eq_false (by omega)
  have hodd := HODD.out
  rw [hodd] at f3
  go_upto_region 13 with fail
  refine region_anyZ (z := 7) (S := fun w' => w'.cell? ⟨n0, 1, none⟩ = some (.int .i64 a.i) ∧ w'.cell? ⟨n0, 2, none⟩ = some (.slice ap a.p.length cp)) (by kernel_rfl) ?_
  refine anyZ_begin (fun hcl0 => ?_)
  refine anyZ_held (by exact ⟨f1, f2⟩) (fun hHeld => ?_)
  -- 0: Op.move (Operand.tmp 0)
  refine' anyZ_pure (i := 0) (v := _) rfl (by rfl) (by kernel_rfl) (by kernel_rfl) (by kernel_rfl) hcl0 (fun _ _ _ h => h) (Or.inl ⟨by rfl, fun w _ => ?h1⟩) (fun _ => hHeld) (fun hcl1 => ?r1)
  case h1 => (simp only [List.getElem_toArray, List.getElem_cons_zero]; first | (go_simp; with_reducible rfl) | (go_simp; done) | rfl)
  simp only [List.getElem_toArray, List.getElem_cons_zero, Act.put, List.setIfInBounds_toArray, List.set_cons_zero, List.set_cons_succ]
  -- 1: Op.move (Operand.tmp 0)
  refine' anyZ_pure (i := 1) (v := _) rfl (by rfl) (by kernel_rfl) (by kernel_rfl) (by kernel_rfl) hcl1 (fun _ _ _ h => h) (Or.inl ⟨by rfl, fun w _ => ?h2⟩) (fun _ => hHeld) (fun hcl2 => ?r2)
  case h2 => (simp only [List.getElem_toArray, List.getElem_cons_succ, List.getElem_cons_zero]; first | (go_simp; with_reducible rfl) | (go_simp; done) | rfl)
  simp only [List.getElem_toArray, List.getElem_cons_succ, List.getElem_cons_zero, Act.put, List.setIfInBounds_toArray, List.set_cons_zero, List.set_cons_succ]
  -- 2: Op.fieldAddr 52 (Operand.tmp 3) 1
  refine' anyZ_pure (i := 2) (v := _) rfl (by rfl) (by kernel_rfl) (by kernel_rfl) (by kernel_rfl) hcl2 (fun _ _ _ h => h) (Or.inl ⟨by rfl, fun w _ => ?h3⟩) (fun _ => hHeld) (fun hcl3 => ?r3)
  case h3 => (simp only [List.getElem_toArray, List.getElem_cons_succ, List.getElem_cons_zero]; first | (go_simp; with_reducible rfl) | (go_simp; done) | rfl)
  simp only [List.getElem_toArray, List.getElem_cons_succ, List.getElem_cons_zero, Act.put, List.setIfInBounds_toArray, List.set_cons_zero, List.set_cons_succ]
  -- 3: Op.load 3 (Operand.tmp 52)
  refine' anyZ_take (i := 3) (v := _) rfl (by rfl) (by kernel_rfl) (by kernel_rfl) (by kernel_rfl) hcl3 2 (by kernel_rfl) (by kernel_rfl) (fun _ _ _ h => h) (Or.inl ⟨by rfl, fun w hSw => ?h4⟩) hHeld (fun hcl4 => ?r4)
  case h4 => (simp only [List.getElem_toArray, List.getElem_cons_succ, List.getElem_cons_zero]; obtain ⟨hS1, hS2⟩ := hSw; first | (go_simp; with_reducible rfl) | (go_simp; done) | rfl)
  simp only [List.getElem_toArray, List.getElem_cons_succ, List.getElem_cons_zero, Act.put, List.setIfInBounds_toArray, List.set_cons_zero, List.set_cons_succ]
  -- 4: Op.fieldAddr 52 (Operand.tmp 3) 2
  refine' anyZ_pure (i := 4) (v := _) rfl (by rfl) (by kernel_rfl) (by kernel_rfl) (by kernel_rfl) hcl4 (fun _ _ _ h => h) (Or.inl ⟨by rfl, fun w _ => ?h5⟩) (fun _ => hHeld) (fun hcl5 => ?r5)
  case h5 => (simp only [List.getElem_toArray, List.getElem_cons_succ, List.getElem_cons_zero]; first | (go_simp; with_reducible rfl) | (go_simp; done) | rfl)
  simp only [List.getElem_toArray, List.getElem_cons_succ, List.getElem_cons_zero, Act.put, List.setIfInBounds_toArray, List.set_cons_zero, List.set_cons_succ]
  -- 5: Op.load 22 (Operand.tmp 54)
  refine' anyZ_take (i := 5) (v := _) rfl (by rfl) (by kernel_rfl) (by kernel_rfl) (by kernel_rfl) hcl5 2 (by kernel_rfl) (by kernel_rfl) (fun _ _ _ h => h) (Or.inl ⟨by rfl, fun w hSw => ?h6⟩) hHeld (fun hcl6 => ?r6)
  case h6 => (simp only [List.getElem_toArray, List.getElem_cons_succ, List.getElem_cons_zero]; obtain ⟨hS1, hS2⟩ := hSw; first | (go_simp; with_reducible rfl) | (go_simp; done) | rfl)
  simp only [List.getElem_toArray, List.getElem_cons_succ, List.getElem_cons_zero, Act.put, List.setIfInBounds_toArray, List.set_cons_zero, List.set_cons_succ]
  -- 6: Op.call { callee := Callee.value (Operand.func 11), args := 
  refine anyZ_one (i := 6) hcl6 (by kernel_rfl) (by simp only [List.getElem?_toArray, List.getElem?_cons_succ, List.getElem?_cons_zero]; rfl) (by rfl) (fun hcl7 K hK => ?_)
  go_simp
  refine (full_any _ a.p _ (HPW.out.below (bdr (bre W)))).mono ?_
  rintro e w2 ⟨v2, rfl, ho2, hb2⟩
  have hb2' := btr (bdr (bre W)) hb2
  have hy2 := ho2.bytes
  obtain ⟨a2, c2, rfl, _⟩ := id hy2
  refine hK _ _ (fun _ => ?_) ?_
  · exact ⟨(hb2'.cell (p := ⟨n0, 1, none⟩) HLT.out).trans f1, (hb2'.cell (p := ⟨n0, 2, none⟩) HLT.out).trans f2⟩
  clear hK K hHeld
  try simp only [Act.put, List.setIfInBounds_toArray, List.set_cons_zero, List.set_cons_succ]
  refine anyZ_chain_at (by kernel_rfl) ?_
  simp only [List.drop_succ_cons, List.drop_zero]
  go_wp2_with fail
  refine (write_index g d F a.i _ (fullOf a.p) w2 (HDW.out.below hb2') hy2 (fullOf_length _) HI.out).mono ?_
  rintro e w3 ⟨rfl, rfl⟩
  go_wp2_with fail
  go_ret2
  exact ⟨rfl, HDW.out.below hb2', HMW.out.trans (Moved.of_below F hb2')⟩

set_option maxRecDepth 10000 in
set_option maxHeartbeats 3200000 in
theorem do_write_off (g : Nat) (d : Dk) (F : Nat → Prop) (v : Value) (a : Actn) (w : World) (h : DiskAt w g d F) (ha : ActAt w v a) (hao : a.Ok) (z : Nat) (hz : z < 3) (hd : a.do_ % 7 = z) (hodd : a.odd = false) (hi : 0 ≤ a.i ∧ a.i < d.safe.length) (hm : d.may = false) (hl0 : d.bound = true → -9223372036854775808 < d.left) (hl1 : d.left ≤ 9223372036854775807) :
    Calls Try.prog 24 #[.pointer (some ⟨g, 0, none⟩), v] w fun e w' => e = .returned (.tuple #[.pointer (some ⟨g, 0, none⟩), .int .i64 8]) ∧ DiskAt w' g d F ∧ Moved w w' F F := by
  have HODD := Lib.hid hodd
  clear hodd
  have HI := Lib.hid hi
  clear hi
  obtain ⟨vp, vk, rfl, hvp, hvk⟩ := ha
  obtain ⟨o1, o2, o3, o4, o5, o6, o7, o8⟩ := hao
  obtain ⟨ap, cp, rfl, _⟩ := id hvp
  obtain ⟨ak, ck, rfl, _⟩ := id hvk
  have HD := Lib.hid h
  have HVP := Lib.hid hvp
  have HVK := Lib.hid hvk
  clear h hvp hvk
  go_enter Try.func24, Try.ntmps24
  go_upto_region 1 with fail
  obtain ⟨n0, hn0⟩ : ∃ n0, n0 = w.heap.size := ⟨_, rfl⟩
  have hr0 := heap_alloc_new w (.cells #[.int .u8 a.do_, .int .i64 a.i, .slice ap a.p.length cp, .bool a.odd, .int .i64 a.bit, .int .i64 a.n, .int .u32 a.mask, .slice ak a.keep.length ck] 52)
  have hb0 := bal (bre w) (.cells #[.int .u8 a.do_, .int .i64 a.i, .slice ap a.p.length cp, .bool a.odd, .int .i64 a.bit, .int .i64 a.n, .int .u32 a.mask, .slice ak a.keep.length ck] 52)
  rw [← hn0] at hr0 ⊢
  generalize w.alloc (.cells #[.int .u8 a.do_, .int .i64 a.i, .slice ap a.p.length cp, .bool a.odd, .int .i64 a.bit, .int .i64 a.n, .int .u32 a.mask, .slice ak a.keep.length ck] 52) = W at *
  obtain ⟨f0, f1, f2, f3, f4, f5, f6, f7, ff⟩ := arow8 hr0
  have hdW := HD.out.below hb0
  have hpW := HVP.out.below hb0
  have hkW := HVK.out.below hb0
  have HDW := Lib.hid hdW
  have HPW := Lib.hid hpW
  have HKW := Lib.hid hkW
  have HB0 := Lib.hid hb0
  have hMW := Moved.of_below F hb0
  have HMW := Lib.hid hMW
  have HLT := Lib.hid (show n0 < W.heap.size from (Array.getElem?_eq_some_iff.1 hr0).1)
  clear hdW hpW hkW hb0 hr0 hn0 hMW HD HVP HVK
  have hz6 : ((z : Int) == 6) = false := by simp; omega
  have hy6 : decide ((z : Int) = 6) = false := decide_eq_false (by omega)
  have hz3 : ((z : Int) == 3) = false := by simp; omega
  have hy3 : decide ((z : Int) = 3) = false := decide_eq_false (by omega)
  have hz4 : ((z : Int) == 4) = false := by simp; omega
  have hy4 : decide ((z : Int) = 4) = false := decide_eq_false (by omega)
  have hz5 : ((z : Int) == 5) = false := by simp; omega
  have hy5 : decide ((z : Int) = 5) = false := decide_eq_false (by omega)
  have hodd := HODD.out
  rw [hodd] at f3
  go_upto_region 13 with fail
  refine region_anyZ (z := 7) (S := fun w' => w'.cell? ⟨n0, 1, none⟩ = some (.int .i64 a.i) ∧ w'.cell? ⟨n0, 2, none⟩ = some (.slice ap a.p.length cp)) (by kernel_rfl) ?_
  refine anyZ_begin (fun hcl0 => ?_)
  refine anyZ_held (by exact ⟨f1, f2⟩) (fun hHeld => ?_)
  -- 0: Op.move (Operand.tmp 0)
  refine' anyZ_pure (i := 0) (v := _) rfl (by rfl) (by kernel_rfl) (by kernel_rfl) (by kernel_rfl) hcl0 (fun _ _ _ h => h) (Or.inl ⟨by rfl, fun w _ => ?h1⟩) (fun _ => hHeld) (fun hcl1 => ?r1)
  case h1 => (simp only [List.getElem_toArray, List.getElem_cons_zero]; first | (go_simp; with_reducible rfl) | (go_simp; done) | rfl)
  simp only [List.getElem_toArray, List.getElem_cons_zero, Act.put, List.setIfInBounds_toArray, List.set_cons_zero, List.set_cons_succ]
  -- 1: Op.move (Operand.tmp 0)
  refine' anyZ_pure (i := 1) (v := _) rfl (by rfl) (by kernel_rfl) (by kernel_rfl) (by kernel_rfl) hcl1 (fun _ _ _ h => h) (Or.inl ⟨by rfl, fun w _ => ?h2⟩) (fun _ => hHeld) (fun hcl2 => ?r2)
  case h2 => (simp only [List.getElem_toArray, List.getElem_cons_succ, List.getElem_cons_zero]; first | (go_simp; with_reducible rfl) | (go_simp; done) | rfl)
  simp only [List.getElem_toArray, List.getElem_cons_succ, List.getElem_cons_zero, Act.put, List.setIfInBounds_toArray, List.set_cons_zero, List.set_cons_succ]
  -- 2: Op.fieldAddr 52 (Operand.tmp 3) 1
  refine' anyZ_pure (i := 2) (v := _) rfl (by rfl) (by kernel_rfl) (by kernel_rfl) (by kernel_rfl) hcl2 (fun _ _ _ h => h) (Or.inl ⟨by rfl, fun w _ => ?h3⟩) (fun _ => hHeld) (fun hcl3 => ?r3)
  case h3 => (simp only [List.getElem_toArray, List.getElem_cons_succ, List.getElem_cons_zero]; first | (go_simp; with_reducible rfl) | (go_simp; done) | rfl)
  simp only [List.getElem_toArray, List.getElem_cons_succ, List.getElem_cons_zero, Act.put, List.setIfInBounds_toArray, List.set_cons_zero, List.set_cons_succ]
  -- 3: Op.load 3 (Operand.tmp 52)
  refine' anyZ_take (i := 3) (v := _) rfl (by rfl) (by kernel_rfl) (by kernel_rfl) (by kernel_rfl) hcl3 2 (by kernel_rfl) (by kernel_rfl) (fun _ _ _ h => h) (Or.inl ⟨by rfl, fun w hSw => ?h4⟩) hHeld (fun hcl4 => ?r4)
  case h4 => (simp only [List.getElem_toArray, List.getElem_cons_succ, List.getElem_cons_zero]; obtain ⟨hS1, hS2⟩ := hSw; first | (go_simp; with_reducible rfl) | (go_simp; done) | rfl)
  simp only [List.getElem_toArray, List.getElem_cons_succ, List.getElem_cons_zero, Act.put, List.setIfInBounds_toArray, List.set_cons_zero, List.set_cons_succ]
  -- 4: Op.fieldAddr 52 (Operand.tmp 3) 2
  refine' anyZ_pure (i := 4) (v := _) rfl (by rfl) (by kernel_rfl) (by kernel_rfl) (by kernel_rfl) hcl4 (fun _ _ _ h => h) (Or.inl ⟨by rfl, fun w _ => ?h5⟩) (fun _ => hHeld) (fun hcl5 => ?r5)
  case h5 => (simp only [List.getElem_toArray, List.getElem_cons_succ, List.getElem_cons_zero]; first | (go_simp; with_reducible rfl) | (go_simp; done) | rfl)
  simp only [List.getElem_toArray, List.getElem_cons_succ, List.getElem_cons_zero, Act.put, List.setIfInBounds_toArray, List.set_cons_zero, List.set_cons_succ]
  -- 5: Op.load 22 (Operand.tmp 54)
  refine' anyZ_take (i := 5) (v := _) rfl (by rfl) (by kernel_rfl) (by kernel_rfl) (by kernel_rfl) hcl5 2 (by kernel_rfl) (by kernel_rfl) (fun _ _ _ h => h) (Or.inl ⟨by rfl, fun w hSw => ?h6⟩) hHeld (fun hcl6 => ?r6)
  case h6 => (simp only [List.getElem_toArray, List.getElem_cons_succ, List.getElem_cons_zero]; obtain ⟨hS1, hS2⟩ := hSw; first | (go_simp; with_reducible rfl) | (go_simp; done) | rfl)
  simp only [List.getElem_toArray, List.getElem_cons_succ, List.getElem_cons_zero, Act.put, List.setIfInBounds_toArray, List.set_cons_zero, List.set_cons_succ]
  -- 6: Op.call { callee := Callee.value (Operand.func 11), args := 
  refine anyZ_one (i := 6) hcl6 (by kernel_rfl) (by simp only [List.getElem?_toArray, List.getElem?_cons_succ, List.getElem?_cons_zero]; rfl) (by rfl) (fun hcl7 K hK => ?_)
  go_simp
  refine (full_any _ a.p _ (HPW.out.below (bdr (bre W)))).mono ?_
  rintro e w2 ⟨v2, rfl, ho2, hb2⟩
  have hb2' := btr (bdr (bre W)) hb2
  have hy2 := ho2.bytes
  obtain ⟨a2, c2, rfl, _⟩ := id hy2
  refine hK _ _ (fun _ => ?_) ?_
  · exact ⟨(hb2'.cell (p := ⟨n0, 1, none⟩) HLT.out).trans f1, (hb2'.cell (p := ⟨n0, 2, none⟩) HLT.out).trans f2⟩
  clear hK K hHeld
  try simp only [Act.put, List.setIfInBounds_toArray, List.set_cons_zero, List.set_cons_succ]
  refine anyZ_chain_at (by kernel_rfl) ?_
  simp only [List.drop_succ_cons, List.drop_zero]
  have hwr := write_off_free g d F a.i.toNat _ (fullOf a.p) w2 (HDW.out.below hb2') (by have := HI.out; omega) hm hy2 (fullOf_length _) hl0 hl1
  rw [show ((a.i.toNat : Nat) : Int) = a.i by have := HI.out; omega] at hwr
  have HWR := Lib.hid hwr
  clear hwr
  go_wp2_with fail
  refine (HWR.out).mono ?_
  rintro e w3 ⟨rfl, hd1, hm1⟩
  go_wp2_with fail
  go_ret2
  exact ⟨rfl, hd1, HMW.out.trans ((Moved.of_below F hb2').trans hm1)⟩

set_option maxRecDepth 10000 in
set_option maxHeartbeats 3200000 in
theorem do_write (g : Nat) (d : Dk) (F : Nat → Prop) (v : Value) (a : Actn) (w : World) (h : DiskAt w g d F) (ha : ActAt w v a) (hao : a.Ok) (z : Nat) (hz : z < 3) (hd : a.do_ % 7 = z) (hodd : a.odd = false) (hi : 0 ≤ a.i ∧ a.i < d.safe.length) (hm : d.may = true) (hl0 : d.bound = true → -9223372036854775808 < d.left) (hl1 : d.left ≤ 9223372036854775807) (hc : d.count ≤ 1000000) (hw : d.wait.length ≤ 1000000) :
    Calls Try.prog 24 #[.pointer (some ⟨g, 0, none⟩), v] w fun e w' => ∃ F', e = .returned (.tuple #[.pointer (some ⟨g, 0, none⟩), .int .i64 0]) ∧ DiskAt w' g (d.wrote a.i.toNat (fullOf a.p)) F' ∧ Moved w w' F F' := by
  have HODD := Lib.hid hodd
  clear hodd
  have HI := Lib.hid hi
  clear hi
  obtain ⟨vp, vk, rfl, hvp, hvk⟩ := ha
  obtain ⟨o1, o2, o3, o4, o5, o6, o7, o8⟩ := hao
  obtain ⟨ap, cp, rfl, _⟩ := id hvp
  obtain ⟨ak, ck, rfl, _⟩ := id hvk
  have HD := Lib.hid h
  have HVP := Lib.hid hvp
  have HVK := Lib.hid hvk
  clear h hvp hvk
  go_enter Try.func24, Try.ntmps24
  go_upto_region 1 with fail
  obtain ⟨n0, hn0⟩ : ∃ n0, n0 = w.heap.size := ⟨_, rfl⟩
  have hr0 := heap_alloc_new w (.cells #[.int .u8 a.do_, .int .i64 a.i, .slice ap a.p.length cp, .bool a.odd, .int .i64 a.bit, .int .i64 a.n, .int .u32 a.mask, .slice ak a.keep.length ck] 52)
  have hb0 := bal (bre w) (.cells #[.int .u8 a.do_, .int .i64 a.i, .slice ap a.p.length cp, .bool a.odd, .int .i64 a.bit, .int .i64 a.n, .int .u32 a.mask, .slice ak a.keep.length ck] 52)
  rw [← hn0] at hr0 ⊢
  generalize w.alloc (.cells #[.int .u8 a.do_, .int .i64 a.i, .slice ap a.p.length cp, .bool a.odd, .int .i64 a.bit, .int .i64 a.n, .int .u32 a.mask, .slice ak a.keep.length ck] 52) = W at *
  obtain ⟨f0, f1, f2, f3, f4, f5, f6, f7, ff⟩ := arow8 hr0
  have hdW := HD.out.below hb0
  have hpW := HVP.out.below hb0
  have hkW := HVK.out.below hb0
  have HDW := Lib.hid hdW
  have HPW := Lib.hid hpW
  have HKW := Lib.hid hkW
  have HB0 := Lib.hid hb0
  have hMW := Moved.of_below F hb0
  have HMW := Lib.hid hMW
  have HLT := Lib.hid (show n0 < W.heap.size from (Array.getElem?_eq_some_iff.1 hr0).1)
  clear hdW hpW hkW hb0 hr0 hn0 hMW HD HVP HVK
  have hz6 : ((z : Int) == 6) = false := by simp; omega
  have hy6 : decide ((z : Int) = 6) = false := decide_eq_false (by omega)
  have hz3 : ((z : Int) == 3) = false := by simp; omega
  have hy3 : decide ((z : Int) = 3) = false := decide_eq_false (by omega)
  have hz4 : ((z : Int) == 4) = false := by simp; omega
  have hy4 : decide ((z : Int) = 4) = false := decide_eq_false (by omega)
  have hz5 : ((z : Int) == 5) = false := by simp; omega
  have hy5 : decide ((z : Int) = 5) = false := decide_eq_false (by omega)
  have hodd := HODD.out
  rw [hodd] at f3
  go_upto_region 13 with fail
  refine region_anyZ (z := 7) (S := fun w' => w'.cell? ⟨n0, 1, none⟩ = some (.int .i64 a.i) ∧ w'.cell? ⟨n0, 2, none⟩ = some (.slice ap a.p.length cp)) (by kernel_rfl) ?_
  refine anyZ_begin (fun hcl0 => ?_)
  refine anyZ_held (by exact ⟨f1, f2⟩) (fun hHeld => ?_)
  -- 0: Op.move (Operand.tmp 0)
  refine' anyZ_pure (i := 0) (v := _) rfl (by rfl) (by kernel_rfl) (by kernel_rfl) (by kernel_rfl) hcl0 (fun _ _ _ h => h) (Or.inl ⟨by rfl, fun w _ => ?h1⟩) (fun _ => hHeld) (fun hcl1 => ?r1)
  case h1 => (simp only [List.getElem_toArray, List.getElem_cons_zero]; first | (go_simp; with_reducible rfl) | (go_simp; done) | rfl)
  simp only [List.getElem_toArray, List.getElem_cons_zero, Act.put, List.setIfInBounds_toArray, List.set_cons_zero, List.set_cons_succ]
  -- 1: Op.move (Operand.tmp 0)
  refine' anyZ_pure (i := 1) (v := _) rfl (by rfl) (by kernel_rfl) (by kernel_rfl) (by kernel_rfl) hcl1 (fun _ _ _ h => h) (Or.inl ⟨by rfl, fun w _ => ?h2⟩) (fun _ => hHeld) (fun hcl2 => ?r2)
  case h2 => (simp only [List.getElem_toArray, List.getElem_cons_succ, List.getElem_cons_zero]; first | (go_simp; with_reducible rfl) | (go_simp; done) | rfl)
  simp only [List.getElem_toArray, List.getElem_cons_succ, List.getElem_cons_zero, Act.put, List.setIfInBounds_toArray, List.set_cons_zero, List.set_cons_succ]
  -- 2: Op.fieldAddr 52 (Operand.tmp 3) 1
  refine' anyZ_pure (i := 2) (v := _) rfl (by rfl) (by kernel_rfl) (by kernel_rfl) (by kernel_rfl) hcl2 (fun _ _ _ h => h) (Or.inl ⟨by rfl, fun w _ => ?h3⟩) (fun _ => hHeld) (fun hcl3 => ?r3)
  case h3 => (simp only [List.getElem_toArray, List.getElem_cons_succ, List.getElem_cons_zero]; first | (go_simp; with_reducible rfl) | (go_simp; done) | rfl)
  simp only [List.getElem_toArray, List.getElem_cons_succ, List.getElem_cons_zero, Act.put, List.setIfInBounds_toArray, List.set_cons_zero, List.set_cons_succ]
  -- 3: Op.load 3 (Operand.tmp 52)
  refine' anyZ_take (i := 3) (v := _) rfl (by rfl) (by kernel_rfl) (by kernel_rfl) (by kernel_rfl) hcl3 2 (by kernel_rfl) (by kernel_rfl) (fun _ _ _ h => h) (Or.inl ⟨by rfl, fun w hSw => ?h4⟩) hHeld (fun hcl4 => ?r4)
  case h4 => (simp only [List.getElem_toArray, List.getElem_cons_succ, List.getElem_cons_zero]; obtain ⟨hS1, hS2⟩ := hSw; first | (go_simp; with_reducible rfl) | (go_simp; done) | rfl)
  simp only [List.getElem_toArray, List.getElem_cons_succ, List.getElem_cons_zero, Act.put, List.setIfInBounds_toArray, List.set_cons_zero, List.set_cons_succ]
  -- 4: Op.fieldAddr 52 (Operand.tmp 3) 2
  refine' anyZ_pure (i := 4) (v := _) rfl (by rfl) (by kernel_rfl) (by kernel_rfl) (by kernel_rfl) hcl4 (fun _ _ _ h => h) (Or.inl ⟨by rfl, fun w _ => ?h5⟩) (fun _ => hHeld) (fun hcl5 => ?r5)
  case h5 => (simp only [List.getElem_toArray, List.getElem_cons_succ, List.getElem_cons_zero]; first | (go_simp; with_reducible rfl) | (go_simp; done) | rfl)
  simp only [List.getElem_toArray, List.getElem_cons_succ, List.getElem_cons_zero, Act.put, List.setIfInBounds_toArray, List.set_cons_zero, List.set_cons_succ]
  -- 5: Op.load 22 (Operand.tmp 54)
  refine' anyZ_take (i := 5) (v := _) rfl (by rfl) (by kernel_rfl) (by kernel_rfl) (by kernel_rfl) hcl5 2 (by kernel_rfl) (by kernel_rfl) (fun _ _ _ h => h) (Or.inl ⟨by rfl, fun w hSw => ?h6⟩) hHeld (fun hcl6 => ?r6)
  case h6 => (simp only [List.getElem_toArray, List.getElem_cons_succ, List.getElem_cons_zero]; obtain ⟨hS1, hS2⟩ := hSw; first | (go_simp; with_reducible rfl) | (go_simp; done) | rfl)
  simp only [List.getElem_toArray, List.getElem_cons_succ, List.getElem_cons_zero, Act.put, List.setIfInBounds_toArray, List.set_cons_zero, List.set_cons_succ]
  -- 6: Op.call { callee := Callee.value (Operand.func 11), args := 
  refine anyZ_one (i := 6) hcl6 (by kernel_rfl) (by simp only [List.getElem?_toArray, List.getElem?_cons_succ, List.getElem?_cons_zero]; rfl) (by rfl) (fun hcl7 K hK => ?_)
  go_simp
  refine (full_any _ a.p _ (HPW.out.below (bdr (bre W)))).mono ?_
  rintro e w2 ⟨v2, rfl, ho2, hb2⟩
  have hb2' := btr (bdr (bre W)) hb2
  have hy2 := ho2.bytes
  obtain ⟨a2, c2, rfl, _⟩ := id hy2
  refine hK _ _ (fun _ => ?_) ?_
  · exact ⟨(hb2'.cell (p := ⟨n0, 1, none⟩) HLT.out).trans f1, (hb2'.cell (p := ⟨n0, 2, none⟩) HLT.out).trans f2⟩
  clear hK K hHeld
  try simp only [Act.put, List.setIfInBounds_toArray, List.set_cons_zero, List.set_cons_succ]
  refine anyZ_chain_at (by kernel_rfl) ?_
  simp only [List.drop_succ_cons, List.drop_zero]
  have hwr := write_ok_free g d F a.i.toNat _ (fullOf a.p) w2 (HDW.out.below hb2') (by have := HI.out; omega) hm hy2 (fullOf_length _) hl0 hl1 hc hw
  rw [show ((a.i.toNat : Nat) : Int) = a.i by have := HI.out; omega] at hwr
  have HWR := Lib.hid hwr
  clear hwr
  go_wp2_with fail
  refine (HWR.out).mono ?_
  rintro e w3 ⟨F', rfl, hd1, hm1⟩
  go_wp2_with fail
  go_ret2
  first | exact ⟨F', rfl, hd1, HMW.out.trans ((Moved.of_below F hb2').trans hm1)⟩ | exact ⟨rfl, F', hd1, HMW.out.trans ((Moved.of_below F hb2').trans hm1)⟩

end Go.Proofs.Ytkonjjanoifinaa
