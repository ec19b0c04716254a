/- Crowns: refused. -/
import Derived.Test.YtejdlgfiiagcmaaDoorCrF
import Derived.Test.YtejdlgfiiagcmaaDoorDkWrites
namespace Go.Proofs.YtejdlgfiiagcmaaDoor
open Go.RowKit

set_option maxRecDepth 10000 in
theorem sectors_nil (w : World) :
    Calls Tryd.prog 35 #[.pointer none] w fun e w' => e = .returned (.int .i64 0) ∧ w' = w := by
  go_enter Tryd.func35, Tryd.ntmps35
  go_wp2
  go_ret
  exact ⟨rfl, rfl⟩

set_option maxRecDepth 20000 in
set_option maxHeartbeats 800000 in
theorem cread_nil (w : World) :
    Calls Tryd.prog 14 #[.pointer none] w fun e w' => e = .returned (.tuple #[CrVal Cr.zero, .int .i64 0, .int .i64 3]) ∧ Below w.heap.size w w' := by
  go_enter Tryd.func14, Tryd.ntmps14
  go_wp2_with fail
  have hb0 := bal (bal (bre w) (.cells #[.int .u32 0, .int .u8 0, .int .u32 0] 24)) (.cells #[.int .u32 0, .int .u8 0, .int .u32 0] 24)
  obtain ⟨hr1, hr2⟩ := box_two w (.cells #[.int .u32 0, .int .u8 0, .int .u32 0] 24) (.cells #[.int .u32 0, .int .u8 0, .int .u32 0] 24)
  generalize (w.alloc (.cells #[.int .u32 0, .int .u8 0, .int .u32 0] 24)).alloc (.cells #[.int .u32 0, .int .u8 0, .int .u32 0] 24) = W at *
  obtain ⟨n2, hn2⟩ : ∃ n, n = w.heap.size := ⟨_, rfl⟩
  rw [← hn2] at hr1 ⊢
  have HN2 : Hid (w.heap.size ≤ n2) := Lib.hid (by omega)
  have HB0 := Lib.hid hb0
  have HR1 : Hid (Row3 W n2 Cr.zero) := Lib.hid hr1
  clear hb0 hr1 hr2 hn2
  refine (sectors_nil W).mono ?_
  rintro e w1 ⟨rfl, hw1⟩
  have hw1' := hw1.symm
  subst hw1'
  clear hw1
  have z0 := HR1.out.c0
  have z1 := HR1.out.c1
  have z2 := HR1.out.c2
  have zf := HR1.out.fz
  go_wp2_with fail
  obtain ⟨hz1, hz3⟩ := cr_zero HR1.out
  have hz2 := hz3 _ w HN2.out HB0.out
  generalize (((W.setCell ⟨n2, 0, none⟩ (.int .u32 0)).setCell ⟨n2, 1, none⟩ (.int .u8 0)).setCell ⟨n2, 2, none⟩ (.int .u32 0)) = W9z at *
  have g0 : W9z.cell? ⟨n2, 0, none⟩ = some (.int .u32 0) := hz1.c0
  have g1 : W9z.cell? ⟨n2, 1, none⟩ = some (.int .u8 0) := hz1.c1
  have g2 : W9z.cell? ⟨n2, 2, none⟩ = some (.int .u32 0) := hz1.c2
  exact bodyPost_ret (v := .tuple #[.agg #[.int .u32 0, .int .u8 0, .int .u32 0], .int .i64 0, .int .i64 3]) (by simp [results, Tryd.results14, go_sem, g0, g1, g2]) rfl ⟨rfl, hz2⟩

set_option maxRecDepth 20000 in
set_option maxHeartbeats 800000 in
theorem cread_small (g : Nat) (d : Dk) (F : Nat → Prop) (w : World) (h : DiskAt w g d F) (h4 : d.safe.length < 4) :
    Calls Tryd.prog 14 #[.pointer (some ⟨g, 0, none⟩)] w fun e w' => e = .returned (.tuple #[CrVal Cr.zero, .int .i64 0, .int .i64 3]) ∧ Below w.heap.size w w' := by
  have hk4 : decide ((d.safe.length : Int) < 4) = true := decide_eq_true (by omega)
  have HD := Lib.hid h
  clear h h4
  go_enter Tryd.func14, Tryd.ntmps14
  go_wp2_with fail
  have hb0 := bal (bal (bre w) (.cells #[.int .u32 0, .int .u8 0, .int .u32 0] 24)) (.cells #[.int .u32 0, .int .u8 0, .int .u32 0] 24)
  obtain ⟨hr1, hr2⟩ := box_two w (.cells #[.int .u32 0, .int .u8 0, .int .u32 0] 24) (.cells #[.int .u32 0, .int .u8 0, .int .u32 0] 24)
  generalize (w.alloc (.cells #[.int .u32 0, .int .u8 0, .int .u32 0] 24)).alloc (.cells #[.int .u32 0, .int .u8 0, .int .u32 0] 24) = W at *
  obtain ⟨n2, hn2⟩ : ∃ n, n = w.heap.size := ⟨_, rfl⟩
  rw [← hn2] at hr1 ⊢
  have HN2 : Hid (w.heap.size ≤ n2) := Lib.hid (by omega)
  have HB0 := Lib.hid hb0
  have HR1 : Hid (Row3 W n2 Cr.zero) := Lib.hid hr1
  clear hb0 hr1 hr2 hn2
  refine (sectors_any g d F W (HD.out.below HB0.out)).mono ?_
  rintro e w1 ⟨rfl, hw1⟩
  have hw1' := hw1.symm
  subst hw1'
  clear hw1
  have z0 := HR1.out.c0
  have z1 := HR1.out.c1
  have z2 := HR1.out.c2
  have zf := HR1.out.fz
  go_wp2_with fail
  obtain ⟨hz1, hz3⟩ := cr_zero HR1.out
  have hz2 := hz3 _ w HN2.out HB0.out
  generalize (((W.setCell ⟨n2, 0, none⟩ (.int .u32 0)).setCell ⟨n2, 1, none⟩ (.int .u8 0)).setCell ⟨n2, 2, none⟩ (.int .u32 0)) = W9z at *
  have g0 : W9z.cell? ⟨n2, 0, none⟩ = some (.int .u32 0) := hz1.c0
  have g1 : W9z.cell? ⟨n2, 1, none⟩ = some (.int .u8 0) := hz1.c1
  have g2 : W9z.cell? ⟨n2, 2, none⟩ = some (.int .u32 0) := hz1.c2
  exact bodyPost_ret (v := .tuple #[.agg #[.int .u32 0, .int .u8 0, .int .u32 0], .int .i64 0, .int .i64 3]) (by simp [results, Tryd.results14, go_sem, g0, g1, g2]) rfl ⟨rfl, hz2⟩

set_option maxRecDepth 10000 in
theorem cformat_nil (w : World) :
    Calls Tryd.prog 19 #[.pointer none] w fun e w' => e = .returned (.int .i64 3) ∧ w' = w := by
  go_enter Tryd.func19, Tryd.ntmps19
  go_wp2
  go_ret
  exact ⟨rfl, rfl⟩

set_option maxRecDepth 10000 in
theorem cformat_small (g : Nat) (d : Dk) (F : Nat → Prop) (w : World) (h : DiskAt w g d F) (h4 : d.safe.length < 4) :
    Calls Tryd.prog 19 #[.pointer (some ⟨g, 0, none⟩)] w fun e w' => e = .returned (.int .i64 1) ∧ w' = w := by
  have hk4 : decide ((d.safe.length : Int) < 4) = true := decide_eq_true (by omega)
  have HD := Lib.hid h
  clear h h4
  go_enter Tryd.func19, Tryd.ntmps19
  go_wp2_with fail
  refine (sectors_any g d F w HD.out).mono ?_
  rintro e w1 ⟨rfl, hw1⟩
  have hw1' := hw1.symm
  subst hw1'
  clear hw1
  go_wp2_with fail
  go_ret
  exact ⟨rfl, rfl⟩

set_option maxRecDepth 10000 in
set_option maxHeartbeats 800000 in
theorem cwrite_nil (c : Cr) (w : World) (hh : c.half < 2) :
    Calls Tryd.prog 20 #[.pointer none, CrVal c] w fun e w' => e = .returned (.int .i64 3) ∧ Below w.heap.size w w' := by
  unfold CrVal
  have hk1 : decide ((2 : Int) ≤ c.half) = false := decide_eq_false (by omega)
  clear hh
  go_enter Tryd.func20, Tryd.ntmps20
  go_wp2_with fail
  refine (sync_nil _).mono ?_
  rintro e w1 ⟨rfl, rfl⟩
  go_wp2_with fail
  go_ret
  exact ⟨rfl, bal (bre w) _⟩

set_option maxRecDepth 10000 in
set_option maxHeartbeats 800000 in
theorem cwrite_arg (g : Nat) (c : Cr) (w : World) (hh : 2 ≤ c.half) :
    Calls Tryd.prog 20 #[.pointer (some ⟨g, 0, none⟩), CrVal c] w fun e w' => e = .returned (.int .i64 1) ∧ Below w.heap.size w w' := by
  unfold CrVal
  have hk1 : decide ((2 : Int) ≤ c.half) = true := decide_eq_true (by omega)
  clear hh
  go_enter Tryd.func20, Tryd.ntmps20
  go_wp2_with fail
  go_ret
  exact ⟨rfl, bal (bre w) _⟩
end Go.Proofs.YtejdlgfiiagcmaaDoor
