/- Walks: the document's disk: a call that sets the limit. -/
import Derived.Test.YtkonjjanoifinaaRkRead
import Derived.Test.YtkonjjanoifinaaDkFree
import Derived.BigQuiet
namespace Go.Proofs.Ytkonjjanoifinaa
open Go.RowKit

/-- a call -/
structure Actn where
  do_ : Nat
  i : Int
  p : List UInt8
  odd : Bool
  bit : Int
  n : Int
  mask : Nat
  keep : List Bool

structure Actn.Ok (a : Actn) : Prop where
  do_ : a.do_ < 256
  mask : a.mask < 4294967296
  i0 : -9223372036854775808 ≤ a.i
  i1 : a.i ≤ 9223372036854775807
  b0 : -9223372036854775808 ≤ a.bit
  b1 : a.bit ≤ 9223372036854775807
  n0 : -9223372036854775808 ≤ a.n
  n1 : a.n ≤ 9223372036854775807

def ActAt (w : World) (v : Value) (a : Actn) : Prop := ∃ vp vk, v = .agg #[.int .u8 a.do_, .int .i64 a.i, vp, .bool a.odd, .int .i64 a.bit, .int .i64 a.n, .int .u32 a.mask, vk] ∧ Bytes w vp a.p ∧ Bools w vk a.keep

theorem ActAt.below {w w' : World} {v : Value} {a : Actn} (h : ActAt w v a) (hb : Below w.heap.size w w') : ActAt w' v a := by
  obtain ⟨vp, vk, e, h1, h2⟩ := h
  exact ⟨vp, vk, e, h1.below hb, h2.below hb⟩

theorem arow8 {w : World} {g T : Nat} {a b c d e f x y : Value} (h : w.heap[g]? = some (.cells #[a, b, c, d, e, f, x, y] T (0, 0))) :
    w.cell? ⟨g, 0, none⟩ = some a ∧ w.cell? ⟨g, 1, none⟩ = some b ∧ w.cell? ⟨g, 2, none⟩ = some c ∧ w.cell? ⟨g, 3, none⟩ = some d ∧ w.cell? ⟨g, 4, none⟩ = some e ∧ w.cell? ⟨g, 5, none⟩ = some f ∧ w.cell? ⟨g, 6, none⟩ = some x ∧ w.cell? ⟨g, 7, none⟩ = some y ∧ ∀ o, w.frozen? ⟨g, o, none⟩ = false :=
  ⟨cell_of_row w g 0 _ _ _ h, cell_of_row w g 1 _ _ _ h, cell_of_row w g 2 _ _ _ h, cell_of_row w g 3 _ _ _ h, cell_of_row w g 4 _ _ _ h, cell_of_row w g 5 _ _ _ h, cell_of_row w g 6 _ _ _ h, cell_of_row w g 7 _ _ _ h, fun o => frozen_of_row w g o _ _ h⟩


/-- its number turned -/
theorem RefAt.left {w w' : World} {r : Nat} {d d' : Dk} {F : Nat → Prop} (h : RefAt w r d F) (ho : Only w w' (fun k => k = r)) (hs : d'.safe = d.safe) (hw : d'.wait = d.wait)
    (hr : ∀ vs va vw, w.heap[r]? = some (.cells #[vs, va, vw, .int .i64 d.refLeft] 76 (0, 0)) → w'.heap[r]? = some (.cells #[vs, va, vw, .int .i64 d'.refLeft] 76 (0, 0))) :
    RefAt w' r d' F ∧ Moved w w' F F := by
  obtain ⟨h0, vs, va, vw, h1, h2, h3, h4, h5, h6, h7, h8⟩ := h
  refine ⟨⟨⟨by rw [hs]; exact h0.safe, by rw [hs, hw]; exact h0.wait, by rw [hs]; exact h0.few⟩, vs, va, vw, hr vs va vw h1, ?_, ?_, h4, ?_, h6, h7, fun k hk => Nat.lt_of_lt_of_le (h8 k hk) ho.size⟩, ⟨ho.mono fun i _ e => by rw [e]; exact h6, fun k hk => .inl hk⟩⟩
  · rw [hs]; exact h2.block ho h1 (by decide) (by decide)
  · rw [hw]; exact own_only h3 ho (fun k hk e => own_ne h3 h1 (by decide) (by rw [← e]; exact hk))
  · rw [hw]; exact h5.block ho h1 (by decide) (by decide)

set_option maxRecDepth 10000 in
set_option maxHeartbeats 3200000 in
theorem refdo_limit (r : Nat) (d : Dk) (F : Nat → Prop) (v : Value) (a : Actn) (w : World) (h : RefAt w r d F) (ha : ActAt w v a) (hao : a.Ok) (hd : a.do_ % 7 = 6) :
    Calls Try.prog 23 #[.pointer (some ⟨r, 0, none⟩), v] w fun e w' => ∃ F', e = .returned (.tuple #[.pointer (some ⟨r, 0, none⟩), .int .i64 0]) ∧ RefAt w' r ⟨d.safe, d.wait, d.count, decide (0 ≤ a.n), a.n⟩ F' ∧ Moved w w' F F' := by
  obtain ⟨h0, vs, va, vw, h1, h2, h3, h4, h5, h6, h7, h8⟩ := h
  obtain ⟨vp, vk, rfl, hvp, hvk⟩ := ha
  obtain ⟨o1, o2, o3, o4, o5, o6, o7, o8⟩ := hao
  obtain ⟨ap, cp, rfl, _⟩ := id hvp
  obtain ⟨ak, ck, rfl, _⟩ := id hvk
  obtain ⟨as0, cs, rfl, hms, hcs⟩ := h2.lies
  obtain ⟨aa, ca, rfl, hma, hca⟩ := h3.lies
  obtain ⟨aw, cw, rfl, hmw, hcw⟩ := h5.lies
  have hfew := h0.few
  rw [List.length_map] at hma hca hmw hcw
  have hrl := h8 r h6
  have HF := Lib.hid (show RefAt w r d F from ⟨h0, _, _, _, h1, h2, h3, h4, h5, h6, h7, h8⟩)
  have HVP := Lib.hid hvp
  have HVK := Lib.hid hvk
  rw [List.length_map, List.length_map] at h1
  rw [List.length_map] at h3 h5
  have HR := Lib.hid h1
  have HOK := Lib.hid h0
  have HS := Lib.hid h2
  have HA := Lib.hid h3
  have HWW := Lib.hid h5
  have H4 := Lib.hid h4
  have H7 := Lib.hid h7
  have H8 := Lib.hid h8
  clear h0 h1 h2 h3 h4 h5 h7 h8 hvp hvk
  go_enter Try.func23, Try.ntmps23
  go_upto_region 1 with fail
  obtain ⟨n0, hn0⟩ : ∃ n0, n0 = w.heap.size := ⟨_, rfl⟩
  have hr0 := heap_alloc_new w (.cells #[.int .u8 a.do_, .int .i64 a.i, .slice ap a.p.length cp, .bool a.odd, .int .i64 a.bit, .int .i64 a.n, .int .u32 a.mask, .slice ak a.keep.length ck] 52)
  have hb0 := bal (bre w) (.cells #[.int .u8 a.do_, .int .i64 a.i, .slice ap a.p.length cp, .bool a.odd, .int .i64 a.bit, .int .i64 a.n, .int .u32 a.mask, .slice ak a.keep.length ck] 52)
  have hs0 : (w.alloc (.cells #[.int .u8 a.do_, .int .i64 a.i, .slice ap a.p.length cp, .bool a.odd, .int .i64 a.bit, .int .i64 a.n, .int .u32 a.mask, .slice ak a.keep.length ck] 52)).heap.size = n0 + 1 := by rw [hn0]; simp
  have hrW := (hb0.block r hrl).trans HR.out
  rw [← hn0] at hr0 ⊢
  generalize w.alloc (.cells #[.int .u8 a.do_, .int .i64 a.i, .slice ap a.p.length cp, .bool a.odd, .int .i64 a.bit, .int .i64 a.n, .int .u32 a.mask, .slice ak a.keep.length ck] 52) = W at *
  obtain ⟨_, f1, _, _, _, _, _, _, ff⟩ := arow8 hr0
  obtain ⟨d0, _, _, _, fr⟩ := rrow4 hrW
  have HB0 := Lib.hid hb0
  have HN0 := Lib.hid hn0
  have HS0 := Lib.hid hs0
  have HR0 := Lib.hid hr0
  have HRW := Lib.hid hrW
  clear hr0 hb0 hs0 hrW hn0
  go_cut [6] from 14 (fun t w' => t = .bool (decide (0 ≤ a.i ∧ a.i < d.safe.length)) ∧ ∃ q, w' = W.drewN q)
  case first =>
    rcases (by omega : a.i < 0 ∨ (0 ≤ a.i ∧ a.i < d.safe.length) ∨ (0 ≤ a.i ∧ d.safe.length ≤ a.i)) with q1 | ⟨q1, q2⟩ | ⟨q1, q2⟩
    · have hd1 : decide (0 ≤ a.i) = false := decide_eq_false (by omega)
      have HD2 := Lib.hid (show decide (0 ≤ a.i ∧ a.i < d.safe.length) = false from decide_eq_false (by omega))
      go_quiet (fail)
      go_wp2_with fail
      go_meet
      case rel => exact ⟨by rw [HD2.out], _, rfl⟩
    · have hd1 : decide (0 ≤ a.i) = true := decide_eq_true (by omega)
      have hd3 : decide (a.i < d.safe.length) = true := decide_eq_true (by omega)
      have HD2 := Lib.hid (show decide (0 ≤ a.i ∧ a.i < d.safe.length) = true from decide_eq_true (by omega))
      go_quiet (fail)
      go_wp2_with fail
      go_meet
      case rel => exact ⟨by rw [HD2.out], _, rfl⟩
    · have hd1 : decide (0 ≤ a.i) = true := decide_eq_true (by omega)
      have hd3 : decide (a.i < d.safe.length) = false := decide_eq_false (by omega)
      have HD2 := Lib.hid (show decide (0 ≤ a.i ∧ a.i < d.safe.length) = false from decide_eq_false (by omega))
      go_quiet (fail)
      go_wp2_with fail
      go_meet
      case rel => exact ⟨by rw [HD2.out], _, rfl⟩
  case rest =>
  obtain ⟨rfl, q, rfl⟩ := hcut
  obtain ⟨th, hth⟩ : ∃ th, th = decide (0 ≤ a.i ∧ a.i < d.safe.length) := ⟨_, rfl⟩
  rw [← hth]
  clear d0 f1 fr ff
  have hbq := btr HB0.out (bdn (bre W) q)
  have hX := HF.out.below hbq
  have hrX : (W.drewN q).heap[r]? = _ := HRW.out
  have hnX : (W.drewN q).heap[n0]? = _ := HR0.out
  have hsX : (W.drewN q).heap.size = n0 + 1 := HS0.out
  have hSX := HS.out.below hbq
  have hWX := HWW.out.below hbq
  have hAX : OwnInts 0 (W.drewN q) (.slice aa d.wait.length ca) (d.wait.map (·.1)) := own_only HA.out (Only.of_below hbq fun _ => False) fun _ _ => id
  have hpX := HVP.out.below hbq
  have hkX := HVK.out.below hbq
  generalize W.drewN q = X at *
  obtain ⟨f0, f1, f2, f3, f4, f5, f6, f7, ff⟩ := arow8 hnX
  obtain ⟨d0, d1, d2, d3, fr⟩ := rrow4 hrX
  have HBX := Lib.hid hbq
  have HX := Lib.hid hX
  have HRX := Lib.hid hrX
  have HSX := Lib.hid hSX
  have HWX := Lib.hid hWX
  have HAX := Lib.hid hAX
  have HPX := Lib.hid hpX
  have HKX := Lib.hid hkX
  have HTH := Lib.hid hth
  have HSZ := Lib.hid hsX
  clear hbq hX hrX hnX hSX hWX hAX hpX hkX hth hsX HB0 HRW HR0 HF HR HVP HVK HS HWW HA HS0
  clear d0 d1 d2
  by_cases hn : a.n < 0
  · have hdn : decide (a.n < 0) = true := decide_eq_true hn
    have hdn2 : decide (0 ≤ a.n) = false := decide_eq_false (by omega)
    go_wp2_with fail
    go_ret2
    have hq := HX.out.left (d' := ⟨d.safe, d.wait, d.count, decide (0 ≤ a.n), a.n⟩) ((Only.setCell X ⟨r, 3, none⟩ (.int .i64 a.n)).trans (Only.setCell _ ⟨r, 3, none⟩ (.int .i64 (-1))) fun _ _ h => h) rfl rfl (fun vs va vw hr => by
      rw [show Dk.refLeft ⟨d.safe, d.wait, d.count, decide (0 ≤ a.n), a.n⟩ = -1 by unfold Dk.refLeft; rw [if_neg (by simpa using hn)]]
      exact heap_setCell_same _ r 3 _ _ _ (heap_setCell_same X r 3 _ _ (.int .i64 a.n) hr))
    rw [hdn2] at hq
    first | exact ⟨rfl, F, hq.1, (Moved.of_below F HBX.out).trans hq.2⟩ | exact ⟨F, rfl, hq.1, (Moved.of_below F HBX.out).trans hq.2⟩ | trace_state
  · have hdn : decide (a.n < 0) = false := decide_eq_false hn
    have hdn2 : decide (0 ≤ a.n) = true := decide_eq_true (by omega)
    go_wp2_with fail
    go_ret2
    have hq := HX.out.left (d' := ⟨d.safe, d.wait, d.count, decide (0 ≤ a.n), a.n⟩) (Only.setCell X ⟨r, 3, none⟩ (.int .i64 a.n)) rfl rfl (fun vs va vw hr => by
      rw [show Dk.refLeft ⟨d.safe, d.wait, d.count, decide (0 ≤ a.n), a.n⟩ = a.n by unfold Dk.refLeft; rw [if_pos (by simp; omega)]]
      exact heap_setCell_same X r 3 _ _ (.int .i64 a.n) hr)
    rw [hdn2] at hq
    first | exact ⟨rfl, F, hq.1, (Moved.of_below F HBX.out).trans hq.2⟩ | exact ⟨F, rfl, hq.1, (Moved.of_below F HBX.out).trans hq.2⟩ | trace_state

set_option maxRecDepth 10000 in
set_option maxHeartbeats 3200000 in
theorem refdo_sync_off (r : Nat) (d : Dk) (F : Nat → Prop) (v : Value) (a : Actn) (w : World) (h : RefAt w r d F) (ha : ActAt w v a) (hao : a.Ok) (hd : a.do_ % 7 = 3) (hl : d.refLeft = 0) :
    Calls Try.prog 23 #[.pointer (some ⟨r, 0, none⟩), v] w fun e w' => e = .returned (.tuple #[.pointer (some ⟨r, 0, none⟩), .int .i64 8]) ∧ RefAt w' r d F ∧ Below w.heap.size w w' := by
  obtain ⟨h0, vs, va, vw, h1, h2, h3, h4, h5, h6, h7, h8⟩ := h
  obtain ⟨vp, vk, rfl, hvp, hvk⟩ := ha
  obtain ⟨o1, o2, o3, o4, o5, o6, o7, o8⟩ := hao
  obtain ⟨ap, cp, rfl, _⟩ := id hvp
  obtain ⟨ak, ck, rfl, _⟩ := id hvk
  obtain ⟨as0, cs, rfl, hms, hcs⟩ := h2.lies
  obtain ⟨aa, ca, rfl, hma, hca⟩ := h3.lies
  obtain ⟨aw, cw, rfl, hmw, hcw⟩ := h5.lies
  have hfew := h0.few
  rw [List.length_map] at hma hca hmw hcw
  have hrl := h8 r h6
  have HF := Lib.hid (show RefAt w r d F from ⟨h0, _, _, _, h1, h2, h3, h4, h5, h6, h7, h8⟩)
  have HVP := Lib.hid hvp
  have HVK := Lib.hid hvk
  rw [List.length_map, List.length_map] at h1
  rw [List.length_map] at h3 h5
  have HR := Lib.hid h1
  have HOK := Lib.hid h0
  have HS := Lib.hid h2
  have HA := Lib.hid h3
  have HWW := Lib.hid h5
  have H4 := Lib.hid h4
  have H7 := Lib.hid h7
  have H8 := Lib.hid h8
  clear h0 h1 h2 h3 h4 h5 h7 h8 hvp hvk
  go_enter Try.func23, Try.ntmps23
  go_upto_region 1 with fail
  obtain ⟨n0, hn0⟩ : ∃ n0, n0 = w.heap.size := ⟨_, rfl⟩
  have hr0 := heap_alloc_new w (.cells #[.int .u8 a.do_, .int .i64 a.i, .slice ap a.p.length cp, .bool a.odd, .int .i64 a.bit, .int .i64 a.n, .int .u32 a.mask, .slice ak a.keep.length ck] 52)
  have hb0 := bal (bre w) (.cells #[.int .u8 a.do_, .int .i64 a.i, .slice ap a.p.length cp, .bool a.odd, .int .i64 a.bit, .int .i64 a.n, .int .u32 a.mask, .slice ak a.keep.length ck] 52)
  have hs0 : (w.alloc (.cells #[.int .u8 a.do_, .int .i64 a.i, .slice ap a.p.length cp, .bool a.odd, .int .i64 a.bit, .int .i64 a.n, .int .u32 a.mask, .slice ak a.keep.length ck] 52)).heap.size = n0 + 1 := by rw [hn0]; simp
  have hrW := (hb0.block r hrl).trans HR.out
  rw [← hn0] at hr0 ⊢
  generalize w.alloc (.cells #[.int .u8 a.do_, .int .i64 a.i, .slice ap a.p.length cp, .bool a.odd, .int .i64 a.bit, .int .i64 a.n, .int .u32 a.mask, .slice ak a.keep.length ck] 52) = W at *
  obtain ⟨_, f1, _, _, _, _, _, _, ff⟩ := arow8 hr0
  obtain ⟨d0, _, _, _, fr⟩ := rrow4 hrW
  have HB0 := Lib.hid hb0
  have HN0 := Lib.hid hn0
  have HS0 := Lib.hid hs0
  have HR0 := Lib.hid hr0
  have HRW := Lib.hid hrW
  clear hr0 hb0 hs0 hrW hn0
  go_cut [6] from 14 (fun t w' => t = .bool (decide (0 ≤ a.i ∧ a.i < d.safe.length)) ∧ ∃ q, w' = W.drewN q)
  case first =>
    rcases (by omega : a.i < 0 ∨ (0 ≤ a.i ∧ a.i < d.safe.length) ∨ (0 ≤ a.i ∧ d.safe.length ≤ a.i)) with q1 | ⟨q1, q2⟩ | ⟨q1, q2⟩
    · have hd1 : decide (0 ≤ a.i) = false := decide_eq_false (by omega)
      have HD2 := Lib.hid (show decide (0 ≤ a.i ∧ a.i < d.safe.length) = false from decide_eq_false (by omega))
      go_quiet (fail)
      go_wp2_with fail
      go_meet
      case rel => exact ⟨by rw [HD2.out], _, rfl⟩
    · have hd1 : decide (0 ≤ a.i) = true := decide_eq_true (by omega)
      have hd3 : decide (a.i < d.safe.length) = true := decide_eq_true (by omega)
      have HD2 := Lib.hid (show decide (0 ≤ a.i ∧ a.i < d.safe.length) = true from decide_eq_true (by omega))
      go_quiet (fail)
      go_wp2_with fail
      go_meet
      case rel => exact ⟨by rw [HD2.out], _, rfl⟩
    · have hd1 : decide (0 ≤ a.i) = true := decide_eq_true (by omega)
      have hd3 : decide (a.i < d.safe.length) = false := decide_eq_false (by omega)
      have HD2 := Lib.hid (show decide (0 ≤ a.i ∧ a.i < d.safe.length) = false from decide_eq_false (by omega))
      go_quiet (fail)
      go_wp2_with fail
      go_meet
      case rel => exact ⟨by rw [HD2.out], _, rfl⟩
  case rest =>
  obtain ⟨rfl, q, rfl⟩ := hcut
  obtain ⟨th, hth⟩ : ∃ th, th = decide (0 ≤ a.i ∧ a.i < d.safe.length) := ⟨_, rfl⟩
  rw [← hth]
  clear d0 f1 fr ff
  have hbq := btr HB0.out (bdn (bre W) q)
  have hX := HF.out.below hbq
  have hrX : (W.drewN q).heap[r]? = _ := HRW.out
  have hnX : (W.drewN q).heap[n0]? = _ := HR0.out
  have hsX : (W.drewN q).heap.size = n0 + 1 := HS0.out
  have hSX := HS.out.below hbq
  have hWX := HWW.out.below hbq
  have hAX : OwnInts 0 (W.drewN q) (.slice aa d.wait.length ca) (d.wait.map (·.1)) := own_only HA.out (Only.of_below hbq fun _ => False) fun _ _ => id
  have hpX := HVP.out.below hbq
  have hkX := HVK.out.below hbq
  generalize W.drewN q = X at *
  obtain ⟨f0, f1, f2, f3, f4, f5, f6, f7, ff⟩ := arow8 hnX
  obtain ⟨d0, d1, d2, d3, fr⟩ := rrow4 hrX
  have HBX := Lib.hid hbq
  have HX := Lib.hid hX
  have HRX := Lib.hid hrX
  have HSX := Lib.hid hSX
  have HWX := Lib.hid hWX
  have HAX := Lib.hid hAX
  have HPX := Lib.hid hpX
  have HKX := Lib.hid hkX
  have HTH := Lib.hid hth
  have HSZ := Lib.hid hsX
  clear hbq hX hrX hnX hSX hWX hAX hpX hkX hth hsX HB0 HRW HR0 HF HR HVP HVK HS HWW HA HS0
  clear d0 d1 d2
  go_wp2_with fail
  go_ret2
  exact ⟨rfl, HX.out, HBX.out⟩

end Go.Proofs.Ytkonjjanoifinaa
