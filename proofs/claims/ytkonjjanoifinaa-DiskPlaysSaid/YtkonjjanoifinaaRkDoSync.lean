/- Walk: the document's disk: a sync. -/
import Derived.Test.YtkonjjanoifinaaRkDo
import Derived.BigQuiet
namespace Go.Proofs.Ytkonjjanoifinaa
open Go.RowKit

theorem own8_any {e T base : Nat} {w w' : World} {u : Value} {xs ys : List Value} {m s1 : Nat} {gs : Nat} (h : w.ownsRow base e s1 u m ys) (ho : Only w w' (fun k => k = gs)) {n size : Nat} {v : Value} (hv : w.ownsRow 0 T size v n xs) (hb : v.ownBlock = some gs) (hT : e ≠ T) : w'.ownsRow base e s1 u m ys :=
  own_only h ho fun k hk e' => by
    rcases own_apart h hv hT with h' | h'
    · rw [h'] at hk; cases hk
    · exact h' (hk.trans (by rw [e', hb]))


theorem syncOf_take (s : List (List UInt8)) (ws : List (Nat × List UInt8)) (k : Nat) (x : Nat × List UInt8) (hx : ws[k]? = some x) : syncOf s (ws.take (k + 1)) = (syncOf s (ws.take k)).set x.1 x.2 := by
  obtain ⟨hk, hx'⟩ := List.getElem?_eq_some_iff.1 hx
  rw [List.take_succ_eq_append_getElem hk, syncOf_snoc, hx']

theorem Dk.synced_left (d : Dk) (hb : d.bound = true → 0 ≤ d.left) (hm : d.may = true) : (0 < d.refLeft ∧ d.synced.refLeft = d.refLeft - 1) ∨ (d.refLeft = -1 ∧ d.synced.refLeft = -1) := by
  obtain ⟨s, ws, c, b, l⟩ := d
  cases b with
  | false => exact .inr ⟨rfl, rfl⟩
  | true =>
    left
    have h1 : (0 : Int) ≤ l := hb rfl
    have h2 : l ≠ 0 := fun e => by subst e; cases hm
    show (0 : Int) < l ∧ (l - 1 : Int) = l - 1
    omega
theorem Dk.left_range (d : Dk) (h1 : d.left ≤ 9223372036854775807) : d.refLeft ≤ 9223372036854775807 := by
  unfold Dk.refLeft; split <;> omega

theorem RowsAt.isSlice {w : World} {u : Value} {l : List UInt8} (h : Own8 5 0 w u l) : ∃ a c, u = .slice a l.length c := by
  obtain ⟨a, c, e, _⟩ := h.bytes
  exact ⟨a, c, e⟩

set_option maxRecDepth 10000 in
set_option maxHeartbeats 3200000 in
theorem refdo_sync (r : Nat) (d : Dk) (F : Nat → Prop) (v : Value) (a : Actn) (w : World) (h : RefAt w r d F) (ha : ActAt w v a) (hao : a.Ok) (hd : a.do_ % 7 = 3) (hb : d.bound = true → 0 ≤ d.left) (hm : d.may = true) (hl1 : d.left ≤ 9223372036854775807) (hlen : d.wait.length ≤ 1000000) :
    Calls Try.prog 23 #[.pointer (some ⟨r, 0, none⟩), v] w fun e w' => e = .returned (.tuple #[.pointer (some ⟨r, 0, none⟩), .int .i64 0]) ∧ RefAt w' r d.synced F ∧ Moved w w' F F := by
  obtain ⟨h0, vs, va, vw, h1, h2, h3, h4, h5, h6, h7, h8⟩ := h
  obtain ⟨vp, vk, rfl, hvp, hvk⟩ := ha
  obtain ⟨o1, o2, o3, o4, o5, o6, o7, o8⟩ := hao
  obtain ⟨ap, cp, rfl, _⟩ := id hvp
  obtain ⟨ak, ck, rfl, _⟩ := id hvk
  obtain ⟨as0, cs, rfl, hms, hcs⟩ := h2.lies
  obtain ⟨aa, ca, rfl, hma, hca⟩ := h3.lies
  obtain ⟨aw, cw, rfl, hmw, hcw⟩ := h5.lies
  have hfew := h0.few
  rw [List.length_map] at hma hca hmw hcw
  have hrl := h8 r h6
  have HF := Lib.hid (show RefAt w r d F from ⟨h0, _, _, _, h1, h2, h3, h4, h5, h6, h7, h8⟩)
  have HVP := Lib.hid hvp
  have HVK := Lib.hid hvk
  rw [List.length_map, List.length_map] at h1
  rw [List.length_map] at h3 h5
  have HR := Lib.hid h1
  have HOK := Lib.hid h0
  have HS := Lib.hid h2
  have HA := Lib.hid h3
  have HWW := Lib.hid h5
  have H4 := Lib.hid h4
  have H7 := Lib.hid h7
  have H8 := Lib.hid h8
  clear h0 h1 h2 h3 h4 h5 h7 h8 hvp hvk
  go_enter Try.func23, Try.ntmps23
  go_upto_region 1 with fail
  obtain ⟨n0, hn0⟩ : ∃ n0, n0 = w.heap.size := ⟨_, rfl⟩
  have hr0 := heap_alloc_new w (.cells #[.int .u8 a.do_, .int .i64 a.i, .slice ap a.p.length cp, .bool a.odd, .int .i64 a.bit, .int .i64 a.n, .int .u32 a.mask, .slice ak a.keep.length ck] 52)
  have hb0 := bal (bre w) (.cells #[.int .u8 a.do_, .int .i64 a.i, .slice ap a.p.length cp, .bool a.odd, .int .i64 a.bit, .int .i64 a.n, .int .u32 a.mask, .slice ak a.keep.length ck] 52)
  have hs0 : (w.alloc (.cells #[.int .u8 a.do_, .int .i64 a.i, .slice ap a.p.length cp, .bool a.odd, .int .i64 a.bit, .int .i64 a.n, .int .u32 a.mask, .slice ak a.keep.length ck] 52)).heap.size = n0 + 1 := by rw [hn0]; simp
  have hrW := (hb0.block r hrl).trans HR.out
  rw [← hn0] at hr0 ⊢
  generalize w.alloc (.cells #[.int .u8 a.do_, .int .i64 a.i, .slice ap a.p.length cp, .bool a.odd, .int .i64 a.bit, .int .i64 a.n, .int .u32 a.mask, .slice ak a.keep.length ck] 52) = W at *
  obtain ⟨_, f1, _, _, _, _, _, _, ff⟩ := arow8 hr0
  obtain ⟨d0, _, _, _, fr⟩ := rrow4 hrW
  have HB0 := Lib.hid hb0
  have HN0 := Lib.hid hn0
  have HS0 := Lib.hid hs0
  have HR0 := Lib.hid hr0
  have HRW := Lib.hid hrW
  clear hr0 hb0 hs0 hrW hn0
  go_cut [6] from 14 (fun t w' => t = .bool (decide (0 ≤ a.i ∧ a.i < d.safe.length)) ∧ ∃ q, w' = W.drewN q)
  case first =>
    rcases (by omega : a.i < 0 ∨ (0 ≤ a.i ∧ a.i < d.safe.length) ∨ (0 ≤ a.i ∧ d.safe.length ≤ a.i)) with q1 | ⟨q1, q2⟩ | ⟨q1, q2⟩
    · have hd1 : decide (0 ≤ a.i) = false := decide_eq_false (by omega)
      have HD2 := Lib.hid (show decide (0 ≤ a.i ∧ a.i < d.safe.length) = false from decide_eq_false (by omega))
      go_quiet (fail)
      go_wp2_with fail
      go_meet
      case rel => exact ⟨by rw [HD2.out], _, rfl⟩
    · have hd1 : decide (0 ≤ a.i) = true := decide_eq_true (by omega)
      have hd3 : decide (a.i < d.safe.length) = true := decide_eq_true (by omega)
      have HD2 := Lib.hid (show decide (0 ≤ a.i ∧ a.i < d.safe.length) = true from decide_eq_true (by omega))
      go_quiet (fail)
      go_wp2_with fail
      go_meet
      case rel => exact ⟨by rw [HD2.out], _, rfl⟩
    · have hd1 : decide (0 ≤ a.i) = true := decide_eq_true (by omega)
      have hd3 : decide (a.i < d.safe.length) = false := decide_eq_false (by omega)
      have HD2 := Lib.hid (show decide (0 ≤ a.i ∧ a.i < d.safe.length) = false from decide_eq_false (by omega))
      go_quiet (fail)
      go_wp2_with fail
      go_meet
      case rel => exact ⟨by rw [HD2.out], _, rfl⟩
  case rest =>
  obtain ⟨rfl, q, rfl⟩ := hcut
  obtain ⟨th, hth⟩ : ∃ th, th = decide (0 ≤ a.i ∧ a.i < d.safe.length) := ⟨_, rfl⟩
  rw [← hth]
  clear d0 f1 fr ff
  have hbq := btr HB0.out (bdn (bre W) q)
  have hX := HF.out.below hbq
  have hrX : (W.drewN q).heap[r]? = _ := HRW.out
  have hnX : (W.drewN q).heap[n0]? = _ := HR0.out
  have hsX : (W.drewN q).heap.size = n0 + 1 := HS0.out
  have hSX := HS.out.below hbq
  have hWX := HWW.out.below hbq
  have hAX : OwnInts 0 (W.drewN q) (.slice aa d.wait.length ca) (d.wait.map (·.1)) := own_only HA.out (Only.of_below hbq fun _ => False) fun _ _ => id
  have hpX := HVP.out.below hbq
  have hkX := HVK.out.below hbq
  generalize W.drewN q = X at *
  obtain ⟨f0, f1, f2, f3, f4, f5, f6, f7, ff⟩ := arow8 hnX
  obtain ⟨d0, d1, d2, d3, fr⟩ := rrow4 hrX
  have HBX := Lib.hid hbq
  have HX := Lib.hid hX
  have HRX := Lib.hid hrX
  have HNX := Lib.hid hnX
  have HSX := Lib.hid hSX
  have HWX := Lib.hid hWX
  have HAX := Lib.hid hAX
  have HPX := Lib.hid hpX
  have HKX := Lib.hid hkX
  have HTH := Lib.hid hth
  have HSZ := Lib.hid hsX
  clear hbq hX hrX hnX hSX hWX hAX hpX hkX hth hsX HB0 HRW HR0 HF HR HVP HVK HS HWW HA HS0
  have hlr := Dk.left_range d hl1
  have hls := Dk.synced_left d hb hm
  have hl0 : (d.refLeft == 0) = false := by
    rcases hls with ⟨h, _⟩ | ⟨h, _⟩
    · simp; omega
    · rw [h]; rfl
  have HLS := Lib.hid hls
  have HMW := Lib.hid hmw
  obtain ⟨lf, hlf⟩ : ∃ lf, lf = d.refLeft := ⟨_, rfl⟩
  rw [← hlf] at hl0 hlr d3
  have HLF := Lib.hid hlf
  clear d0 d1 d2 hls hlf hmw hcw
  go_upto_if 102 with (fail)
  go_cut [] from 14 (fun w' => Hid (w'.heap[r]? = some (.cells #[.slice as0 d.safe.length cs, .slice aa d.wait.length ca, .slice aw d.wait.length cw, .int .i64 d.synced.refLeft] 76 (0, 0))) ∧ Hid (Only X w' (fun k => k = r)))
  case first =>
    rcases HLS.out with ⟨g1, g2⟩ | ⟨g1, g2⟩
    · rw [← HLF.out] at g1
      have hdl : decide (0 < lf) = true := decide_eq_true g1
      go_wp2_with fail
      go_meet
      case rel =>
        refine ⟨Lib.hid ?_, Lib.hid (Only.setCell X ⟨r, 3, none⟩ _)⟩
        rw [g2, ← HLF.out]
        rw [← HLF.out] at HRX
        exact heap_setCell_same X r 3 _ _ _ HRX.out
    · rw [← HLF.out] at g1
      have hdl : decide (0 < lf) = false := decide_eq_false (by omega)
      go_wp2_with fail
      go_meet
      case rel =>
        refine ⟨Lib.hid ?_, Lib.hid (Only.refl _ _)⟩
        have h := HRX.out
        rw [← HLF.out, g1] at h
        rw [g2]
        exact h
  case rest =>
  obtain ⟨HR1, HO1⟩ := hcut
  obtain ⟨d0, d1, d2, d3', fr⟩ := rrow4 HR1.out
  have hS1 := HSX.out.block HO1.out HRX.out (by decide) (by decide)
  have hW1 := HWX.out.block HO1.out HRX.out (by decide) (by decide)
  have hA1 : OwnInts 0 wc (.slice aa d.wait.length ca) (d.wait.map (·.1)) := own_only HAX.out HO1.out (fun k hk e => own_ne HAX.out HRX.out (by decide) (by rw [← e]; exact hk))
  have HS1 := Lib.hid hS1
  have HW1 := Lib.hid hW1
  have HA1 := Lib.hid hA1
  clear d3 d3' f0 f1 f2 f3 f4 f5 f6 f7 ff hS1 hW1 hA1
  go_wp2_with fail
  go_loopw [7, 8, 115] (fun _ _ i wr => ∃ (k : Nat) (sl : List (List UInt8)), i = .int .i64 k ∧ k ≤ d.wait.length ∧ Hid (sl = syncOf d.safe (d.wait.take k)) ∧ Hid (wr.heap[r]? = some (.cells #[.slice as0 d.safe.length cs, .slice aa d.wait.length ca, .slice aw d.wait.length cw, .int .i64 d.synced.refLeft] 76 (0, 0))) ∧
      Hid (RowsAt wr (.slice as0 d.safe.length cs) sl F) ∧ Hid (OwnInts 0 wr (.slice aa d.wait.length ca) (d.wait.map (·.1))) ∧ Hid (RowsAt wr (.slice aw d.wait.length cw) (d.wait.map (·.2)) F) ∧ Hid (Only wc wr F)) (fun _ _ i _ => d.wait.length - (intOf i).toNat)
  case atStart => exact ⟨0, d.safe, rfl, by omega, Lib.hid rfl, HR1, HS1, HA1, HW1, Lib.hid (Only.refl _ _)⟩
  case round =>
    obtain ⟨k, sl, rfl, hk, HSL, HR, HSS, HAA, HWWW, HON⟩ := hrel
    by_cases hlt : k < d.wait.length
    · obtain ⟨x, hx⟩ : ∃ x, d.wait[k]? = some x := ⟨_, List.getElem?_eq_getElem hlt⟩
      have hxo := HOK.out.wait x (List.mem_of_getElem? hx)
      obtain ⟨ga, ca', e3, hca', hfa⟩ := HAA.out.at k x.1 (by rw [List.getElem?_map, hx]; rfl)
      rw [List.length_map] at e3
      cases e3
      obtain ⟨gw, cw', uw, e5, _, hcw, hfw, how, hFw⟩ := HWWW.out.at k x.2 (by rw [List.getElem?_map, hx]; rfl)
      rw [List.length_map] at e5
      cases e5
      have hsll : sl.length = d.safe.length := by rw [HSL.out, syncOf_length]
      obtain ⟨ls, hls⟩ : ∃ ls, sl[x.1]? = some ls := ⟨_, List.getElem?_eq_getElem (by rw [hsll]; exact hxo.2)⟩
      obtain ⟨gs, cs', us, e2, hFs, hcs', hfs, _, _⟩ := HSS.out.at x.1 ls hls
      rw [hsll] at e2
      cases e2
      obtain ⟨au, cu, rfl⟩ := RowsAt.isSlice how
      have hnsw : gs ≠ gw := fun e => by
        rcases H7.out with h | h
        · cases h
        · exact h (by rw [e]; rfl)
      obtain ⟨d0, d1, d2, _, fr⟩ := rrow4 HR.out
      have HXO := Lib.hid hxo
      have HX' := Lib.hid hx
      have HOW := Lib.hid how
      have HFW := Lib.hid hFw
      have hx1 : (x.1 : Int) < d.safe.length := by have := hxo.2; omega
      clear hxo hx how hFw hls hsll
      go_upto_region 24 with fail
      refine region_anyZ (z := 12) (S := fun w' => w'.cell? ⟨r, 0, none⟩ = some (.slice (some ⟨gs, 0, none⟩) d.safe.length cs) ∧ w'.cell? ⟨r, 2, none⟩ = some (.slice (some ⟨gw, 0, none⟩) d.wait.length cw) ∧ w'.cell? ⟨gw, k, none⟩ = some (.slice au x.2.length cu)) (by kernel_rfl) ?_
      refine anyZ_begin (fun hcl0 => ?_)
      refine anyZ_held (by exact ⟨d0, d2, hcw⟩) (fun hHeld => ?_)
      -- 0: Op.move (Operand.tmp 0)
      refine' anyZ_pure (i := 0) (v := _) rfl (by rfl) (by kernel_rfl) (by kernel_rfl) (by kernel_rfl) hcl0 (fun _ _ _ h => h) (Or.inl ⟨by rfl, fun w _ => ?h1⟩) (fun _ => hHeld) (fun hcl1 => ?r1)
      case h1 => (simp only [List.getElem_toArray, List.getElem_cons_zero]; first | (go_simp; with_reducible rfl) | (go_simp; done) | rfl)
      simp only [List.getElem_toArray, List.getElem_cons_zero, Act.put, List.setIfInBounds_toArray, List.set_cons_zero, List.set_cons_succ]
      -- 1: Op.nilCheck (Operand.tmp 120)
      refine' anyZ_pure (i := 1) (v := _) rfl (by rfl) (by kernel_rfl) (by kernel_rfl) (by kernel_rfl) hcl1 (fun _ _ _ h => h) (Or.inl ⟨by rfl, fun w _ => ?h2⟩) (fun _ => hHeld) (fun hcl2 => ?r2)
      case h2 => (simp only [List.getElem_toArray, List.getElem_cons_succ, List.getElem_cons_zero]; first | (go_simp; with_reducible rfl) | (go_simp; done) | rfl)
      simp only [List.getElem_toArray, List.getElem_cons_succ, List.getElem_cons_zero, Act.put, List.setIfInBounds_toArray, List.set_cons_zero, List.set_cons_succ]
      -- 2: Op.fieldAddr 76 (Operand.tmp 121) 0
      refine' anyZ_pure (i := 2) (v := _) rfl (by rfl) (by kernel_rfl) (by kernel_rfl) (by kernel_rfl) hcl2 (fun _ _ _ h => h) (Or.inl ⟨by rfl, fun w _ => ?h3⟩) (fun _ => hHeld) (fun hcl3 => ?r3)
      case h3 => (simp only [List.getElem_toArray, List.getElem_cons_succ, List.getElem_cons_zero]; first | (go_simp; with_reducible rfl) | (go_simp; done) | rfl)
      simp only [List.getElem_toArray, List.getElem_cons_succ, List.getElem_cons_zero, Act.put, List.setIfInBounds_toArray, List.set_cons_zero, List.set_cons_succ]
      -- 3: Op.load 41 (Operand.tmp 122)
      refine' anyZ_take (i := 3) (v := _) rfl (by rfl) (by kernel_rfl) (by kernel_rfl) (by kernel_rfl) hcl3 2 (by kernel_rfl) (by kernel_rfl) (fun _ _ _ h => h) (Or.inl ⟨by rfl, fun w hSw => ?h4⟩) hHeld (fun hcl4 => ?r4)
      case h4 => (simp only [List.getElem_toArray, List.getElem_cons_succ, List.getElem_cons_zero]; obtain ⟨hS1, hS2, hS3⟩ := hSw; first | (go_simp; with_reducible rfl) | (go_simp; done) | rfl)
      simp only [List.getElem_toArray, List.getElem_cons_succ, List.getElem_cons_zero, Act.put, List.setIfInBounds_toArray, List.set_cons_zero, List.set_cons_succ]
      -- 4: Op.move (Operand.tmp 8)
      refine' anyZ_pure (i := 4) (v := _) rfl (by rfl) (by kernel_rfl) (by kernel_rfl) (by kernel_rfl) hcl4 (fun _ _ _ h => h) (Or.inl ⟨by rfl, fun w _ => ?h5⟩) (fun _ => hHeld) (fun hcl5 => ?r5)
      case h5 => (simp only [List.getElem_toArray, List.getElem_cons_succ, List.getElem_cons_zero]; first | (go_simp; with_reducible rfl) | (go_simp; done) | rfl)
      simp only [List.getElem_toArray, List.getElem_cons_succ, List.getElem_cons_zero, Act.put, List.setIfInBounds_toArray, List.set_cons_zero, List.set_cons_succ]
      -- 5: Op.move (Operand.tmp 0)
      refine' anyZ_pure (i := 5) (v := _) rfl (by rfl) (by kernel_rfl) (by kernel_rfl) (by kernel_rfl) hcl5 (fun _ _ _ h => h) (Or.inl ⟨by rfl, fun w _ => ?h6⟩) (fun _ => hHeld) (fun hcl6 => ?r6)
      case h6 => (simp only [List.getElem_toArray, List.getElem_cons_succ, List.getElem_cons_zero]; first | (go_simp; with_reducible rfl) | (go_simp; done) | rfl)
      simp only [List.getElem_toArray, List.getElem_cons_succ, List.getElem_cons_zero, Act.put, List.setIfInBounds_toArray, List.set_cons_zero, List.set_cons_succ]
      -- 6: Op.nilCheck (Operand.tmp 125)
      refine' anyZ_pure (i := 6) (v := _) rfl (by rfl) (by kernel_rfl) (by kernel_rfl) (by kernel_rfl) hcl6 (fun _ _ _ h => h) (Or.inl ⟨by rfl, fun w _ => ?h7⟩) (fun _ => hHeld) (fun hcl7 => ?r7)
      case h7 => (simp only [List.getElem_toArray, List.getElem_cons_succ, List.getElem_cons_zero]; first | (go_simp; with_reducible rfl) | (go_simp; done) | rfl)
      simp only [List.getElem_toArray, List.getElem_cons_succ, List.getElem_cons_zero, Act.put, List.setIfInBounds_toArray, List.set_cons_zero, List.set_cons_succ]
      -- 7: Op.fieldAddr 76 (Operand.tmp 126) 2
      refine' anyZ_pure (i := 7) (v := _) rfl (by rfl) (by kernel_rfl) (by kernel_rfl) (by kernel_rfl) hcl7 (fun _ _ _ h => h) (Or.inl ⟨by rfl, fun w _ => ?h8⟩) (fun _ => hHeld) (fun hcl8 => ?r8)
      case h8 => (simp only [List.getElem_toArray, List.getElem_cons_succ, List.getElem_cons_zero]; first | (go_simp; with_reducible rfl) | (go_simp; done) | rfl)
      simp only [List.getElem_toArray, List.getElem_cons_succ, List.getElem_cons_zero, Act.put, List.setIfInBounds_toArray, List.set_cons_zero, List.set_cons_succ]
      -- 8: Op.load 41 (Operand.tmp 127)
      refine' anyZ_take (i := 8) (v := _) rfl (by rfl) (by kernel_rfl) (by kernel_rfl) (by kernel_rfl) hcl8 2 (by kernel_rfl) (by kernel_rfl) (fun _ _ _ h => h) (Or.inl ⟨by rfl, fun w hSw => ?h9⟩) hHeld (fun hcl9 => ?r9)
      case h9 => (simp only [List.getElem_toArray, List.getElem_cons_succ, List.getElem_cons_zero]; obtain ⟨hS1, hS2, hS3⟩ := hSw; first | (go_simp; with_reducible rfl) | (go_simp; done) | rfl)
      simp only [List.getElem_toArray, List.getElem_cons_succ, List.getElem_cons_zero, Act.put, List.setIfInBounds_toArray, List.set_cons_zero, List.set_cons_succ]
      -- 9: Op.move (Operand.tmp 7)
      refine' anyZ_pure (i := 9) (v := _) rfl (by rfl) (by kernel_rfl) (by kernel_rfl) (by kernel_rfl) hcl9 (fun _ _ _ h => h) (Or.inl ⟨by rfl, fun w _ => ?h10⟩) (fun _ => hHeld) (fun hcl10 => ?r10)
      case h10 => (simp only [List.getElem_toArray, List.getElem_cons_succ, List.getElem_cons_zero]; first | (go_simp; with_reducible rfl) | (go_simp; done) | rfl)
      simp only [List.getElem_toArray, List.getElem_cons_succ, List.getElem_cons_zero, Act.put, List.setIfInBounds_toArray, List.set_cons_zero, List.set_cons_succ]
      -- 10: Op.indexAddr 41 (Operand.tmp 128) (Operand.tmp 129)
      refine' anyZ_pure (i := 10) (v := _) rfl (by rfl) (by kernel_rfl) (by kernel_rfl) (by kernel_rfl) hcl10 (fun _ _ _ h => h) (Or.inl ⟨by rfl, fun w _ => ?h11⟩) (fun _ => hHeld) (fun hcl11 => ?r11)
      case h11 => (simp only [List.getElem_toArray, List.getElem_cons_succ, List.getElem_cons_zero]; first | (go_simp; with_reducible rfl) | (go_simp; done) | rfl)
      simp only [List.getElem_toArray, List.getElem_cons_succ, List.getElem_cons_zero, Act.put, List.setIfInBounds_toArray, List.set_cons_zero, List.set_cons_succ]
      -- 11: Op.load 22 (Operand.tmp 130)
      refine' anyZ_take (i := 11) (v := _) rfl (by rfl) (by kernel_rfl) (by kernel_rfl) (by kernel_rfl) hcl11 2 (by kernel_rfl) (by kernel_rfl) (fun _ _ _ h => h) (Or.inl ⟨by rfl, fun w hSw => ?h12⟩) hHeld (fun hcl12 => ?r12)
      case h12 => (simp only [List.getElem_toArray, List.getElem_cons_succ, List.getElem_cons_zero]; obtain ⟨hS1, hS2, hS3⟩ := hSw; first | (go_simp; with_reducible rfl) | (go_simp; done) | rfl)
      simp only [List.getElem_toArray, List.getElem_cons_succ, List.getElem_cons_zero, Act.put, List.setIfInBounds_toArray, List.set_cons_zero, List.set_cons_succ]
      clear hHeld
      refine anyZ_chain_at (by kernel_rfl) ?_
      simp only [List.drop_succ_cons, List.drop_zero]
      go_wp2_with fail
      have ho9 : Only wr.drew (wr.drew.setCell ⟨gs, x.1, none⟩ (.slice au x.2.length cu)) (fun k => k = gs) := Only.setCell _ _ _
      have hdr : Only wr wr.drew (fun k => k = gs) := Only.of_below (bdr (bre wr)) _
      have ho8 : Only wr (wr.drew.setCell ⟨gs, x.1, none⟩ (.slice au x.2.length cu)) (fun k => k = gs) := hdr.trans ho9 fun _ _ h => h
      have hrg : r ≠ gs := fun e => by
        obtain ⟨us, _, g2, _⟩ := HSS.out
        exact own_ne g2 HR.out (by decide) (by rw [e]; rfl)
      obtain ⟨us0, gl0, g20, _⟩ := id HSS.out
      have hr9 := (ho8.block r (Array.getElem?_eq_some_iff.1 HR.out).1 hrg).trans HR.out
      have hs9 := (HSS.out.below (bdr (bre wr))).set x.1 (.slice au x.2.length cu) x.2 (own_only HOW.out (Only.of_below (bdr (bre wr)) fun _ => False) fun _ _ => id) HFW.out
      rw [HSL.out, ← syncOf_take d.safe d.wait k x HX'.out] at hs9
      have ha9 : OwnInts 0 _ (.slice (some ⟨ga, 0, none⟩) d.wait.length ca) (d.wait.map (·.1)) := own8_any HAA.out ho8 g20 rfl (by decide)
      have hw9 := HWWW.out.other ho8 g20 rfl (fun e => hnsw (Option.some.inj e).symm)
      have hon9 : Only wc _ F := HON.out.trans (ho8.mono fun j _ e => by rw [show j = gs from e]; exact hFs) fun _ _ h => h
      go_roundw
      case rel => exact ⟨k + 1, _, by go_num, by omega, Lib.hid rfl, Lib.hid hr9, Lib.hid hs9, Lib.hid ha9, Lib.hid hw9, Lib.hid hon9⟩
      case measure => first | (simp [intOf]; done) | (simp [intOf]; omega)
    · have e : k = d.wait.length := by omega
      subst e
      have hsl := HSL.out
      rw [List.take_length] at hsl
      have HSL9 := Lib.hid hsl
      obtain ⟨d0, d1, d2, _, fr⟩ := rrow4 HR.out
      clear hsl
      go_wp2_with fail
      go_ret2
      have ho9 : Only wr ((wr.setCell ⟨r, 1, none⟩ (.slice none 0 0)).setCell ⟨r, 2, none⟩ (.slice none 0 0)) (fun k => k = r) := (Only.setCell wr ⟨r, 1, none⟩ _).trans (Only.setCell _ ⟨r, 2, none⟩ _) fun _ _ h => h
      have hr9 := heap_setCell_same _ r 2 _ _ (.slice none 0 0) (heap_setCell_same wr r 1 _ _ (.slice none 0 0) HR.out)
      have hs9 := HSS.out.block ho9 HR.out (by decide) (by decide)
      have hmo : Moved w _ F F := ⟨((Only.of_below HBX.out F).trans ((HO1.out.mono fun j _ e => by rw [show j = r from e]; exact h6).trans HON.out fun _ _ h => h) fun _ _ h => h).trans (ho9.mono fun j _ e => by rw [show j = r from e]; exact h6) fun _ _ h => h, fun k hk => .inl hk⟩
      refine ⟨rfl, ⟨⟨?_, (fun x hx => by cases hx), ?_⟩, .slice as0 d.safe.length cs, .slice none 0 0, .slice none 0 0, hr9, ?_, World.ownsRow_nil _ _ _ _, (fun k hk => by cases hk), RowsAt.nil _ _, h6, ?_, ?_⟩, hmo⟩
      · show ∀ s ∈ syncOf d.safe d.wait, s.length = 512
        exact syncOf_ok _ (fun y hy => (HOK.out.wait y hy).1) _ HOK.out.safe
      · show (syncOf d.safe d.wait).length ≤ 4096
        rw [syncOf_length]; exact HOK.out.few
      · rw [show d.synced.safe = sl from HSL9.out.symm]
        exact hs9
      · cases hvs : (Value.slice as0 d.safe.length cs).ownBlock with
        | none => exact .inl rfl
        | some q => exact .inr (by simp [Value.ownBlock])
      · exact fun k hk => Nat.lt_of_lt_of_le (H8.out k hk) hmo.only.size

end Go.Proofs.Ytkonjjanoifinaa
