/- Walk: the document's disk: a write. -/
import Derived.Test.YtkonjjanoifinaaRkFw
import Derived.BigQuiet
namespace Go.Proofs.Ytkonjjanoifinaa
open Go.RowKit
set_option maxRecDepth 10000 in
set_option maxHeartbeats 3200000 in
theorem refdo_write (r : Nat) (d : Dk) (F : Nat → Prop) (v : Value) (a : Actn) (w : World) (h : RefAt w r d F) (ha : ActAt w v a) (hao : a.Ok) (z : Nat) (hz : z < 3) (hd : a.do_ % 7 = z) (hodd : a.odd = false) (pi0 : 0 ≤ a.i) (pi1 : a.i < d.safe.length) (hb : d.bound = true → 0 ≤ d.left) (hm : d.may = true) (hl1 : d.left ≤ 9223372036854775807) (hlen : d.wait.length ≤ 1000000) (hpf : a.p ≠ [] → ∀ vs, v = .agg vs → ∀ g o n c, vs[2]? = some (.slice (some ⟨g, o, none⟩) n c) → ¬ F g) :
    Calls Try.prog 23 #[.pointer (some ⟨r, 0, none⟩), v] w fun e w' => ∃ F', e = .returned (.tuple #[.pointer (some ⟨r, 0, none⟩), .int .i64 0]) ∧ RefAt w' r (d.wrote a.i.toNat (fullOf a.p)) F' ∧ Moved w w' F F' := by
  have HODD := Lib.hid hodd
  clear hodd
  obtain ⟨gi, hgi⟩ : ∃ gi : Nat, a.i = gi := ⟨a.i.toNat, by omega⟩
  rw [show a.i.toNat = gi by omega]
  have HGI := Lib.hid hgi
  have PI0 := Lib.hid pi0
  have PI1 := Lib.hid pi1
  clear hgi pi0 pi1
  obtain ⟨h0, vs, va, vw, h1, h2, h3, h4, h5, h6, h7, h8⟩ := h
  obtain ⟨vp, vk, rfl, hvp, hvk⟩ := ha
  obtain ⟨o1, o2, o3, o4, o5, o6, o7, o8⟩ := hao
  obtain ⟨ap, cp, rfl, -⟩ := id hvp
  obtain ⟨ak, ck, rfl, -⟩ := id hvk
  obtain ⟨as0, cs, rfl, hms, hcs⟩ := h2.lies
  obtain ⟨aa, ca, rfl, hma, hca⟩ := h3.lies
  obtain ⟨aw, cw, rfl, hmw, hcw⟩ := h5.lies
  have hfew := h0.few
  rw [List.length_map] at hma hca hmw hcw
  have hrl := h8 r h6
  have HF := Lib.hid (show RefAt w r d F from ⟨h0, _, _, _, h1, h2, h3, h4, h5, h6, h7, h8⟩)
  have HVP := Lib.hid hvp
  have HVK := Lib.hid hvk
  rw [List.length_map, List.length_map] at h1
  rw [List.length_map] at h3 h5
  simp only [List.length_map] at h4 h7
  have HR := Lib.hid h1
  have HOK := Lib.hid h0
  have HS := Lib.hid h2
  have HA := Lib.hid h3
  have HWW := Lib.hid h5
  have H4 := Lib.hid h4
  have H7 := Lib.hid h7
  have H8 := Lib.hid h8
  clear h0 h1 h2 h3 h4 h5 h7 h8 hvp hvk
  go_enter Try.func23, Try.ntmps23
  go_upto_region 1 with fail
  obtain ⟨n0, hn0⟩ : ∃ n0, n0 = w.heap.size := ⟨_, rfl⟩
  have hr0 := heap_alloc_new w (.cells #[.int .u8 a.do_, .int .i64 a.i, .slice ap a.p.length cp, .bool a.odd, .int .i64 a.bit, .int .i64 a.n, .int .u32 a.mask, .slice ak a.keep.length ck] 52)
  have hb0 := bal (bre w) (.cells #[.int .u8 a.do_, .int .i64 a.i, .slice ap a.p.length cp, .bool a.odd, .int .i64 a.bit, .int .i64 a.n, .int .u32 a.mask, .slice ak a.keep.length ck] 52)
  have hs0 : (w.alloc (.cells #[.int .u8 a.do_, .int .i64 a.i, .slice ap a.p.length cp, .bool a.odd, .int .i64 a.bit, .int .i64 a.n, .int .u32 a.mask, .slice ak a.keep.length ck] 52)).heap.size = n0 + 1 := by rw [hn0]; simp
  have hrW := (hb0.block r hrl).trans HR.out
  rw [← hn0] at hr0 ⊢
  generalize w.alloc (.cells #[.int .u8 a.do_, .int .i64 a.i, .slice ap a.p.length cp, .bool a.odd, .int .i64 a.bit, .int .i64 a.n, .int .u32 a.mask, .slice ak a.keep.length ck] 52) = W at *
  obtain ⟨-, f1, -, -, -, -, -, -, ff⟩ := arow8 hr0
  obtain ⟨d0, -, -, -, fr⟩ := rrow4 hrW
  have HB0 := Lib.hid hb0
  have HN0 := Lib.hid hn0
  have HS0 := Lib.hid hs0
  have HR0 := Lib.hid hr0
  have HRW := Lib.hid hrW
  clear hr0 hb0 hs0 hrW hn0
  go_cut [6] from 14 (fun t w' => t = .bool (decide (0 ≤ a.i ∧ a.i < d.safe.length)) ∧ ∃ q, w' = W.drewN q)
  case first =>
    rcases (by omega : a.i < 0 ∨ (0 ≤ a.i ∧ a.i < d.safe.length) ∨ (0 ≤ a.i ∧ d.safe.length ≤ a.i)) with q1 | ⟨q1, q2⟩ | ⟨q1, q2⟩
    · have hd1 : decide (0 ≤ a.i) = false := decide_eq_false (by omega)
      have HD2 := Lib.hid (show decide (0 ≤ a.i ∧ a.i < d.safe.length) = false from decide_eq_false (by omega))
      go_quiet (fail)
      go_wp2_with fail
      go_meet
      case rel => exact ⟨by rw [HD2.out], _, rfl⟩
    · have hd1 : decide (0 ≤ a.i) = true := decide_eq_true (by omega)
      have hd3 : decide (a.i < d.safe.length) = true := decide_eq_true (by omega)
      have HD2 := Lib.hid (show decide (0 ≤ a.i ∧ a.i < d.safe.length) = true from decide_eq_true (by omega))
      go_quiet (fail)
      go_wp2_with fail
      go_meet
      case rel => exact ⟨by rw [HD2.out], _, rfl⟩
    · have hd1 : decide (0 ≤ a.i) = true := decide_eq_true (by omega)
      have hd3 : decide (a.i < d.safe.length) = false := decide_eq_false (by omega)
      have HD2 := Lib.hid (show decide (0 ≤ a.i ∧ a.i < d.safe.length) = false from decide_eq_false (by omega))
      go_quiet (fail)
      go_wp2_with fail
      go_meet
      case rel => exact ⟨by rw [HD2.out], _, rfl⟩
  case rest =>
  obtain ⟨rfl, q, rfl⟩ := hcut
  obtain ⟨th, hth⟩ : ∃ th, th = decide (0 ≤ a.i ∧ a.i < d.safe.length) := ⟨_, rfl⟩
  rw [← hth]
  clear d0 f1 fr ff
  have hbq := btr HB0.out (bdn (bre W) q)
  have hX := HF.out.below hbq
  have hrX : (W.drewN q).heap[r]? = _ := HRW.out
  have hnX : (W.drewN q).heap[n0]? = _ := HR0.out
  have hsX : (W.drewN q).heap.size = n0 + 1 := HS0.out
  have hSX := HS.out.below hbq
  have hWX := HWW.out.below hbq
  have hAX : OwnInts 0 (W.drewN q) (.slice aa d.wait.length ca) (d.wait.map (·.1)) := own_only HA.out (Only.of_below hbq fun _ => False) fun _ _ => id
  have hpX := HVP.out.below hbq
  have hkX := HVK.out.below hbq
  generalize W.drewN q = X at *
  obtain ⟨f0, f1, f2, f3, f4, f5, f6, f7, ff⟩ := arow8 hnX
  obtain ⟨d0, d1, d2, d3, fr⟩ := rrow4 hrX
  have HBX := Lib.hid hbq
  have HX := Lib.hid hX
  have HRX := Lib.hid hrX
  have HNX := Lib.hid hnX
  have HSX := Lib.hid hSX
  have HWX := Lib.hid hWX
  have HAX := Lib.hid hAX
  have HPX := Lib.hid hpX
  have HKX := Lib.hid hkX
  have HTH := Lib.hid hth
  have HSZ := Lib.hid hsX
  clear hbq hX hrX hnX hSX hWX hAX hpX hkX hth hsX HB0 HRW HR0 HF HR HVP HVK HS HWW HA HS0
  have hz6 : ((z : Int) == 6) = false := by simp; omega
  have hz3 : ((z : Int) == 3) = false := by simp; omega
  have hz4 : ((z : Int) == 4) = false := by simp; omega
  have hz5 : ((z : Int) == 5) = false := by simp; omega
  have hy6 : decide ((z : Int) = 6) = false := decide_eq_false (by omega)
  have hy3 : decide ((z : Int) = 3) = false := decide_eq_false (by omega)
  have hy4 : decide ((z : Int) = 4) = false := decide_eq_false (by omega)
  have hy5 : decide ((z : Int) = 5) = false := decide_eq_false (by omega)
  have hodd := HODD.out
  have hgi := HGI.out
  have pi0 := PI0.out
  have pi1 := PI1.out
  have hthx := HTH.out
  rw [decide_eq_true ⟨pi0, pi1⟩] at hthx
  subst hthx
  have hnX := HNX.out
  rw [hgi] at hnX
  rw [hgi] at f1 pi0 pi1
  rw [hodd] at f3
  clear hodd
  have HNX2 := Lib.hid hnX
  have hpf' : ∀ g o n c, a.p ≠ [] → Value.slice ap a.p.length cp = .slice (some ⟨g, o, none⟩) n c → ¬ F g := fun g o n c hne e => hpf hne _ rfl g o n c (by rw [← e]; rfl)
  have HPF := Lib.hid hpf'
  have hlr := Dk.left_range d hl1
  have hls := Dk.wrote_left d gi (fullOf a.p) hb hm
  have hl0 : (d.refLeft == 0) = false := by
    rcases hls with ⟨h, _⟩ | ⟨h, _⟩
    · simp; omega
    · rw [h]; rfl
  have HLS := Lib.hid hls
  obtain ⟨lf, hlf⟩ : ∃ lf, lf = d.refLeft := ⟨_, rfl⟩
  rw [← hlf] at hl0 hlr d3
  have HLF := Lib.hid hlf
  clear d0 d1 d2 hls hlf hmw hcw hnX HNX hpf hpf' hgi
  go_upto_if 46 with (fail)
  go_cut [] from 14 (fun w' => Hid (w'.heap[r]? = some (.cells #[.slice as0 d.safe.length cs, .slice aa d.wait.length ca, .slice aw d.wait.length cw, .int .i64 (d.wrote gi (fullOf a.p)).refLeft] 76 (0, 0))) ∧ Hid (Only X w' (fun k => k = r)))
  case first =>
    rcases HLS.out with ⟨g1, g2⟩ | ⟨g1, g2⟩
    · rw [← HLF.out] at g1
      have hdl : decide (0 < lf) = true := decide_eq_true g1
      go_wp2_with fail
      go_meet
      case rel =>
        refine ⟨Lib.hid ?_, Lib.hid (Only.setCell X ⟨r, 3, none⟩ _)⟩
        rw [g2, ← HLF.out]
        rw [← HLF.out] at HRX
        exact heap_setCell_same X r 3 _ _ _ HRX.out
    · rw [← HLF.out] at g1
      have hdl : decide (0 < lf) = false := decide_eq_false (by omega)
      go_wp2_with fail
      go_meet
      case rel =>
        refine ⟨Lib.hid ?_, Lib.hid (Only.refl _ _)⟩
        have h := HRX.out
        rw [← HLF.out, g1] at h
        rw [g2]
        exact h
  case rest =>
  obtain ⟨HR1, HO1⟩ := hcut
  clear hz6 hz3 hz4 hz5 hy6 hy3 hy4 hy5 hl0 hlr hb hm hl1 hd hz o1 o2 o3 o4 o5 o6 o7 o8 hfew hma hca hms hcs
  have hrn : n0 ≠ r := by have := HN0.out; omega
  have hS1 := HSX.out.block HO1.out HRX.out (by decide) (by decide)
  have hW1 := HWX.out.block HO1.out HRX.out (by decide) (by decide)
  have hA1 : OwnInts 0 wc (.slice aa d.wait.length ca) (d.wait.map (·.1)) := own_only HAX.out HO1.out (fun k hk e => own_ne HAX.out HRX.out (by decide) (by rw [← e]; exact hk))
  have hN1 := (HO1.out.block n0 (Array.getElem?_eq_some_iff.1 HNX2.out).1 hrn).trans HNX2.out
  have hF1 : Only X wc F := HO1.out.mono fun j _ e => by rw [show j = r from e]; exact h6
  clear d3 f0 f1 f2 f3 f4 f5 f6 f7 ff fr
  obtain ⟨d0, d1, d2, d3, fr⟩ := rrow4 HR1.out
  obtain ⟨-, f1, f2, -, -, -, -, -, ff⟩ := arow8 hN1
  have hbA : Below wc.heap.size wc (wc.alloc (.cells #[.int .i64 gi] 3)).drew := btr (bal (bre wc) (.cells #[.int .i64 gi] 3)) (bdr (bre _))
  have hrA := (hbA.block r (Array.getElem?_eq_some_iff.1 HR1.out).1).trans HR1.out
  have hnA := (hbA.block n0 (Array.getElem?_eq_some_iff.1 hN1).1).trans hN1
  have hSA := hS1.below hbA
  have hWA := hW1.below hbA
  have hAA : OwnInts 0 (wc.alloc (.cells #[.int .i64 gi] 3)).drew (.slice aa d.wait.length ca) (d.wait.map (·.1)) := own_only hA1 (Only.of_below hbA fun _ => False) fun _ _ => id
  have hFA := hF1.trans (Only.of_below hbA F) fun _ _ h => h
  have hnew : ∀ (j : Nat) (x : Value), [Value.int .i64 gi][j]? = some x → (wc.alloc (.cells #[.int .i64 gi] 3)).drew.cell? ((⟨wc.heap.size, 0, none⟩ : Addr).add j) = some x := new1 wc (.int .i64 gi) 3
  have hone : ∀ u ∈ [Value.int .i64 gi], u.oneCell' = true := fun u hu => by rw [List.mem_singleton.1 hu]; rfl
  have hlm : (d.wait.map (·.1)).length = d.wait.length := List.length_map _
  have HRA := Lib.hid hrA
  have HNA := Lib.hid hnA
  have HSA := Lib.hid hSA
  have HWA := Lib.hid hWA
  unfold OwnInts at hAA
  rw [List.length_map] at hAA
  have HAA := Lib.hid hAA
  have HFA := Lib.hid hFA
  have HNEW := Lib.hid hnew
  have HONE := Lib.hid hone
  have HLM := Lib.hid hlm
  clear hS1 hW1 hA1 hN1 hF1 hbA hrA hnA hSA hWA hAA hFA hnew hone hlm hrn d0 d3
  go_upto_region 11 with fail
  refine region_anyZ (z := 18) (S := fun w' => w'.cell? ⟨r, 1, none⟩ = some (.slice aa d.wait.length ca) ∧ w'.cell? ⟨r, 2, none⟩ = some (.slice aw d.wait.length cw) ∧ w'.cell? ⟨n0, 1, none⟩ = some (.int .i64 gi) ∧ w'.cell? ⟨n0, 2, none⟩ = some (.slice ap a.p.length cp)) (by kernel_rfl) ?_
  refine anyZ_begin (fun hcl0 => ?_)
  refine anyZ_held (by exact ⟨d1, d2, f1, f2⟩) (fun hHeld => ?_)
  -- 0: Op.move (Operand.tmp 0)
  refine' anyZ_pure (i := 0) (v := _) rfl (by rfl) (by kernel_rfl) (by kernel_rfl) (by kernel_rfl) hcl0 (fun _ _ _ h => h) (Or.inl ⟨by rfl, fun w _ => ?h1⟩) (fun _ => hHeld) (fun hcl1 => ?r1)
  case h1 => (simp only [List.getElem_toArray, List.getElem_cons_zero]; first | (go_simp; with_reducible rfl) | (go_simp; done) | rfl)
  simp only [List.getElem_toArray, List.getElem_cons_zero, Act.put, List.setIfInBounds_toArray, List.set_cons_zero, List.set_cons_succ]
  -- 1: Op.move (Operand.tmp 0)
  refine' anyZ_pure (i := 1) (v := _) rfl (by rfl) (by kernel_rfl) (by kernel_rfl) (by kernel_rfl) hcl1 (fun _ _ _ h => h) (Or.inl ⟨by rfl, fun w _ => ?h2⟩) (fun _ => hHeld) (fun hcl2 => ?r2)
  case h2 => (simp only [List.getElem_toArray, List.getElem_cons_succ, List.getElem_cons_zero]; first | (go_simp; with_reducible rfl) | (go_simp; done) | rfl)
  simp only [List.getElem_toArray, List.getElem_cons_succ, List.getElem_cons_zero, Act.put, List.setIfInBounds_toArray, List.set_cons_zero, List.set_cons_succ]
  -- 2: Op.move (Operand.tmp 0)
  refine' anyZ_pure (i := 2) (v := _) rfl (by rfl) (by kernel_rfl) (by kernel_rfl) (by kernel_rfl) hcl2 (fun _ _ _ h => h) (Or.inl ⟨by rfl, fun w _ => ?h3⟩) (fun _ => hHeld) (fun hcl3 => ?r3)
  case h3 => (simp only [List.getElem_toArray, List.getElem_cons_succ, List.getElem_cons_zero]; first | (go_simp; with_reducible rfl) | (go_simp; done) | rfl)
  simp only [List.getElem_toArray, List.getElem_cons_succ, List.getElem_cons_zero, Act.put, List.setIfInBounds_toArray, List.set_cons_zero, List.set_cons_succ]
  -- 3: Op.nilCheck (Operand.tmp 56)
  refine' anyZ_pure (i := 3) (v := _) rfl (by rfl) (by kernel_rfl) (by kernel_rfl) (by kernel_rfl) hcl3 (fun _ _ _ h => h) (Or.inl ⟨by rfl, fun w _ => ?h4⟩) (fun _ => hHeld) (fun hcl4 => ?r4)
  case h4 => (simp only [List.getElem_toArray, List.getElem_cons_succ, List.getElem_cons_zero]; first | (go_simp; with_reducible rfl) | (go_simp; done) | rfl)
  simp only [List.getElem_toArray, List.getElem_cons_succ, List.getElem_cons_zero, Act.put, List.setIfInBounds_toArray, List.set_cons_zero, List.set_cons_succ]
  -- 4: Op.fieldAddr 76 (Operand.tmp 57) 1
  refine' anyZ_pure (i := 4) (v := _) rfl (by rfl) (by kernel_rfl) (by kernel_rfl) (by kernel_rfl) hcl4 (fun _ _ _ h => h) (Or.inl ⟨by rfl, fun w _ => ?h5⟩) (fun _ => hHeld) (fun hcl5 => ?r5)
  case h5 => (simp only [List.getElem_toArray, List.getElem_cons_succ, List.getElem_cons_zero]; first | (go_simp; with_reducible rfl) | (go_simp; done) | rfl)
  simp only [List.getElem_toArray, List.getElem_cons_succ, List.getElem_cons_zero, Act.put, List.setIfInBounds_toArray, List.set_cons_zero, List.set_cons_succ]
  -- 5: Op.load 38 (Operand.tmp 58)
  refine' anyZ_take (i := 5) (v := _) rfl (by rfl) (by kernel_rfl) (by kernel_rfl) (by kernel_rfl) hcl5 5 (by kernel_rfl) (by kernel_rfl) (fun _ _ _ h => h) (Or.inl ⟨by rfl, fun w hSw => ?h6⟩) hHeld (fun hcl6 => ?r6)
  case h6 => (simp only [List.getElem_toArray, List.getElem_cons_succ, List.getElem_cons_zero]; obtain ⟨hS1, hS2, hS3, hS4⟩ := hSw; first | (go_simp; with_reducible rfl) | (go_simp; done) | rfl)
  simp only [List.getElem_toArray, List.getElem_cons_succ, List.getElem_cons_zero, Act.put, List.setIfInBounds_toArray, List.set_cons_zero, List.set_cons_succ]
  -- 6: Op.fieldAddr 52 (Operand.tmp 3) 1
  refine' anyZ_pure (i := 6) (v := _) rfl (by rfl) (by kernel_rfl) (by kernel_rfl) (by kernel_rfl) hcl6 (fun _ _ _ h => h) (Or.inl ⟨by rfl, fun w _ => ?h7⟩) (fun _ => hHeld) (fun hcl7 => ?r7)
  case h7 => (simp only [List.getElem_toArray, List.getElem_cons_succ, List.getElem_cons_zero]; first | (go_simp; with_reducible rfl) | (go_simp; done) | rfl)
  simp only [List.getElem_toArray, List.getElem_cons_succ, List.getElem_cons_zero, Act.put, List.setIfInBounds_toArray, List.set_cons_zero, List.set_cons_succ]
  -- 7: Op.load 3 (Operand.tmp 60)
  refine' anyZ_take (i := 7) (v := _) rfl (by rfl) (by kernel_rfl) (by kernel_rfl) (by kernel_rfl) hcl7 5 (by kernel_rfl) (by kernel_rfl) (fun _ _ _ h => h) (Or.inl ⟨by rfl, fun w hSw => ?h8⟩) hHeld (fun hcl8 => ?r8)
  case h8 => (simp only [List.getElem_toArray, List.getElem_cons_succ, List.getElem_cons_zero]; obtain ⟨hS1, hS2, hS3, hS4⟩ := hSw; first | (go_simp; with_reducible rfl) | (go_simp; done) | rfl)
  simp only [List.getElem_toArray, List.getElem_cons_succ, List.getElem_cons_zero, Act.put, List.setIfInBounds_toArray, List.set_cons_zero, List.set_cons_succ]
  -- 10: Op.move (Operand.tmp 0)
  refine' anyZ_pure (i := 10) (v := _) rfl (by rfl) (by kernel_rfl) (by kernel_rfl) (by kernel_rfl) hcl8 (fun _ _ _ h => h) (Or.inl ⟨by rfl, fun w _ => ?h9⟩) (fun _ => hHeld) (fun hcl9 => ?r9)
  case h9 => (simp only [List.getElem_toArray, List.getElem_cons_succ, List.getElem_cons_zero]; first | (go_simp; with_reducible rfl) | (go_simp; done) | rfl)
  simp only [List.getElem_toArray, List.getElem_cons_succ, List.getElem_cons_zero, Act.put, List.setIfInBounds_toArray, List.set_cons_zero, List.set_cons_succ]
  -- 11: Op.nilCheck (Operand.tmp 64)
  refine' anyZ_pure (i := 11) (v := _) rfl (by rfl) (by kernel_rfl) (by kernel_rfl) (by kernel_rfl) hcl9 (fun _ _ _ h => h) (Or.inl ⟨by rfl, fun w _ => ?h10⟩) (fun _ => hHeld) (fun hcl10 => ?r10)
  case h10 => (simp only [List.getElem_toArray, List.getElem_cons_succ, List.getElem_cons_zero]; first | (go_simp; with_reducible rfl) | (go_simp; done) | rfl)
  simp only [List.getElem_toArray, List.getElem_cons_succ, List.getElem_cons_zero, Act.put, List.setIfInBounds_toArray, List.set_cons_zero, List.set_cons_succ]
  -- 12: Op.fieldAddr 76 (Operand.tmp 65) 2
  refine' anyZ_pure (i := 12) (v := _) rfl (by rfl) (by kernel_rfl) (by kernel_rfl) (by kernel_rfl) hcl10 (fun _ _ _ h => h) (Or.inl ⟨by rfl, fun w _ => ?h11⟩) (fun _ => hHeld) (fun hcl11 => ?r11)
  case h11 => (simp only [List.getElem_toArray, List.getElem_cons_succ, List.getElem_cons_zero]; first | (go_simp; with_reducible rfl) | (go_simp; done) | rfl)
  simp only [List.getElem_toArray, List.getElem_cons_succ, List.getElem_cons_zero, Act.put, List.setIfInBounds_toArray, List.set_cons_zero, List.set_cons_succ]
  -- 13: Op.load 41 (Operand.tmp 66)
  refine' anyZ_take (i := 13) (v := _) rfl (by rfl) (by kernel_rfl) (by kernel_rfl) (by kernel_rfl) hcl11 5 (by kernel_rfl) (by kernel_rfl) (fun _ _ _ h => h) (Or.inl ⟨by rfl, fun w hSw => ?h12⟩) hHeld (fun hcl12 => ?r12)
  case h12 => (simp only [List.getElem_toArray, List.getElem_cons_succ, List.getElem_cons_zero]; obtain ⟨hS1, hS2, hS3, hS4⟩ := hSw; first | (go_simp; with_reducible rfl) | (go_simp; done) | rfl)
  simp only [List.getElem_toArray, List.getElem_cons_succ, List.getElem_cons_zero, Act.put, List.setIfInBounds_toArray, List.set_cons_zero, List.set_cons_succ]
  -- 14: Op.fieldAddr 52 (Operand.tmp 3) 2
  refine' anyZ_pure (i := 14) (v := _) rfl (by rfl) (by kernel_rfl) (by kernel_rfl) (by kernel_rfl) hcl12 (fun _ _ _ h => h) (Or.inl ⟨by rfl, fun w _ => ?h13⟩) (fun _ => hHeld) (fun hcl13 => ?r13)
  case h13 => (simp only [List.getElem_toArray, List.getElem_cons_succ, List.getElem_cons_zero]; first | (go_simp; with_reducible rfl) | (go_simp; done) | rfl)
  simp only [List.getElem_toArray, List.getElem_cons_succ, List.getElem_cons_zero, Act.put, List.setIfInBounds_toArray, List.set_cons_zero, List.set_cons_succ]
  -- 15: Op.load 22 (Operand.tmp 68)
  refine' anyZ_take (i := 15) (v := _) rfl (by rfl) (by kernel_rfl) (by kernel_rfl) (by kernel_rfl) hcl13 5 (by kernel_rfl) (by kernel_rfl) (fun _ _ _ h => h) (Or.inl ⟨by rfl, fun w hSw => ?h14⟩) hHeld (fun hcl14 => ?r14)
  case h14 => (simp only [List.getElem_toArray, List.getElem_cons_succ, List.getElem_cons_zero]; obtain ⟨hS1, hS2, hS3, hS4⟩ := hSw; first | (go_simp; with_reducible rfl) | (go_simp; done) | rfl)
  simp only [List.getElem_toArray, List.getElem_cons_succ, List.getElem_cons_zero, Act.put, List.setIfInBounds_toArray, List.set_cons_zero, List.set_cons_succ]
  -- 8: Op.buildSlice 38 1 #[(0, Operand.tmp 61)]
  refine anyZ_one (i := 8) hcl14 (by kernel_rfl) (by simp only [List.getElem?_toArray, List.getElem?_cons_succ, List.getElem?_cons_zero]; rfl) (by rfl) (fun hcl15 K hK => ?_)
  go_simp
  refine hK _ _ (fun _ => ?_) ?_
  · exact ⟨(rrow4 HRA.out).2.1, (rrow4 HRA.out).2.2.1, (arow8 HNA.out).2.1, (arow8 HNA.out).2.2.1⟩
  clear hK K hHeld
  have hHeld := (True.intro)
  try simp only [Act.put, List.setIfInBounds_toArray, List.set_cons_zero, List.set_cons_succ]
  -- 9: Op.call { callee := Callee.builtin Builtin.append, args := #
  refine anyZ_one (i := 9) hcl15 (by kernel_rfl) (by simp only [List.getElem?_toArray, List.getElem?_cons_succ, List.getElem?_cons_zero]; rfl) (by rfl) (fun hcl16 K hK => ?_)
  refine wp_app' _ _ 38 3 1 8 rowI rfl 0 (.slice aa d.wait.length ca) d.wait.length _ rfl HAA.out ⟨wc.heap.size, 0, none⟩ 1 1 [.int .i64 gi] rfl rfl HNEW.out HONE.out (by unfold maxLen; omega) (by omega) (Nat.zero_le _) ?_
  intro v6 w6 k6 hg6 hs6
  have hr6 := (Only.block (Only.of_grown hg6) r (Array.getElem?_eq_some_iff.1 HRA.out).1 (fun e => own_ne HAA.out HRA.out (by decide) e)).trans HRA.out
  have hn6 := (Only.block (Only.of_grown hg6) n0 (Array.getElem?_eq_some_iff.1 HNA.out).1 (fun e => own_ne HAA.out HNA.out (by decide) e)).trans HNA.out
  have hS6 := HSA.out.row HAA.out (Only.of_grown hg6) (by decide) (by decide)
  have hW6 := HWA.out.row HAA.out (Only.of_grown hg6) (by decide) (by decide)
  have hF6 := HFA.out.trans ((Only.of_grown hg6).mono fun k _ hk => H4.out k hk) fun _ _ h => h
  have hP6 := Bytes.only HPX.out hF6 HPF.out
  obtain ⟨a6, c6, rfl, -⟩ := ownsRow_lies k6
  have HS6 := Lib.hid hS6
  have HW6 := Lib.hid hW6
  have HF6 := Lib.hid hF6
  have HP6 := Lib.hid hP6
  have HR6 := Lib.hid hr6
  have HN6 := Lib.hid hn6
  have HI6 := Lib.hid k6
  have HST6 := Lib.hid hs6
  clear hS6 hW6 hF6 hP6 hr6 k6 hs6 hn6 hg6 f1 f2 ff d1 d2 fr
  refine hK _ _ (fun _ => ?_) ?_
  · exact ⟨(rrow4 HR6.out).2.1, (rrow4 HR6.out).2.2.1, (arow8 HN6.out).2.1, (arow8 HN6.out).2.2.1⟩
  clear hK K hHeld
  have hHeld := (True.intro)
  try simp only [Act.put, List.setIfInBounds_toArray, List.set_cons_zero, List.set_cons_succ]
  -- 16: Op.call { callee := Callee.value (Operand.func 11), args := 
  refine anyZ_one (i := 16) hcl16 (by kernel_rfl) (by simp only [List.getElem?_toArray, List.getElem?_cons_succ, List.getElem?_cons_zero]; rfl) (by rfl) (fun hcl17 K hK => ?_)
  go_simp
  refine (full_any _ a.p _ HP6.out).mono ?_
  rintro e w7 ⟨v7, rfl, ho7, hb7⟩
  have ho7' := ownsRow_base (base' := 0) ho7 (Nat.zero_le _)
  obtain ⟨a7, c7, rfl⟩ := RowsAt.isSlice ho7'
  have hr7 := (hb7.block r (Array.getElem?_eq_some_iff.1 HR6.out).1).trans HR6.out
  have hn7 := (hb7.block n0 (Array.getElem?_eq_some_iff.1 HN6.out).1).trans HN6.out
  have HR7 := Lib.hid hr7
  have HN7 := Lib.hid hn7
  have hbB : Below w6.heap.size w6 (w7.alloc (.cells #[.slice a7 (fullOf a.p).length c7] 22)) := btr hb7 (bal (bre w7) (.cells #[.slice a7 (fullOf a.p).length c7] 22))
  have hnew := new1 w7 (.slice a7 (fullOf a.p).length c7) 22
  have hu7 : Own8 5 0 (w7.alloc (.cells #[.slice a7 (fullOf a.p).length c7] 22)) (.slice a7 (fullOf a.p).length c7) (fullOf a.p) := World.ownsRow.alloc ho7' _
  have hu7b : ∀ k, (Value.slice a7 (fullOf a.p).length c7).ownBlock = some k → w6.heap.size ≤ k ∧ k < w7.heap.size := fun k hk => World.ownsRow.lt ho7 k hk
  have hsB : (w7.alloc (.cells #[.slice a7 (fullOf a.p).length c7] 22)).heap.size = w7.heap.size + 1 := by simp
  have hrB := (hbB.block r (Array.getElem?_eq_some_iff.1 HR6.out).1).trans HR6.out
  have hnB := (hbB.block n0 (Array.getElem?_eq_some_iff.1 HN6.out).1).trans HN6.out
  obtain ⟨us, g1, g2, g3, g4⟩ := HW6.out.below hbB
  have hlw : us.length = d.wait.length := by rw [g1, List.length_map]
  rw [hlw] at g2
  have hone : ∀ u ∈ [Value.slice a7 (fullOf a.p).length c7], u.oneCell' = true := fun u hu => by rw [List.mem_singleton.1 hu]; rfl
  have HBB := Lib.hid hbB
  have HNEW2 := Lib.hid hnew
  have HU7 := Lib.hid hu7
  have HU7B := Lib.hid hu7b
  have HSB := Lib.hid hsB
  have HRB := Lib.hid hrB
  have HNB := Lib.hid hnB
  have G1 := Lib.hid g1
  have G2 := Lib.hid g2
  have G3 := Lib.hid g3
  have G4 := Lib.hid g4
  have HONE2 := Lib.hid hone
  clear ho7 ho7' hbB hnew hu7 hu7b hsB hrB hnB g1 g2 g3 g4 hone hlw hb7 hr7 hn7
  refine hK _ _ (fun _ => ?_) ?_
  · exact ⟨(rrow4 HR7.out).2.1, (rrow4 HR7.out).2.2.1, (arow8 HN7.out).2.1, (arow8 HN7.out).2.2.1⟩
  clear hK K hHeld
  have hHeld := (True.intro)
  try simp only [Act.put, List.setIfInBounds_toArray, List.set_cons_zero, List.set_cons_succ]
  -- 17: Op.buildSlice 41 1 #[(0, Operand.tmp 70)]
  refine anyZ_one (i := 17) hcl17 (by kernel_rfl) (by simp only [List.getElem?_toArray, List.getElem?_cons_succ, List.getElem?_cons_zero]; rfl) (by rfl) (fun hcl18 K hK => ?_)
  go_simp
  refine hK _ _ (fun _ => ?_) ?_
  · exact ⟨(rrow4 HRB.out).2.1, (rrow4 HRB.out).2.2.1, (arow8 HNB.out).2.1, (arow8 HNB.out).2.2.1⟩
  clear hK K hHeld
  try simp only [Act.put, List.setIfInBounds_toArray, List.set_cons_zero, List.set_cons_succ]
  refine anyZ_chain_at (by kernel_rfl) ?_
  simp only [List.drop_succ_cons, List.drop_zero]
  go_wp2_with (at_builtin; refine wpList_app' rfl _ _ 41 22 1 24 rowB rfl 0 _ d.wait.length us rfl G2.out ⟨w7.heap.size, 0, none⟩ 1 1 [.slice a7 (fullOf a.p).length c7] rfl rfl HNEW2.out HONE2.out (by unfold maxLen; omega) (by omega) (Nat.zero_le _) ?_; intro v8 w8 k8 hg8 hs8; obtain ⟨a8, c8, rfl, -⟩ := ownsRow_lies k8; have hR8 := (Only.block (Only.of_grown hg8) r (Array.getElem?_eq_some_iff.1 HRB.out).1 (fun e => own_ne G2.out HRB.out (by decide) e)).trans HRB.out; obtain ⟨-, d1, d2, -, fr⟩ := rrow4 hR8; have HR8 := Lib.hid hR8; have HK8 := Lib.hid k8; have HG8 := Lib.hid hg8; have HST8 := Lib.hid hs8; clear hR8 k8 hg8 hs8)
  go_ret2
  have hlm := HLM.out
  have ho8 := Only.of_grown HG8.out
  have ho9 : Only w8 ((w8.setCell ⟨r, 1, none⟩ (.slice a6 (d.wait.length + 1) c6)).setCell ⟨r, 2, none⟩ (.slice a8 (d.wait.length + 1) c8)) (fun k => k = r) := (Only.setCell _ _ _).trans (Only.setCell _ _ _) fun _ _ h => h
  have hr9 := heap_setCell_same _ r 2 _ _ (.slice a8 (d.wait.length + 1) c8) (heap_setCell_same w8 r 1 _ _ (.slice a6 (d.wait.length + 1) c6) HR8.out)
  have hs8 := ((HS6.out.below HBB.out).apart G2.out ho8 H7.out).block ho9 HR8.out (by decide) (by decide)
  have hi8 := only_own (own_only HI6.out (Only.of_below HBB.out fun _ => False) fun _ _ => id) G2.out ho8 (by decide)
  have hi9 := own_only hi8 ho9 (fun k hk e => own_ne hi8 HR8.out (by decide) (by rw [← e]; exact hk))
  have hle6 := HF6.out.size
  have hleX := HBX.out.size
  have hleB := HBB.out.size
  have hle8 := HG8.out.size
  have hle9 := ho9.size
  have hw8 : RowsAt w8 (.slice a8 (d.wait.length + 1) c8) (d.wait.map (·.2) ++ [fullOf a.p]) (Fw F w w8) := RowsAt.app G1.out G2.out G3.out G4.out HU7.out (fun k hk => .inr (by have := HU7B.out k hk; have := HSB.out; omega)) (fun k hk => .inl hk) HK8.out HG8.out HST8.out (fun k h1 h2 => .inr (by omega))
  have hw9 := (hw8.block ho9 HR8.out (by decide) (by decide)).fw ho9.size
  have hF9 : Only w _ F := ((((Only.of_below HBX.out F).trans HF6.out fun _ _ h => h).trans (Only.of_below HBB.out F) fun _ _ h => h).trans (ho8.mono fun k _ hk => G4.out k hk) fun _ _ h => h).trans (ho9.mono fun j _ e => by rw [show j = r from e]; exact h6) fun _ _ h => h
  refine ⟨Fw F w _, rfl, ⟨⟨HOK.out.safe, fun x hx => ?_, HOK.out.few⟩, _, _, _, hr9, hs8.mono fun k hk => .inl hk, ?_, fun k hk => ?_, ?_, .inl h6, ?_, fun k hk => hk.elim (fun h => Nat.lt_of_lt_of_le (H8.out k h) hF9.size) (·.2)⟩, hF9, fun k hk => hk.imp id (·.1)⟩
  · rcases List.mem_append.1 (show x ∈ d.wait ++ [(gi, fullOf a.p)] from hx) with h | h
    · exact HOK.out.wait x h
    · rw [List.mem_singleton.1 h]; exact ⟨fullOf_length _, by show gi < d.safe.length; omega⟩
  · have he : (d.wrote gi (fullOf a.p)).wait.map (·.1) = d.wait.map (·.1) ++ [gi] := by unfold Dk.wrote; simp
    unfold OwnInts
    rw [he, List.length_append, List.length_map, List.map_append]
    exact hi9
  · rcases HST6.out with h | h
    · rw [h] at hk; exact .inl (H4.out k hk)
    · have h1 := h k hk
      have h2 := (World.ownsRow.lt hi9 k hk).2
      have h3 := HFA.out.size
      exact .inr ⟨by omega, h2⟩
  · have he : (d.wrote gi (fullOf a.p)).wait.map (·.2) = d.wait.map (·.2) ++ [fullOf a.p] := by unfold Dk.wrote; simp
    rw [he]
    exact hw9
  · rcases HST8.out with h | h
    · rw [h]; exact H7.out
    · cases hvs : (Value.slice as0 d.safe.length cs).ownBlock with
      | none => exact .inl rfl
      | some q =>
        right
        intro e
        have h1 := h q e.symm
        obtain ⟨_, _, q2, _⟩ := id HSX.out
        have h2 := (World.ownsRow.lt q2 q hvs).2
        omega

end Go.Proofs.Ytkonjjanoifinaa
