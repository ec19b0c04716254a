/- Walk: the document's disk: rot. -/
import Derived.Test.YtkonjjanoifinaaRkFw
import Derived.BigQuiet
namespace Go.Proofs.Ytkonjjanoifinaa
open Go.RowKit
set_option maxRecDepth 10000 in
set_option maxHeartbeats 3200000 in
theorem refdo_rot (r : Nat) (d : Dk) (F : Nat → Prop) (v : Value) (a : Actn) (w : World) (h : RefAt w r d F) (ha : ActAt w v a) (hao : a.Ok) (hd : a.do_ % 7 = 4) (pn0 : 0 ≤ a.n) (pn1 : a.n ≤ 32) (pb0 : 0 ≤ a.bit) (pb1 : a.bit + a.n ≤ 4096) (pi0 : 0 ≤ a.i) (pi1 : a.i < d.safe.length) (hlen : d.wait.length ≤ 1000000) :
    Calls Try.prog 23 #[.pointer (some ⟨r, 0, none⟩), v] w fun e w' => ∃ F', e = .returned (.tuple #[.pointer (some ⟨r, 0, none⟩), .int .i64 0]) ∧ RefAt w' r (d.rotted a.i.toNat a.bit.toNat a.mask a.n.toNat) F' ∧ Moved w w' F F' := by
  obtain ⟨gi, hgi⟩ : ∃ gi : Nat, a.i = gi := ⟨a.i.toNat, by omega⟩
  obtain ⟨gb, hgb⟩ : ∃ gb : Nat, a.bit = gb := ⟨a.bit.toNat, by omega⟩
  obtain ⟨gn, hgn⟩ : ∃ gn : Nat, a.n = gn := ⟨a.n.toNat, by omega⟩
  rw [show a.i.toNat = gi by omega, show a.bit.toNat = gb by omega, show a.n.toNat = gn by omega]
  have HGI := Lib.hid hgi
  have HGB := Lib.hid hgb
  have HGN := Lib.hid hgn
  have PI0 := Lib.hid pi0
  have PI1 := Lib.hid pi1
  have PB0 := Lib.hid pb0
  have PB1 := Lib.hid pb1
  have PN0 := Lib.hid pn0
  have PN1 := Lib.hid pn1
  clear hgi hgb hgn pi0 pi1 pb0 pb1 pn0 pn1
  obtain ⟨h0, vs, va, vw, h1, h2, h3, h4, h5, h6, h7, h8⟩ := h
  obtain ⟨vp, vk, rfl, hvp, hvk⟩ := ha
  obtain ⟨o1, o2, o3, o4, o5, o6, o7, o8⟩ := hao
  obtain ⟨ap, cp, rfl, _⟩ := id hvp
  obtain ⟨ak, ck, rfl, _⟩ := id hvk
  obtain ⟨as0, cs, rfl, hms, hcs⟩ := h2.lies
  obtain ⟨aa, ca, rfl, hma, hca⟩ := h3.lies
  obtain ⟨aw, cw, rfl, hmw, hcw⟩ := h5.lies
  have hfew := h0.few
  rw [List.length_map] at hma hca hmw hcw
  have hrl := h8 r h6
  have HF := Lib.hid (show RefAt w r d F from ⟨h0, _, _, _, h1, h2, h3, h4, h5, h6, h7, h8⟩)
  have HVP := Lib.hid hvp
  have HVK := Lib.hid hvk
  rw [List.length_map, List.length_map] at h1
  rw [List.length_map] at h3 h5
  simp only [List.length_map] at h4 h7
  have HR := Lib.hid h1
  have HOK := Lib.hid h0
  have HS := Lib.hid h2
  have HA := Lib.hid h3
  have HWW := Lib.hid h5
  have H4 := Lib.hid h4
  have H7 := Lib.hid h7
  have H8 := Lib.hid h8
  clear h0 h1 h2 h3 h4 h5 h7 h8 hvp hvk
  go_enter Try.func23, Try.ntmps23
  go_upto_region 1 with fail
  obtain ⟨n0, hn0⟩ : ∃ n0, n0 = w.heap.size := ⟨_, rfl⟩
  have hr0 := heap_alloc_new w (.cells #[.int .u8 a.do_, .int .i64 a.i, .slice ap a.p.length cp, .bool a.odd, .int .i64 a.bit, .int .i64 a.n, .int .u32 a.mask, .slice ak a.keep.length ck] 52)
  have hb0 := bal (bre w) (.cells #[.int .u8 a.do_, .int .i64 a.i, .slice ap a.p.length cp, .bool a.odd, .int .i64 a.bit, .int .i64 a.n, .int .u32 a.mask, .slice ak a.keep.length ck] 52)
  have hs0 : (w.alloc (.cells #[.int .u8 a.do_, .int .i64 a.i, .slice ap a.p.length cp, .bool a.odd, .int .i64 a.bit, .int .i64 a.n, .int .u32 a.mask, .slice ak a.keep.length ck] 52)).heap.size = n0 + 1 := by rw [hn0]; simp
  have hrW := (hb0.block r hrl).trans HR.out
  rw [← hn0] at hr0 ⊢
  generalize w.alloc (.cells #[.int .u8 a.do_, .int .i64 a.i, .slice ap a.p.length cp, .bool a.odd, .int .i64 a.bit, .int .i64 a.n, .int .u32 a.mask, .slice ak a.keep.length ck] 52) = W at *
  obtain ⟨_, f1, _, _, _, _, _, _, ff⟩ := arow8 hr0
  obtain ⟨d0, _, _, _, fr⟩ := rrow4 hrW
  have HB0 := Lib.hid hb0
  have HN0 := Lib.hid hn0
  have HS0 := Lib.hid hs0
  have HR0 := Lib.hid hr0
  have HRW := Lib.hid hrW
  clear hr0 hb0 hs0 hrW hn0
  go_cut [6] from 14 (fun t w' => t = .bool (decide (0 ≤ a.i ∧ a.i < d.safe.length)) ∧ ∃ q, w' = W.drewN q)
  case first =>
    rcases (by omega : a.i < 0 ∨ (0 ≤ a.i ∧ a.i < d.safe.length) ∨ (0 ≤ a.i ∧ d.safe.length ≤ a.i)) with q1 | ⟨q1, q2⟩ | ⟨q1, q2⟩
    · have hd1 : decide (0 ≤ a.i) = false := decide_eq_false (by omega)
      have HD2 := Lib.hid (show decide (0 ≤ a.i ∧ a.i < d.safe.length) = false from decide_eq_false (by omega))
      go_quiet (fail)
      go_wp2_with fail
      go_meet
      case rel => exact ⟨by rw [HD2.out], _, rfl⟩
    · have hd1 : decide (0 ≤ a.i) = true := decide_eq_true (by omega)
      have hd3 : decide (a.i < d.safe.length) = true := decide_eq_true (by omega)
      have HD2 := Lib.hid (show decide (0 ≤ a.i ∧ a.i < d.safe.length) = true from decide_eq_true (by omega))
      go_quiet (fail)
      go_wp2_with fail
      go_meet
      case rel => exact ⟨by rw [HD2.out], _, rfl⟩
    · have hd1 : decide (0 ≤ a.i) = true := decide_eq_true (by omega)
      have hd3 : decide (a.i < d.safe.length) = false := decide_eq_false (by omega)
      have HD2 := Lib.hid (show decide (0 ≤ a.i ∧ a.i < d.safe.length) = false from decide_eq_false (by omega))
      go_quiet (fail)
      go_wp2_with fail
      go_meet
      case rel => exact ⟨by rw [HD2.out], _, rfl⟩
  case rest =>
  obtain ⟨rfl, q, rfl⟩ := hcut
  obtain ⟨th, hth⟩ : ∃ th, th = decide (0 ≤ a.i ∧ a.i < d.safe.length) := ⟨_, rfl⟩
  rw [← hth]
  clear d0 f1 fr ff
  have hbq := btr HB0.out (bdn (bre W) q)
  have hX := HF.out.below hbq
  have hrX : (W.drewN q).heap[r]? = _ := HRW.out
  have hnX : (W.drewN q).heap[n0]? = _ := HR0.out
  have hsX : (W.drewN q).heap.size = n0 + 1 := HS0.out
  have hSX := HS.out.below hbq
  have hWX := HWW.out.below hbq
  have hAX : OwnInts 0 (W.drewN q) (.slice aa d.wait.length ca) (d.wait.map (·.1)) := own_only HA.out (Only.of_below hbq fun _ => False) fun _ _ => id
  have hpX := HVP.out.below hbq
  have hkX := HVK.out.below hbq
  generalize W.drewN q = X at *
  obtain ⟨f0, f1, f2, f3, f4, f5, f6, f7, ff⟩ := arow8 hnX
  obtain ⟨d0, d1, d2, d3, fr⟩ := rrow4 hrX
  have HBX := Lib.hid hbq
  have HX := Lib.hid hX
  have HRX := Lib.hid hrX
  have HNX := Lib.hid hnX
  have HSX := Lib.hid hSX
  have HWX := Lib.hid hWX
  have HAX := Lib.hid hAX
  have HPX := Lib.hid hpX
  have HKX := Lib.hid hkX
  have HTH := Lib.hid hth
  have HSZ := Lib.hid hsX
  clear hbq hX hrX hnX hSX hWX hAX hpX hkX hth hsX HB0 HRW HR0 HF HR HVP HVK HS HWW HA HS0
  have hgi := HGI.out
  have hgb := HGB.out
  have hgn := HGN.out
  have pi0 := PI0.out
  have pi1 := PI1.out
  have pb0 := PB0.out
  have pb1 := PB1.out
  have pn0 := PN0.out
  have pn1 := PN1.out
  have hthx := HTH.out
  rw [decide_eq_true ⟨pi0, pi1⟩] at hthx
  subst hthx
  have hnX := HNX.out
  rw [hgi, hgb, hgn] at hnX
  rw [hgi] at f1 pi0 pi1
  rw [hgb] at f4 pb0 pb1
  rw [hgn] at f5 pn0 pn1 pb1
  have hnn1 : gn ≤ 32 := by omega
  have hnb1 : gb + gn ≤ 4096 := by omega
  have HNX2 := Lib.hid hnX
  obtain ⟨l, hl⟩ : ∃ l, d.safe[gi]? = some l := ⟨_, List.getElem?_eq_getElem (by omega)⟩
  have hll : l.length = 512 := HOK.out.safe l (List.mem_of_getElem? hl)
  obtain ⟨gs, cs', us, e2, hFs, hcs', hfs, hos, _⟩ := HSX.out.at gi l hl
  cases e2
  obtain ⟨au, cu, rfl⟩ := RowsAt.isSlice hos
  obtain ⟨us0, gl0, g20, g30, g40⟩ := id HSX.out
  have hrg : r ≠ gs := fun e => own_ne g20 HRX.out (by decide) (by rw [e]; rfl)
  have hng : n0 ≠ gs := fun e => own_ne g20 HNX2.out (by decide) (by rw [e]; rfl)
  have HG20 := Lib.hid g20
  have hnsw : (Value.slice aw d.wait.length cw).ownBlock ≠ some gs := fun e => by
    rcases H7.out with h | h
    · cases h
    · exact h e.symm
  have hd1 : decide ((gn : Int) < 0) = false := decide_eq_false (by omega)
  have hd2 : decide ((32 : Int) < gn) = false := decide_eq_false (by omega)
  have hd3 : decide ((gb : Int) < 0) = false := decide_eq_false (by omega)
  have hd4 : decide ((4096 : Int) < gb) = false := decide_eq_false (by omega)
  have hd5 : decide ((4096 : Int) < gb + gn) = false := decide_eq_false (by omega)
  have HOS := Lib.hid hos
  have HLL := Lib.hid hll
  have HL := Lib.hid hl
  have HNW := Lib.hid hnsw
  have HFAW : Hid (∀ k, (Value.slice aw d.wait.length cw).ownBlock = some k → F k) := by
    obtain ⟨_, _, _, _, h⟩ := HWX.out
    exact Lib.hid h
  have HGSL := Lib.hid (show gs < X.heap.size from (World.ownsRow.lt g20 gs rfl).2)
  clear hnX HNX g20 g30 g40 gl0 hos hll hnsw hl hgi hgb hgn
  go_upto_region 32 with fail
  refine region_anyZ (z := 21) (S := fun w' => w'.cell? ⟨r, 0, none⟩ = some (.slice (some ⟨gs, 0, none⟩) d.safe.length cs) ∧ w'.cell? ⟨gs, gi, none⟩ = some (.slice au l.length cu) ∧ w'.cell? ⟨n0, 1, none⟩ = some (.int .i64 gi) ∧ w'.cell? ⟨n0, 4, none⟩ = some (.int .i64 gb) ∧ w'.cell? ⟨n0, 5, none⟩ = some (.int .i64 gn) ∧ w'.cell? ⟨n0, 6, none⟩ = some (.int .u32 a.mask)) (by kernel_rfl) ?_
  refine anyZ_begin (fun hcl0 => ?_)
  refine anyZ_held (by exact ⟨d0, hcs', f1, f4, f5, f6⟩) (fun hHeld => ?_)
  -- 0: Op.move (Operand.tmp 0)
  refine' anyZ_pure (i := 0) (v := _) rfl (by rfl) (by kernel_rfl) (by kernel_rfl) (by kernel_rfl) hcl0 (fun _ _ _ h => h) (Or.inl ⟨by rfl, fun w _ => ?h1⟩) (fun _ => hHeld) (fun hcl1 => ?r1)
  case h1 => (simp only [List.getElem_toArray, List.getElem_cons_zero]; first | (go_simp; with_reducible rfl) | (go_simp; done) | rfl)
  simp only [List.getElem_toArray, List.getElem_cons_zero, Act.put, List.setIfInBounds_toArray, List.set_cons_zero, List.set_cons_succ]
  -- 1: Op.nilCheck (Operand.tmp 172)
  refine' anyZ_pure (i := 1) (v := _) rfl (by rfl) (by kernel_rfl) (by kernel_rfl) (by kernel_rfl) hcl1 (fun _ _ _ h => h) (Or.inl ⟨by rfl, fun w _ => ?h2⟩) (fun _ => hHeld) (fun hcl2 => ?r2)
  case h2 => (simp only [List.getElem_toArray, List.getElem_cons_succ, List.getElem_cons_zero]; first | (go_simp; with_reducible rfl) | (go_simp; done) | rfl)
  simp only [List.getElem_toArray, List.getElem_cons_succ, List.getElem_cons_zero, Act.put, List.setIfInBounds_toArray, List.set_cons_zero, List.set_cons_succ]
  -- 2: Op.fieldAddr 76 (Operand.tmp 173) 0
  refine' anyZ_pure (i := 2) (v := _) rfl (by rfl) (by kernel_rfl) (by kernel_rfl) (by kernel_rfl) hcl2 (fun _ _ _ h => h) (Or.inl ⟨by rfl, fun w _ => ?h3⟩) (fun _ => hHeld) (fun hcl3 => ?r3)
  case h3 => (simp only [List.getElem_toArray, List.getElem_cons_succ, List.getElem_cons_zero]; first | (go_simp; with_reducible rfl) | (go_simp; done) | rfl)
  simp only [List.getElem_toArray, List.getElem_cons_succ, List.getElem_cons_zero, Act.put, List.setIfInBounds_toArray, List.set_cons_zero, List.set_cons_succ]
  -- 3: Op.load 41 (Operand.tmp 174)
  refine' anyZ_take (i := 3) (v := _) rfl (by rfl) (by kernel_rfl) (by kernel_rfl) (by kernel_rfl) hcl3 2 (by kernel_rfl) (by kernel_rfl) (fun _ _ _ h => h) (Or.inl ⟨by rfl, fun w hSw => ?h4⟩) hHeld (fun hcl4 => ?r4)
  case h4 => (simp only [List.getElem_toArray, List.getElem_cons_succ, List.getElem_cons_zero]; obtain ⟨hS1, hS2, hS3, hS4, hS5, hS6⟩ := hSw; first | (go_simp; with_reducible rfl) | (go_simp; done) | rfl)
  simp only [List.getElem_toArray, List.getElem_cons_succ, List.getElem_cons_zero, Act.put, List.setIfInBounds_toArray, List.set_cons_zero, List.set_cons_succ]
  -- 4: Op.fieldAddr 52 (Operand.tmp 3) 1
  refine' anyZ_pure (i := 4) (v := _) rfl (by rfl) (by kernel_rfl) (by kernel_rfl) (by kernel_rfl) hcl4 (fun _ _ _ h => h) (Or.inl ⟨by rfl, fun w _ => ?h5⟩) (fun _ => hHeld) (fun hcl5 => ?r5)
  case h5 => (simp only [List.getElem_toArray, List.getElem_cons_succ, List.getElem_cons_zero]; first | (go_simp; with_reducible rfl) | (go_simp; done) | rfl)
  simp only [List.getElem_toArray, List.getElem_cons_succ, List.getElem_cons_zero, Act.put, List.setIfInBounds_toArray, List.set_cons_zero, List.set_cons_succ]
  -- 5: Op.load 3 (Operand.tmp 176)
  refine' anyZ_take (i := 5) (v := _) rfl (by rfl) (by kernel_rfl) (by kernel_rfl) (by kernel_rfl) hcl5 2 (by kernel_rfl) (by kernel_rfl) (fun _ _ _ h => h) (Or.inl ⟨by rfl, fun w hSw => ?h6⟩) hHeld (fun hcl6 => ?r6)
  case h6 => (simp only [List.getElem_toArray, List.getElem_cons_succ, List.getElem_cons_zero]; obtain ⟨hS1, hS2, hS3, hS4, hS5, hS6⟩ := hSw; first | (go_simp; with_reducible rfl) | (go_simp; done) | rfl)
  simp only [List.getElem_toArray, List.getElem_cons_succ, List.getElem_cons_zero, Act.put, List.setIfInBounds_toArray, List.set_cons_zero, List.set_cons_succ]
  -- 6: Op.move (Operand.tmp 0)
  refine' anyZ_pure (i := 6) (v := _) rfl (by rfl) (by kernel_rfl) (by kernel_rfl) (by kernel_rfl) hcl6 (fun _ _ _ h => h) (Or.inl ⟨by rfl, fun w _ => ?h7⟩) (fun _ => hHeld) (fun hcl7 => ?r7)
  case h7 => (simp only [List.getElem_toArray, List.getElem_cons_succ, List.getElem_cons_zero]; first | (go_simp; with_reducible rfl) | (go_simp; done) | rfl)
  simp only [List.getElem_toArray, List.getElem_cons_succ, List.getElem_cons_zero, Act.put, List.setIfInBounds_toArray, List.set_cons_zero, List.set_cons_succ]
  -- 7: Op.nilCheck (Operand.tmp 178)
  refine' anyZ_pure (i := 7) (v := _) rfl (by rfl) (by kernel_rfl) (by kernel_rfl) (by kernel_rfl) hcl7 (fun _ _ _ h => h) (Or.inl ⟨by rfl, fun w _ => ?h8⟩) (fun _ => hHeld) (fun hcl8 => ?r8)
  case h8 => (simp only [List.getElem_toArray, List.getElem_cons_succ, List.getElem_cons_zero]; first | (go_simp; with_reducible rfl) | (go_simp; done) | rfl)
  simp only [List.getElem_toArray, List.getElem_cons_succ, List.getElem_cons_zero, Act.put, List.setIfInBounds_toArray, List.set_cons_zero, List.set_cons_succ]
  -- 8: Op.fieldAddr 76 (Operand.tmp 179) 0
  refine' anyZ_pure (i := 8) (v := _) rfl (by rfl) (by kernel_rfl) (by kernel_rfl) (by kernel_rfl) hcl8 (fun _ _ _ h => h) (Or.inl ⟨by rfl, fun w _ => ?h9⟩) (fun _ => hHeld) (fun hcl9 => ?r9)
  case h9 => (simp only [List.getElem_toArray, List.getElem_cons_succ, List.getElem_cons_zero]; first | (go_simp; with_reducible rfl) | (go_simp; done) | rfl)
  simp only [List.getElem_toArray, List.getElem_cons_succ, List.getElem_cons_zero, Act.put, List.setIfInBounds_toArray, List.set_cons_zero, List.set_cons_succ]
  -- 9: Op.load 41 (Operand.tmp 180)
  refine' anyZ_take (i := 9) (v := _) rfl (by rfl) (by kernel_rfl) (by kernel_rfl) (by kernel_rfl) hcl9 2 (by kernel_rfl) (by kernel_rfl) (fun _ _ _ h => h) (Or.inl ⟨by rfl, fun w hSw => ?h10⟩) hHeld (fun hcl10 => ?r10)
  case h10 => (simp only [List.getElem_toArray, List.getElem_cons_succ, List.getElem_cons_zero]; obtain ⟨hS1, hS2, hS3, hS4, hS5, hS6⟩ := hSw; first | (go_simp; with_reducible rfl) | (go_simp; done) | rfl)
  simp only [List.getElem_toArray, List.getElem_cons_succ, List.getElem_cons_zero, Act.put, List.setIfInBounds_toArray, List.set_cons_zero, List.set_cons_succ]
  -- 10: Op.fieldAddr 52 (Operand.tmp 3) 1
  refine' anyZ_pure (i := 10) (v := _) rfl (by rfl) (by kernel_rfl) (by kernel_rfl) (by kernel_rfl) hcl10 (fun _ _ _ h => h) (Or.inl ⟨by rfl, fun w _ => ?h11⟩) (fun _ => hHeld) (fun hcl11 => ?r11)
  case h11 => (simp only [List.getElem_toArray, List.getElem_cons_succ, List.getElem_cons_zero]; first | (go_simp; with_reducible rfl) | (go_simp; done) | rfl)
  simp only [List.getElem_toArray, List.getElem_cons_succ, List.getElem_cons_zero, Act.put, List.setIfInBounds_toArray, List.set_cons_zero, List.set_cons_succ]
  -- 11: Op.load 3 (Operand.tmp 182)
  refine' anyZ_take (i := 11) (v := _) rfl (by rfl) (by kernel_rfl) (by kernel_rfl) (by kernel_rfl) hcl11 2 (by kernel_rfl) (by kernel_rfl) (fun _ _ _ h => h) (Or.inl ⟨by rfl, fun w hSw => ?h12⟩) hHeld (fun hcl12 => ?r12)
  case h12 => (simp only [List.getElem_toArray, List.getElem_cons_succ, List.getElem_cons_zero]; obtain ⟨hS1, hS2, hS3, hS4, hS5, hS6⟩ := hSw; first | (go_simp; with_reducible rfl) | (go_simp; done) | rfl)
  simp only [List.getElem_toArray, List.getElem_cons_succ, List.getElem_cons_zero, Act.put, List.setIfInBounds_toArray, List.set_cons_zero, List.set_cons_succ]
  -- 12: Op.indexAddr 41 (Operand.tmp 181) (Operand.tmp 183)
  refine' anyZ_pure (i := 12) (v := _) rfl (by rfl) (by kernel_rfl) (by kernel_rfl) (by kernel_rfl) hcl12 (fun _ _ _ h => h) (Or.inl ⟨by rfl, fun w _ => ?h13⟩) (fun _ => hHeld) (fun hcl13 => ?r13)
  case h13 => (simp only [List.getElem_toArray, List.getElem_cons_succ, List.getElem_cons_zero]; first | (go_simp; with_reducible rfl) | (go_simp; done) | rfl)
  simp only [List.getElem_toArray, List.getElem_cons_succ, List.getElem_cons_zero, Act.put, List.setIfInBounds_toArray, List.set_cons_zero, List.set_cons_succ]
  -- 13: Op.load 22 (Operand.tmp 184)
  refine' anyZ_take (i := 13) (v := _) rfl (by rfl) (by kernel_rfl) (by kernel_rfl) (by kernel_rfl) hcl13 2 (by kernel_rfl) (by kernel_rfl) (fun _ _ _ h => h) (Or.inl ⟨by rfl, fun w hSw => ?h14⟩) hHeld (fun hcl14 => ?r14)
  case h14 => (simp only [List.getElem_toArray, List.getElem_cons_succ, List.getElem_cons_zero]; obtain ⟨hS1, hS2, hS3, hS4, hS5, hS6⟩ := hSw; first | (go_simp; with_reducible rfl) | (go_simp; done) | rfl)
  simp only [List.getElem_toArray, List.getElem_cons_succ, List.getElem_cons_zero, Act.put, List.setIfInBounds_toArray, List.set_cons_zero, List.set_cons_succ]
  -- 14: Op.fieldAddr 52 (Operand.tmp 3) 4
  refine' anyZ_pure (i := 14) (v := _) rfl (by rfl) (by kernel_rfl) (by kernel_rfl) (by kernel_rfl) hcl14 (fun _ _ _ h => h) (Or.inl ⟨by rfl, fun w _ => ?h15⟩) (fun _ => hHeld) (fun hcl15 => ?r15)
  case h15 => (simp only [List.getElem_toArray, List.getElem_cons_succ, List.getElem_cons_zero]; first | (go_simp; with_reducible rfl) | (go_simp; done) | rfl)
  simp only [List.getElem_toArray, List.getElem_cons_succ, List.getElem_cons_zero, Act.put, List.setIfInBounds_toArray, List.set_cons_zero, List.set_cons_succ]
  -- 15: Op.load 3 (Operand.tmp 186)
  refine' anyZ_take (i := 15) (v := _) rfl (by rfl) (by kernel_rfl) (by kernel_rfl) (by kernel_rfl) hcl15 2 (by kernel_rfl) (by kernel_rfl) (fun _ _ _ h => h) (Or.inl ⟨by rfl, fun w hSw => ?h16⟩) hHeld (fun hcl16 => ?r16)
  case h16 => (simp only [List.getElem_toArray, List.getElem_cons_succ, List.getElem_cons_zero]; obtain ⟨hS1, hS2, hS3, hS4, hS5, hS6⟩ := hSw; first | (go_simp; with_reducible rfl) | (go_simp; done) | rfl)
  simp only [List.getElem_toArray, List.getElem_cons_succ, List.getElem_cons_zero, Act.put, List.setIfInBounds_toArray, List.set_cons_zero, List.set_cons_succ]
  -- 16: Op.fieldAddr 52 (Operand.tmp 3) 5
  refine' anyZ_pure (i := 16) (v := _) rfl (by rfl) (by kernel_rfl) (by kernel_rfl) (by kernel_rfl) hcl16 (fun _ _ _ h => h) (Or.inl ⟨by rfl, fun w _ => ?h17⟩) (fun _ => hHeld) (fun hcl17 => ?r17)
  case h17 => (simp only [List.getElem_toArray, List.getElem_cons_succ, List.getElem_cons_zero]; first | (go_simp; with_reducible rfl) | (go_simp; done) | rfl)
  simp only [List.getElem_toArray, List.getElem_cons_succ, List.getElem_cons_zero, Act.put, List.setIfInBounds_toArray, List.set_cons_zero, List.set_cons_succ]
  -- 17: Op.load 3 (Operand.tmp 188)
  refine' anyZ_take (i := 17) (v := _) rfl (by rfl) (by kernel_rfl) (by kernel_rfl) (by kernel_rfl) hcl17 2 (by kernel_rfl) (by kernel_rfl) (fun _ _ _ h => h) (Or.inl ⟨by rfl, fun w hSw => ?h18⟩) hHeld (fun hcl18 => ?r18)
  case h18 => (simp only [List.getElem_toArray, List.getElem_cons_succ, List.getElem_cons_zero]; obtain ⟨hS1, hS2, hS3, hS4, hS5, hS6⟩ := hSw; first | (go_simp; with_reducible rfl) | (go_simp; done) | rfl)
  simp only [List.getElem_toArray, List.getElem_cons_succ, List.getElem_cons_zero, Act.put, List.setIfInBounds_toArray, List.set_cons_zero, List.set_cons_succ]
  -- 18: Op.fieldAddr 52 (Operand.tmp 3) 6
  refine' anyZ_pure (i := 18) (v := _) rfl (by rfl) (by kernel_rfl) (by kernel_rfl) (by kernel_rfl) hcl18 (fun _ _ _ h => h) (Or.inl ⟨by rfl, fun w _ => ?h19⟩) (fun _ => hHeld) (fun hcl19 => ?r19)
  case h19 => (simp only [List.getElem_toArray, List.getElem_cons_succ, List.getElem_cons_zero]; first | (go_simp; with_reducible rfl) | (go_simp; done) | rfl)
  simp only [List.getElem_toArray, List.getElem_cons_succ, List.getElem_cons_zero, Act.put, List.setIfInBounds_toArray, List.set_cons_zero, List.set_cons_succ]
  -- 19: Op.load 46 (Operand.tmp 190)
  refine' anyZ_take (i := 19) (v := _) rfl (by rfl) (by kernel_rfl) (by kernel_rfl) (by kernel_rfl) hcl19 2 (by kernel_rfl) (by kernel_rfl) (fun _ _ _ h => h) (Or.inl ⟨by rfl, fun w hSw => ?h20⟩) hHeld (fun hcl20 => ?r20)
  case h20 => (simp only [List.getElem_toArray, List.getElem_cons_succ, List.getElem_cons_zero]; obtain ⟨hS1, hS2, hS3, hS4, hS5, hS6⟩ := hSw; first | (go_simp; with_reducible rfl) | (go_simp; done) | rfl)
  simp only [List.getElem_toArray, List.getElem_cons_succ, List.getElem_cons_zero, Act.put, List.setIfInBounds_toArray, List.set_cons_zero, List.set_cons_succ]
  -- 20: Op.call { callee := Callee.value (Operand.func 37), args := 
  refine anyZ_one (i := 20) hcl20 (by kernel_rfl) (by simp only [List.getElem?_toArray, List.getElem?_cons_succ, List.getElem?_cons_zero]; rfl) (by rfl) (fun hcl21 K hK => ?_)
  go_simp
  refine (turned_any _ l gb gn a.mask _ (HOS.out.bytes.below (bdr (bre X))) HLL.out hnn1 hnb1).mono ?_
  rintro e w2 ⟨v2, rfl, ho2, hb2⟩
  have hb2' : Below X.heap.size X w2 := (bdr (bre X)).trans hb2
  have ho2' := ownsRow_base (base' := 0) ho2 (Nat.zero_le _)
  have hv2F : ∀ k, v2.ownBlock = some k → Fw F w w2 k := fun k hk => .inr ⟨Nat.le_trans HBX.out.size (World.ownsRow.lt ho2 k hk).1, (World.ownsRow.lt ho2 k hk).2⟩
  obtain ⟨a2, c2, rfl⟩ := RowsAt.isSlice ho2'
  refine hK _ _ (fun _ => ?_) ?_
  · exact ⟨(hb2'.cell (p := ⟨r, 0, none⟩) (Array.getElem?_eq_some_iff.1 HRX.out).1).trans d0, (hb2'.cell (p := ⟨gs, gi, none⟩) HGSL.out).trans hcs', (hb2'.cell (p := ⟨n0, 1, none⟩) (Array.getElem?_eq_some_iff.1 HNX2.out).1).trans f1, (hb2'.cell (p := ⟨n0, 4, none⟩) (Array.getElem?_eq_some_iff.1 HNX2.out).1).trans f4, (hb2'.cell (p := ⟨n0, 5, none⟩) (Array.getElem?_eq_some_iff.1 HNX2.out).1).trans f5, (hb2'.cell (p := ⟨n0, 6, none⟩) (Array.getElem?_eq_some_iff.1 HNX2.out).1).trans f6⟩
  clear hK K hHeld
  try simp only [Act.put, List.setIfInBounds_toArray, List.set_cons_zero, List.set_cons_succ]
  refine anyZ_chain_at (by kernel_rfl) ?_
  simp only [List.drop_succ_cons, List.drop_zero]
  have hS2 := HSX.out.below hb2'
  have hW2 := HWX.out.below hb2'
  have hA2 : OwnInts 0 w2 (.slice aa d.wait.length ca) (d.wait.map (·.1)) := own_only HAX.out (Only.of_below hb2' fun _ => False) fun _ _ => id
  have hr2 := (hb2'.block r (Array.getElem?_eq_some_iff.1 HRX.out).1).trans HRX.out
  have hn2 := (hb2'.block n0 (Array.getElem?_eq_some_iff.1 HNX2.out).1).trans HNX2.out
  have g22 := own_only HG20.out (Only.of_below hb2' fun _ => False) fun _ _ => id
  obtain ⟨gs', cs9, us9, e2, _, hcs9, hfs9, _, _⟩ := hS2.at gi l HL.out
  cases e2
  have HO2 := Lib.hid ho2'
  have HV2 := Lib.hid hv2F
  have HS2 := Lib.hid hS2
  have HW2 := Lib.hid hW2
  have HA2 := Lib.hid hA2
  have HR2 := Lib.hid hr2
  have HN2 := Lib.hid hn2
  have HG2 := Lib.hid g22
  have HB2 := Lib.hid hb2'
  clear d0 d1 d2 d3 f0 f1 f2 f3 f4 f5 f6 f7 ff fr hfs hcs' ho2 ho2' hv2F hS2 hW2 hA2 hr2 hn2 g22 hb2 hb2'
  go_upto_region 33 with fail
  have ho3 : Only w2 (w2.setCell ⟨gs, gi, none⟩ (.slice a2 (turnOf l gb a.mask gn).length c2)) (fun k => k = gs) := Only.setCell _ _ _
  have hr3 := (ho3.block r (Array.getElem?_eq_some_iff.1 HR2.out).1 hrg).trans HR2.out
  have hn3 := (ho3.block n0 (Array.getElem?_eq_some_iff.1 HN2.out).1 hng).trans HN2.out
  have hs3 := ((HS2.out.mono fun k hk => (.inl hk : Fw F w w2 k)).set gi (.slice a2 (turnOf l gb a.mask gn).length c2) (turnOf l gb a.mask gn) HO2.out HV2.out).fw ho3.size
  have ha3 : OwnInts 0 _ (.slice aa d.wait.length ca) (d.wait.map (·.1)) := own8_any HA2.out ho3 HG2.out rfl (by decide)
  have hw3 := ((HW2.out.other ho3 HG2.out rfl HNW.out).mono fun k hk => (.inl hk : Fw F w w2 k)).fw ho3.size
  have hon3 : Only w _ F := ((Only.of_below HBX.out F).trans (Only.of_below HB2.out F) fun _ _ h => h).trans (ho3.mono fun j _ e => by rw [show j = gs from e]; exact hFs) fun _ _ h => h
  generalize w2.setCell ⟨gs, gi, none⟩ (.slice a2 (turnOf l gb a.mask gn).length c2) = w3 at *
  obtain ⟨d0, d1, d2, d3, fr⟩ := rrow4 hr3
  have HR3 := Lib.hid hr3
  have HN3 := Lib.hid hn3
  have HS3 := Lib.hid hs3
  have HA3 := Lib.hid ha3
  have HW3 := Lib.hid hw3
  have HON3 := Lib.hid hon3
  clear hr3 hn3 hs3 ha3 hw3 hon3 ho3 HO2 HV2 HS2 HW2 HA2 HR2 HN2 HG2 HB2 hcs9 hfs9
  go_wp2_with fail
  clear d0 d1 d2 d3 fr
  go_loopw [9, 10, 199] (fun _ _ j wr => ∃ (k : Nat) (ww : List (Nat × List UInt8)), j = .int .i64 k ∧ k ≤ d.wait.length ∧ Hid (ww = (d.wait.take k).map (rotW gi gb a.mask gn) ++ d.wait.drop k) ∧ Hid (wr.heap[r]? = some (.cells #[.slice (some ⟨gs, 0, none⟩) d.safe.length cs, .slice aa d.wait.length ca, .slice aw d.wait.length cw, .int .i64 d.refLeft] 76 (0, 0))) ∧
      Hid (wr.heap[n0]? = some (.cells #[.int .u8 a.do_, .int .i64 gi, .slice ap a.p.length cp, .bool a.odd, .int .i64 gb, .int .i64 gn, .int .u32 a.mask, .slice ak a.keep.length ck] 52 (0, 0))) ∧
      Hid (RowsAt wr (.slice (some ⟨gs, 0, none⟩) d.safe.length cs) (d.safe.set gi (turnOf l gb a.mask gn)) (Fw F w wr)) ∧ Hid (OwnInts 0 wr (.slice aa d.wait.length ca) (d.wait.map (·.1))) ∧ Hid (RowsAt wr (.slice aw d.wait.length cw) (ww.map (·.2)) (Fw F w wr)) ∧ Hid (Only w wr F)) (fun _ _ j _ => d.wait.length - (intOf j).toNat)
  case atStart => exact ⟨0, d.wait, rfl, by omega, Lib.hid (by simp), HR3, HN3, HS3, HA3, HW3, HON3⟩
  case round =>
    obtain ⟨k, ww, rfl, hk, HWL, HR, HN, HSS, HAA, HWWW, HON⟩ := hrel
    by_cases hlt : k < d.wait.length
    · obtain ⟨x, hx⟩ : ∃ x, d.wait[k]? = some x := ⟨_, List.getElem?_eq_getElem hlt⟩
      have hxo := HOK.out.wait x (List.mem_of_getElem? hx)
      obtain ⟨hwk, hwset⟩ := rot_step (rotW gi gb a.mask gn) d.wait k x hx
      rw [← HWL.out] at hwk hwset
      have hwwl : (ww.map (·.2)).length = d.wait.length := by rw [List.length_map, HWL.out, List.length_append, List.length_map, List.length_take, List.length_drop]; omega
      obtain ⟨ga, ca', e3, hca', hfa⟩ := HAA.out.at k x.1 (by rw [List.getElem?_map, hx]; rfl)
      rw [List.length_map] at e3
      cases e3
      obtain ⟨gw, cw', uw, e5, hFgw, hcw, hfw, how, hFw⟩ := HWWW.out.at k x.2 (by rw [List.getElem?_map, hwk]; rfl)
      rw [hwwl] at e5
      cases e5
      obtain ⟨au', cu', rfl⟩ := RowsAt.isSlice how
      obtain ⟨d0, d1, d2, _, fr⟩ := rrow4 HR.out
      obtain ⟨_, f1, _, _, f4, f5, f6, _, ff⟩ := arow8 HN.out
      have HXO := Lib.hid hxo
      have HX' := Lib.hid hx
      have HOW := Lib.hid how
      have HFW := Lib.hid hFw
      have HWK := Lib.hid hwk
      have HWS := Lib.hid hwset
      clear hxo hx how hFw hwk hwset hwwl
      by_cases hxi : x.1 = gi
      · have hxI : decide ((x.1 : Int) = gi) = true := decide_eq_true (by omega)
        have hxB : ((x.1 : Int) == gi) = true := by rw [hxi]; simp
        have HXI := Lib.hid hxi
        clear hxi
        go_upto_region 37 with fail
        refine region_anyZ (z := 19) (S := fun w' => w'.cell? ⟨r, 2, none⟩ = some (.slice (some ⟨gw, 0, none⟩) d.wait.length cw) ∧ w'.cell? ⟨gw, k, none⟩ = some (.slice au' x.2.length cu') ∧ w'.cell? ⟨n0, 4, none⟩ = some (.int .i64 gb) ∧ w'.cell? ⟨n0, 5, none⟩ = some (.int .i64 gn) ∧ w'.cell? ⟨n0, 6, none⟩ = some (.int .u32 a.mask)) (by kernel_rfl) ?_
        refine anyZ_begin (fun hcl0 => ?_)
        refine anyZ_held (by exact ⟨d2, hcw, f4, f5, f6⟩) (fun hHeld => ?_)
        -- 0: Op.move (Operand.tmp 0)
        refine' anyZ_pure (i := 0) (v := _) rfl (by rfl) (by kernel_rfl) (by kernel_rfl) (by kernel_rfl) hcl0 (fun _ _ _ h => h) (Or.inl ⟨by rfl, fun w _ => ?hb1⟩) (fun _ => hHeld) (fun hcl1 => ?rb1)
        case hb1 => (simp only [List.getElem_toArray, List.getElem_cons_zero]; first | (go_simp; with_reducible rfl) | (go_simp; done) | rfl)
        simp only [List.getElem_toArray, List.getElem_cons_zero, Act.put, List.setIfInBounds_toArray, List.set_cons_zero, List.set_cons_succ]
        -- 1: Op.nilCheck (Operand.tmp 208)
        refine' anyZ_pure (i := 1) (v := _) rfl (by rfl) (by kernel_rfl) (by kernel_rfl) (by kernel_rfl) hcl1 (fun _ _ _ h => h) (Or.inl ⟨by rfl, fun w _ => ?hb2⟩) (fun _ => hHeld) (fun hcl2 => ?rb2)
        case hb2 => (simp only [List.getElem_toArray, List.getElem_cons_succ, List.getElem_cons_zero]; first | (go_simp; with_reducible rfl) | (go_simp; done) | rfl)
        simp only [List.getElem_toArray, List.getElem_cons_succ, List.getElem_cons_zero, Act.put, List.setIfInBounds_toArray, List.set_cons_zero, List.set_cons_succ]
        -- 2: Op.fieldAddr 76 (Operand.tmp 209) 2
        refine' anyZ_pure (i := 2) (v := _) rfl (by rfl) (by kernel_rfl) (by kernel_rfl) (by kernel_rfl) hcl2 (fun _ _ _ h => h) (Or.inl ⟨by rfl, fun w _ => ?hb3⟩) (fun _ => hHeld) (fun hcl3 => ?rb3)
        case hb3 => (simp only [List.getElem_toArray, List.getElem_cons_succ, List.getElem_cons_zero]; first | (go_simp; with_reducible rfl) | (go_simp; done) | rfl)
        simp only [List.getElem_toArray, List.getElem_cons_succ, List.getElem_cons_zero, Act.put, List.setIfInBounds_toArray, List.set_cons_zero, List.set_cons_succ]
        -- 3: Op.load 41 (Operand.tmp 210)
        refine' anyZ_take (i := 3) (v := _) rfl (by rfl) (by kernel_rfl) (by kernel_rfl) (by kernel_rfl) hcl3 2 (by kernel_rfl) (by kernel_rfl) (fun _ _ _ h => h) (Or.inl ⟨by rfl, fun w hSw => ?hb4⟩) hHeld (fun hcl4 => ?rb4)
        case hb4 => (simp only [List.getElem_toArray, List.getElem_cons_succ, List.getElem_cons_zero]; obtain ⟨hS1, hS2, hS3, hS4, hS5⟩ := hSw; first | (go_simp; with_reducible rfl) | (go_simp; done) | rfl)
        simp only [List.getElem_toArray, List.getElem_cons_succ, List.getElem_cons_zero, Act.put, List.setIfInBounds_toArray, List.set_cons_zero, List.set_cons_succ]
        -- 4: Op.move (Operand.tmp 9)
        refine' anyZ_pure (i := 4) (v := _) rfl (by rfl) (by kernel_rfl) (by kernel_rfl) (by kernel_rfl) hcl4 (fun _ _ _ h => h) (Or.inl ⟨by rfl, fun w _ => ?hb5⟩) (fun _ => hHeld) (fun hcl5 => ?rb5)
        case hb5 => (simp only [List.getElem_toArray, List.getElem_cons_succ, List.getElem_cons_zero]; first | (go_simp; with_reducible rfl) | (go_simp; done) | rfl)
        simp only [List.getElem_toArray, List.getElem_cons_succ, List.getElem_cons_zero, Act.put, List.setIfInBounds_toArray, List.set_cons_zero, List.set_cons_succ]
        -- 5: Op.move (Operand.tmp 0)
        refine' anyZ_pure (i := 5) (v := _) rfl (by rfl) (by kernel_rfl) (by kernel_rfl) (by kernel_rfl) hcl5 (fun _ _ _ h => h) (Or.inl ⟨by rfl, fun w _ => ?hb6⟩) (fun _ => hHeld) (fun hcl6 => ?rb6)
        case hb6 => (simp only [List.getElem_toArray, List.getElem_cons_succ, List.getElem_cons_zero]; first | (go_simp; with_reducible rfl) | (go_simp; done) | rfl)
        simp only [List.getElem_toArray, List.getElem_cons_succ, List.getElem_cons_zero, Act.put, List.setIfInBounds_toArray, List.set_cons_zero, List.set_cons_succ]
        -- 6: Op.nilCheck (Operand.tmp 213)
        refine' anyZ_pure (i := 6) (v := _) rfl (by rfl) (by kernel_rfl) (by kernel_rfl) (by kernel_rfl) hcl6 (fun _ _ _ h => h) (Or.inl ⟨by rfl, fun w _ => ?hb7⟩) (fun _ => hHeld) (fun hcl7 => ?rb7)
        case hb7 => (simp only [List.getElem_toArray, List.getElem_cons_succ, List.getElem_cons_zero]; first | (go_simp; with_reducible rfl) | (go_simp; done) | rfl)
        simp only [List.getElem_toArray, List.getElem_cons_succ, List.getElem_cons_zero, Act.put, List.setIfInBounds_toArray, List.set_cons_zero, List.set_cons_succ]
        -- 7: Op.fieldAddr 76 (Operand.tmp 214) 2
        refine' anyZ_pure (i := 7) (v := _) rfl (by rfl) (by kernel_rfl) (by kernel_rfl) (by kernel_rfl) hcl7 (fun _ _ _ h => h) (Or.inl ⟨by rfl, fun w _ => ?hb8⟩) (fun _ => hHeld) (fun hcl8 => ?rb8)
        case hb8 => (simp only [List.getElem_toArray, List.getElem_cons_succ, List.getElem_cons_zero]; first | (go_simp; with_reducible rfl) | (go_simp; done) | rfl)
        simp only [List.getElem_toArray, List.getElem_cons_succ, List.getElem_cons_zero, Act.put, List.setIfInBounds_toArray, List.set_cons_zero, List.set_cons_succ]
        -- 8: Op.load 41 (Operand.tmp 215)
        refine' anyZ_take (i := 8) (v := _) rfl (by rfl) (by kernel_rfl) (by kernel_rfl) (by kernel_rfl) hcl8 2 (by kernel_rfl) (by kernel_rfl) (fun _ _ _ h => h) (Or.inl ⟨by rfl, fun w hSw => ?hb9⟩) hHeld (fun hcl9 => ?rb9)
        case hb9 => (simp only [List.getElem_toArray, List.getElem_cons_succ, List.getElem_cons_zero]; obtain ⟨hS1, hS2, hS3, hS4, hS5⟩ := hSw; first | (go_simp; with_reducible rfl) | (go_simp; done) | rfl)
        simp only [List.getElem_toArray, List.getElem_cons_succ, List.getElem_cons_zero, Act.put, List.setIfInBounds_toArray, List.set_cons_zero, List.set_cons_succ]
        -- 9: Op.move (Operand.tmp 9)
        refine' anyZ_pure (i := 9) (v := _) rfl (by rfl) (by kernel_rfl) (by kernel_rfl) (by kernel_rfl) hcl9 (fun _ _ _ h => h) (Or.inl ⟨by rfl, fun w _ => ?hb10⟩) (fun _ => hHeld) (fun hcl10 => ?rb10)
        case hb10 => (simp only [List.getElem_toArray, List.getElem_cons_succ, List.getElem_cons_zero]; first | (go_simp; with_reducible rfl) | (go_simp; done) | rfl)
        simp only [List.getElem_toArray, List.getElem_cons_succ, List.getElem_cons_zero, Act.put, List.setIfInBounds_toArray, List.set_cons_zero, List.set_cons_succ]
        -- 10: Op.indexAddr 41 (Operand.tmp 216) (Operand.tmp 217)
        refine' anyZ_pure (i := 10) (v := _) rfl (by rfl) (by kernel_rfl) (by kernel_rfl) (by kernel_rfl) hcl10 (fun _ _ _ h => h) (Or.inl ⟨by rfl, fun w _ => ?hb11⟩) (fun _ => hHeld) (fun hcl11 => ?rb11)
        case hb11 => (simp only [List.getElem_toArray, List.getElem_cons_succ, List.getElem_cons_zero]; first | (go_simp; with_reducible rfl) | (go_simp; done) | rfl)
        simp only [List.getElem_toArray, List.getElem_cons_succ, List.getElem_cons_zero, Act.put, List.setIfInBounds_toArray, List.set_cons_zero, List.set_cons_succ]
        -- 11: Op.load 22 (Operand.tmp 218)
        refine' anyZ_take (i := 11) (v := _) rfl (by rfl) (by kernel_rfl) (by kernel_rfl) (by kernel_rfl) hcl11 2 (by kernel_rfl) (by kernel_rfl) (fun _ _ _ h => h) (Or.inl ⟨by rfl, fun w hSw => ?hb12⟩) hHeld (fun hcl12 => ?rb12)
        case hb12 => (simp only [List.getElem_toArray, List.getElem_cons_succ, List.getElem_cons_zero]; obtain ⟨hS1, hS2, hS3, hS4, hS5⟩ := hSw; first | (go_simp; with_reducible rfl) | (go_simp; done) | rfl)
        simp only [List.getElem_toArray, List.getElem_cons_succ, List.getElem_cons_zero, Act.put, List.setIfInBounds_toArray, List.set_cons_zero, List.set_cons_succ]
        -- 12: Op.fieldAddr 52 (Operand.tmp 3) 4
        refine' anyZ_pure (i := 12) (v := _) rfl (by rfl) (by kernel_rfl) (by kernel_rfl) (by kernel_rfl) hcl12 (fun _ _ _ h => h) (Or.inl ⟨by rfl, fun w _ => ?hb13⟩) (fun _ => hHeld) (fun hcl13 => ?rb13)
        case hb13 => (simp only [List.getElem_toArray, List.getElem_cons_succ, List.getElem_cons_zero]; first | (go_simp; with_reducible rfl) | (go_simp; done) | rfl)
        simp only [List.getElem_toArray, List.getElem_cons_succ, List.getElem_cons_zero, Act.put, List.setIfInBounds_toArray, List.set_cons_zero, List.set_cons_succ]
        -- 13: Op.load 3 (Operand.tmp 220)
        refine' anyZ_take (i := 13) (v := _) rfl (by rfl) (by kernel_rfl) (by kernel_rfl) (by kernel_rfl) hcl13 2 (by kernel_rfl) (by kernel_rfl) (fun _ _ _ h => h) (Or.inl ⟨by rfl, fun w hSw => ?hb14⟩) hHeld (fun hcl14 => ?rb14)
        case hb14 => (simp only [List.getElem_toArray, List.getElem_cons_succ, List.getElem_cons_zero]; obtain ⟨hS1, hS2, hS3, hS4, hS5⟩ := hSw; first | (go_simp; with_reducible rfl) | (go_simp; done) | rfl)
        simp only [List.getElem_toArray, List.getElem_cons_succ, List.getElem_cons_zero, Act.put, List.setIfInBounds_toArray, List.set_cons_zero, List.set_cons_succ]
        -- 14: Op.fieldAddr 52 (Operand.tmp 3) 5
        refine' anyZ_pure (i := 14) (v := _) rfl (by rfl) (by kernel_rfl) (by kernel_rfl) (by kernel_rfl) hcl14 (fun _ _ _ h => h) (Or.inl ⟨by rfl, fun w _ => ?hb15⟩) (fun _ => hHeld) (fun hcl15 => ?rb15)
        case hb15 => (simp only [List.getElem_toArray, List.getElem_cons_succ, List.getElem_cons_zero]; first | (go_simp; with_reducible rfl) | (go_simp; done) | rfl)
        simp only [List.getElem_toArray, List.getElem_cons_succ, List.getElem_cons_zero, Act.put, List.setIfInBounds_toArray, List.set_cons_zero, List.set_cons_succ]
        -- 15: Op.load 3 (Operand.tmp 222)
        refine' anyZ_take (i := 15) (v := _) rfl (by rfl) (by kernel_rfl) (by kernel_rfl) (by kernel_rfl) hcl15 2 (by kernel_rfl) (by kernel_rfl) (fun _ _ _ h => h) (Or.inl ⟨by rfl, fun w hSw => ?hb16⟩) hHeld (fun hcl16 => ?rb16)
        case hb16 => (simp only [List.getElem_toArray, List.getElem_cons_succ, List.getElem_cons_zero]; obtain ⟨hS1, hS2, hS3, hS4, hS5⟩ := hSw; first | (go_simp; with_reducible rfl) | (go_simp; done) | rfl)
        simp only [List.getElem_toArray, List.getElem_cons_succ, List.getElem_cons_zero, Act.put, List.setIfInBounds_toArray, List.set_cons_zero, List.set_cons_succ]
        -- 16: Op.fieldAddr 52 (Operand.tmp 3) 6
        refine' anyZ_pure (i := 16) (v := _) rfl (by rfl) (by kernel_rfl) (by kernel_rfl) (by kernel_rfl) hcl16 (fun _ _ _ h => h) (Or.inl ⟨by rfl, fun w _ => ?hb17⟩) (fun _ => hHeld) (fun hcl17 => ?rb17)
        case hb17 => (simp only [List.getElem_toArray, List.getElem_cons_succ, List.getElem_cons_zero]; first | (go_simp; with_reducible rfl) | (go_simp; done) | rfl)
        simp only [List.getElem_toArray, List.getElem_cons_succ, List.getElem_cons_zero, Act.put, List.setIfInBounds_toArray, List.set_cons_zero, List.set_cons_succ]
        -- 17: Op.load 46 (Operand.tmp 224)
        refine' anyZ_take (i := 17) (v := _) rfl (by rfl) (by kernel_rfl) (by kernel_rfl) (by kernel_rfl) hcl17 2 (by kernel_rfl) (by kernel_rfl) (fun _ _ _ h => h) (Or.inl ⟨by rfl, fun w hSw => ?hb18⟩) hHeld (fun hcl18 => ?rb18)
        case hb18 => (simp only [List.getElem_toArray, List.getElem_cons_succ, List.getElem_cons_zero]; obtain ⟨hS1, hS2, hS3, hS4, hS5⟩ := hSw; first | (go_simp; with_reducible rfl) | (go_simp; done) | rfl)
        simp only [List.getElem_toArray, List.getElem_cons_succ, List.getElem_cons_zero, Act.put, List.setIfInBounds_toArray, List.set_cons_zero, List.set_cons_succ]
        -- 18: Op.call { callee := Callee.value (Operand.func 37), args := 
        refine anyZ_one (i := 18) hcl18 (by kernel_rfl) (by simp only [List.getElem?_toArray, List.getElem?_cons_succ, List.getElem?_cons_zero]; rfl) (by rfl) (fun hcl19 K hK => ?_)
        go_simp
        refine (turned_any _ x.2 gb gn a.mask _ (HOW.out.bytes.below (bdr (bre wr))) HXO.out.1 hnn1 hnb1).mono ?_
        rintro e w4 ⟨v4, rfl, ho4, hb4⟩
        have hb4' : Below wr.heap.size wr w4 := (bdr (bre wr)).trans hb4
        have ho4' := ownsRow_base (base' := 0) ho4 (Nat.zero_le _)
        have hv4F : ∀ k, v4.ownBlock = some k → Fw F w w4 k := fun k hk => .inr ⟨Nat.le_trans HON.out.size (World.ownsRow.lt ho4 k hk).1, (World.ownsRow.lt ho4 k hk).2⟩
        obtain ⟨a4, c4, rfl⟩ := RowsAt.isSlice ho4'
        refine hK _ _ (fun _ => ?_) ?_
        · exact ⟨(hb4'.cell (p := ⟨r, 2, none⟩) (Array.getElem?_eq_some_iff.1 HR.out).1).trans d2, (hb4'.cell (p := ⟨gw, k, none⟩) (block_lt_of_cell hcw)).trans hcw, (hb4'.cell (p := ⟨n0, 4, none⟩) (Array.getElem?_eq_some_iff.1 HN.out).1).trans f4, (hb4'.cell (p := ⟨n0, 5, none⟩) (Array.getElem?_eq_some_iff.1 HN.out).1).trans f5, (hb4'.cell (p := ⟨n0, 6, none⟩) (Array.getElem?_eq_some_iff.1 HN.out).1).trans f6⟩
        clear hK K hHeld
        try simp only [Act.put, List.setIfInBounds_toArray, List.set_cons_zero, List.set_cons_succ]
        refine anyZ_chain_at (by kernel_rfl) ?_
        simp only [List.drop_succ_cons, List.drop_zero]
        obtain ⟨us9, gl9, g29, _, _⟩ := id HWWW.out
        have hrgw : r ≠ gw := fun e => own_ne g29 HR.out (by decide) (by rw [e]; rfl)
        have hngw : n0 ≠ gw := fun e => own_ne g29 HN.out (by decide) (by rw [e]; rfl)
        have g49 := own_only g29 (Only.of_below hb4' fun _ => False) fun _ _ => id
        have hS4 := HSS.out.below hb4'
        have hW4 := HWWW.out.below hb4'
        have hA4 : OwnInts 0 w4 (.slice (some ⟨ga, 0, none⟩) d.wait.length ca) (d.wait.map (·.1)) := own_only HAA.out (Only.of_below hb4' fun _ => False) fun _ _ => id
        have hr4 := (hb4'.block r (Array.getElem?_eq_some_iff.1 HR.out).1).trans HR.out
        have hn4 := (hb4'.block n0 (Array.getElem?_eq_some_iff.1 HN.out).1).trans HN.out
        obtain ⟨gw', cw9, uw9, e5, _, hcw9, hfw9, _, _⟩ := hW4.at k x.2 (by rw [List.getElem?_map, HWK.out]; rfl)
        rw [Value.slice.injEq] at e5
        obtain ⟨e51, e52, e53⟩ := e5
        clear e52
        cases e51
        subst e53
        have HO4 := Lib.hid ho4'
        have HV4 := Lib.hid hv4F
        have HS4 := Lib.hid hS4
        have HW4 := Lib.hid hW4
        have HA4 := Lib.hid hA4
        have HR4 := Lib.hid hr4
        have HN4 := Lib.hid hn4
        have HG4 := Lib.hid g49
        have HB4 := Lib.hid hb4'
        clear d0 d1 d2 f1 f4 f5 f6 ff fr hfw hcw ho4 ho4' hv4F hS4 hW4 hA4 hr4 hn4 g29 g49 hb4 hb4' hca' hfa
        go_wp2_with fail
        have ho5 : Only w4 (w4.setCell ⟨gw, k, none⟩ (.slice a4 (turnOf x.2 gb a.mask gn).length c4)) (fun k => k = gw) := Only.setCell _ _ _
        have hr5 := (ho5.block r (Array.getElem?_eq_some_iff.1 HR4.out).1 hrgw).trans HR4.out
        have hn5 := (ho5.block n0 (Array.getElem?_eq_some_iff.1 HN4.out).1 hngw).trans HN4.out
        have hw5 := ((HW4.out.mono fun k hk => (Fw.mono HB4.out.size hk : Fw F w w4 k)).set k (.slice a4 (turnOf x.2 gb a.mask gn).length c4) (turnOf x.2 gb a.mask gn) HO4.out HV4.out).fw ho5.size
        have hs5 := ((HS4.out.other ho5 HG4.out rfl (fun e => HNW.out e.symm)).mono fun k hk => (Fw.mono HB4.out.size hk : Fw F w w4 k)).fw ho5.size
        have ha5 : OwnInts 0 _ (.slice (some ⟨ga, 0, none⟩) d.wait.length ca) (d.wait.map (·.1)) := own8_any HA4.out ho5 HG4.out rfl (by decide)
        have hset : (ww.map (·.2)).set k (turnOf x.2 gb a.mask gn) = ((d.wait.take (k + 1)).map (rotW gi gb a.mask gn) ++ d.wait.drop (k + 1)).map (·.2) := by
          rw [HWS.out, rotW_at _ _ _ _ _ HXI.out, List.map_set]
        rw [hset] at hw5
        have hFg : F gw := HFAW.out gw rfl
        have hon5 : Only w _ F := (HON.out.trans (Only.of_below HB4.out F) fun _ _ h => h).trans (ho5.mono fun j _ e => by rw [show j = gw from e]; exact hFg) fun _ _ h => h
        go_roundw
        case rel => first | exact ⟨k + 1, _, by go_num, by omega, Lib.hid rfl, Lib.hid hr5, Lib.hid hn5, Lib.hid hs5, Lib.hid ha5, Lib.hid hw5, Lib.hid hon5⟩ | ((repeat apply Exists.intro); exact ⟨⟨k + 1, _, by go_num, by omega, Lib.hid rfl, Lib.hid hr5, Lib.hid hn5, Lib.hid hs5, Lib.hid ha5, Lib.hid hw5, Lib.hid hon5⟩, rfl⟩)
        case measure => first | (simp [intOf]; done) | (simp [intOf]; omega)
      · have hxI : decide ((x.1 : Int) = gi) = false := decide_eq_false (by omega)
        have hxB : ((x.1 : Int) == gi) = false := by simp; omega
        go_wp2_with fail
        have hws := HWS.out
        rw [rotW_off _ _ _ _ _ hxi, list_set_self _ _ _ HWK.out] at hws
        go_roundw
        case rel => first | exact ⟨k + 1, ww, by go_num, by omega, Lib.hid hws.symm, HR, HN, HSS, HAA, HWWW, HON⟩ | ((repeat apply Exists.intro); exact ⟨⟨k + 1, ww, by go_num, by omega, Lib.hid hws.symm, HR, HN, HSS, HAA, HWWW, HON⟩, rfl⟩)
        case measure => first | (simp [intOf]; done) | (simp [intOf]; omega)
    · have e : k = d.wait.length := by omega
      subst e
      have hwl := HWL.out
      rw [List.take_length, List.drop_length, List.append_nil] at hwl
      have HWL9 := Lib.hid hwl
      clear hwl
      go_wp2_with fail
      go_ret2
      have hlr : ∀ k, Fw F w wr k → k < wr.heap.size := fun k hk => hk.elim (fun h => Nat.lt_of_lt_of_le (H8.out k h) HON.out.size) (·.2)
      have hgl : d.safe.getD gi [] = l := by rw [List.getD_eq_getElem?_getD, HL.out]; rfl
      refine ⟨Fw F w wr, rfl, ⟨⟨fun s hs => ?_, fun x hx => ?_, ?_⟩, .slice (some ⟨gs, 0, none⟩) d.safe.length cs, .slice aa d.wait.length ca, .slice aw d.wait.length cw, HR.out, ?_, ?_, fun k hk => .inl (H4.out k hk), ?_, .inl h6, H7.out, hlr⟩, HON.out, fun k hk => hk.imp id (·.1)⟩
      · have hs' : s ∈ d.safe.set gi (turnOf (d.safe.getD gi []) gb a.mask gn) := hs
        rw [hgl] at hs'
        rcases List.mem_or_eq_of_mem_set hs' with h | h
        · exact HOK.out.safe s h
        · rw [h, turnOf_length]; exact HLL.out
      · obtain ⟨y, hy, rfl⟩ := List.mem_map.1 (show x ∈ d.wait.map (rotW gi gb a.mask gn) from hx)
        obtain ⟨e1, e2⟩ := rotW_len gi gb a.mask gn y
        have := HOK.out.wait y hy
        refine ⟨by rw [e2]; exact this.1, ?_⟩
        rw [e1]
        show y.1 < (d.safe.set gi _).length
        rw [List.length_set]; exact this.2
      · show (d.safe.set gi _).length ≤ 4096
        rw [List.length_set]; exact HOK.out.few
      · have := HSS.out
        unfold Dk.rotted
        rw [hgl]
        exact this
      · have := HAA.out
        have he : (d.rotted gi gb a.mask gn).wait.map (·.1) = d.wait.map (·.1) := by
          unfold Dk.rotted
          rw [List.map_map]
          exact List.map_congr_left fun x _ => (rotW_len gi gb a.mask gn x).1
        rw [he]
        exact this
      · have := HWWW.out
        rw [HWL9.out] at this
        exact this

end Go.Proofs.Ytkonjjanoifinaa
