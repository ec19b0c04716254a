/- Walk: the document's disk: a crash. -/
import Derived.Test.YtkonjjanoifinaaRkFw
import Derived.BigQuiet
namespace Go.Proofs.Ytkonjjanoifinaa
open Go.RowKit
set_option maxRecDepth 10000 in
set_option maxHeartbeats 12800000 in
theorem refdo_crash (r : Nat) (d : Dk) (F : Nat → Prop) (v : Value) (a : Actn) (w : World) (h : RefAt w r d F) (ha : ActAt w v a) (hao : a.Ok) (hd : a.do_ % 7 = 5) (hlen : d.wait.length ≤ 1000000) :
    Calls Try.prog 23 #[.pointer (some ⟨r, 0, none⟩), v] w fun e w' => ∃ r' F', e = .returned (.tuple #[.pointer (some ⟨r', 0, none⟩), .int .i64 0]) ∧ RefAt w' r' (d.crashed a.keep) F' ∧ Moved w w' F F' := by
  obtain ⟨h0, vs, va, vw, h1, h2, h3, h4, h5, h6, h7, h8⟩ := h
  obtain ⟨vp, vk, rfl, hvp, hvk⟩ := ha
  obtain ⟨o1, o2, o3, o4, o5, o6, o7, o8⟩ := hao
  obtain ⟨ap, cp, rfl, -⟩ := id hvp
  obtain ⟨ak, ck, rfl, -⟩ := id hvk
  obtain ⟨as0, cs, rfl, hms, hcs⟩ := h2.lies
  obtain ⟨aa, ca, rfl, hma, hca⟩ := h3.lies
  obtain ⟨aw, cw, rfl, hmw, hcw⟩ := h5.lies
  have hfew := h0.few
  rw [List.length_map] at hma hca hmw hcw
  have hrl := h8 r h6
  have HF := Lib.hid (show RefAt w r d F from ⟨h0, _, _, _, h1, h2, h3, h4, h5, h6, h7, h8⟩)
  have HVP := Lib.hid hvp
  have HVK := Lib.hid hvk
  rw [List.length_map, List.length_map] at h1
  rw [List.length_map] at h3 h5
  simp only [List.length_map] at h4 h7
  have HR := Lib.hid h1
  have HOK := Lib.hid h0
  have HS := Lib.hid h2
  have HA := Lib.hid h3
  have HWW := Lib.hid h5
  have H4 := Lib.hid h4
  have H7 := Lib.hid h7
  have H8 := Lib.hid h8
  clear h0 h1 h2 h3 h4 h5 h7 h8 hvp hvk
  go_enter Try.func23, Try.ntmps23
  go_upto_region 1 with fail
  obtain ⟨n0, hn0⟩ : ∃ n0, n0 = w.heap.size := ⟨_, rfl⟩
  have hr0 := heap_alloc_new w (.cells #[.int .u8 a.do_, .int .i64 a.i, .slice ap a.p.length cp, .bool a.odd, .int .i64 a.bit, .int .i64 a.n, .int .u32 a.mask, .slice ak a.keep.length ck] 52)
  have hb0 := bal (bre w) (.cells #[.int .u8 a.do_, .int .i64 a.i, .slice ap a.p.length cp, .bool a.odd, .int .i64 a.bit, .int .i64 a.n, .int .u32 a.mask, .slice ak a.keep.length ck] 52)
  have hs0 : (w.alloc (.cells #[.int .u8 a.do_, .int .i64 a.i, .slice ap a.p.length cp, .bool a.odd, .int .i64 a.bit, .int .i64 a.n, .int .u32 a.mask, .slice ak a.keep.length ck] 52)).heap.size = n0 + 1 := by rw [hn0]; simp
  have hrW := (hb0.block r hrl).trans HR.out
  rw [← hn0] at hr0 ⊢
  generalize w.alloc (.cells #[.int .u8 a.do_, .int .i64 a.i, .slice ap a.p.length cp, .bool a.odd, .int .i64 a.bit, .int .i64 a.n, .int .u32 a.mask, .slice ak a.keep.length ck] 52) = W at *
  obtain ⟨-, f1, -, -, -, -, -, -, ff⟩ := arow8 hr0
  obtain ⟨d0, -, -, -, fr⟩ := rrow4 hrW
  have HB0 := Lib.hid hb0
  have HN0 := Lib.hid hn0
  have HS0 := Lib.hid hs0
  have HR0 := Lib.hid hr0
  have HRW := Lib.hid hrW
  clear hr0 hb0 hs0 hrW hn0
  go_cut [6] from 14 (fun t w' => t = .bool (decide (0 ≤ a.i ∧ a.i < d.safe.length)) ∧ ∃ q, w' = W.drewN q)
  case first =>
    rcases (by omega : a.i < 0 ∨ (0 ≤ a.i ∧ a.i < d.safe.length) ∨ (0 ≤ a.i ∧ d.safe.length ≤ a.i)) with q1 | ⟨q1, q2⟩ | ⟨q1, q2⟩
    · have hd1 : decide (0 ≤ a.i) = false := decide_eq_false (by omega)
      have HD2 := Lib.hid (show decide (0 ≤ a.i ∧ a.i < d.safe.length) = false from decide_eq_false (by omega))
      go_quiet (fail)
      go_wp2_with fail
      go_meet
      case rel => exact ⟨by rw [HD2.out], _, rfl⟩
    · have hd1 : decide (0 ≤ a.i) = true := decide_eq_true (by omega)
      have hd3 : decide (a.i < d.safe.length) = true := decide_eq_true (by omega)
      have HD2 := Lib.hid (show decide (0 ≤ a.i ∧ a.i < d.safe.length) = true from decide_eq_true (by omega))
      go_quiet (fail)
      go_wp2_with fail
      go_meet
      case rel => exact ⟨by rw [HD2.out], _, rfl⟩
    · have hd1 : decide (0 ≤ a.i) = true := decide_eq_true (by omega)
      have hd3 : decide (a.i < d.safe.length) = false := decide_eq_false (by omega)
      have HD2 := Lib.hid (show decide (0 ≤ a.i ∧ a.i < d.safe.length) = false from decide_eq_false (by omega))
      go_quiet (fail)
      go_wp2_with fail
      go_meet
      case rel => exact ⟨by rw [HD2.out], _, rfl⟩
  case rest =>
  obtain ⟨rfl, q, rfl⟩ := hcut
  obtain ⟨th, hth⟩ : ∃ th, th = decide (0 ≤ a.i ∧ a.i < d.safe.length) := ⟨_, rfl⟩
  rw [← hth]
  clear d0 f1 fr ff
  have hbq := btr HB0.out (bdn (bre W) q)
  have hX := HF.out.below hbq
  have hrX : (W.drewN q).heap[r]? = _ := HRW.out
  have hnX : (W.drewN q).heap[n0]? = _ := HR0.out
  have hsX : (W.drewN q).heap.size = n0 + 1 := HS0.out
  have hSX := HS.out.below hbq
  have hWX := HWW.out.below hbq
  have hAX : OwnInts 0 (W.drewN q) (.slice aa d.wait.length ca) (d.wait.map (·.1)) := own_only HA.out (Only.of_below hbq fun _ => False) fun _ _ => id
  have hpX := HVP.out.below hbq
  have hkX := HVK.out.below hbq
  generalize W.drewN q = X at *
  obtain ⟨f0, f1, f2, f3, f4, f5, f6, f7, ff⟩ := arow8 hnX
  obtain ⟨d0, d1, d2, d3, fr⟩ := rrow4 hrX
  have HBX := Lib.hid hbq
  have HX := Lib.hid hX
  have HRX := Lib.hid hrX
  have HNX := Lib.hid hnX
  have HSX := Lib.hid hSX
  have HWX := Lib.hid hWX
  have HAX := Lib.hid hAX
  have HPX := Lib.hid hpX
  have HKX := Lib.hid hkX
  have HTH := Lib.hid hth
  have HSZ := Lib.hid hsX
  clear hbq hX hrX hnX hSX hWX hAX hpX hkX hth hsX HB0 HRW HR0 HF HR HVP HVK HS HWW HA HS0
  have hrlX : r < X.heap.size := (Array.getElem?_eq_some_iff.1 HRX.out).1
  obtain ⟨us, g1, g2, g3, g4⟩ := id HSX.out
  rw [g1] at g2
  have hone : ∀ u ∈ us, u.oneCell' = true := fun u hu => by
    obtain ⟨j, hj, rfl⟩ := List.getElem_of_mem hu
    obtain ⟨au, cu, e⟩ := RowsAt.isSlice (g3 j us[j] (d.safe[j]'(by omega)) (List.getElem?_eq_getElem hj) (List.getElem?_eq_getElem (by omega))).1
    rw [e]; rfl
  have hol := own_lit0 22 1 X
  have g2a := World.ownsRow.alloc g2 (.cells #[] 22)
  have hba := bal (bre X) (.cells #[] 22)
  obtain ⟨_, _, e, hcc, -, hnn, hlies, -⟩ := ownsRow_lies g2a
  cases e
  have HOL := Lib.hid hol
  have HUL := Lib.hid (show us.length = d.safe.length * 1 by omega)
  have HLI := Lib.hid hlies
  have HCC := Lib.hid hcc
  have HNN := Lib.hid hnn
  have HONE := Lib.hid hone
  have HBA := Lib.hid hba
  have G1 := Lib.hid g1
  have G3 := Lib.hid g3
  have HD1 := Lib.hid d1
  clear d1 d2 d3 f1 f2 f3 f4 f5 f6 f7 hol g2a hba hlies hcc hnn hone g1 g2 g3 g4
  go_upto_region 40 with fail
  go_upto_region 41 with (at_builtin; refine wpList_app rfl _ _ 41 22 1 24 rowB rfl X.heap.size _ 0 [] rfl HOL.out as0 d.safe.length cs us rfl HUL.out HLI.out HCC.out HNN.out HONE.out (by unfold maxLen; omega) (by omega) HBA.out.size ?_; intro v9 w9 ho9 _ hb9; obtain ⟨a9, c9, rfl, -⟩ := ownsRow_lies ho9; rw [Nat.zero_add, List.nil_append] at ho9; have HO9 := Lib.hid ho9; have HB9 := Lib.hid hb9; clear ho9 hb9)
  try rw [Nat.zero_add]
  try simp only [Act.put, List.setIfInBounds_toArray, List.set_cons_zero, List.set_cons_succ]
  go_upto_region 41 with fail
  have ho9 := HO9.out
  try rw [Nat.zero_add] at ho9
  have hbX9 : Below X.heap.size X w9 := HBA.out.trans HB9.out
  obtain ⟨m, hm⟩ : ∃ m, m = w9.heap.size := ⟨_, rfl⟩
  have hr9 := heap_alloc_new w9 (.cells #[.slice a9 d.safe.length c9, .slice none 0 0, .slice none 0 0, .int .i64 (-1)] 76)
  have hb8 := (bal (bre w9) (.cells #[.slice a9 d.safe.length c9, .slice none 0 0, .slice none 0 0, .int .i64 (-1)] 76)).mono hbX9.size
  have ho8 := World.ownsRow.alloc ho9 (.cells #[.slice a9 d.safe.length c9, .slice none 0 0, .slice none 0 0, .int .i64 (-1)] 76)
  have hs8 : (w9.alloc (.cells #[.slice a9 d.safe.length c9, .slice none 0 0, .slice none 0 0, .int .i64 (-1)] 76)).heap.size = m + 1 := by rw [hm]; simp
  rw [← hm] at hr9 ⊢
  generalize w9.alloc (.cells #[.slice a9 d.safe.length c9, .slice none 0 0, .slice none 0 0, .int .i64 (-1)] 76) = W9 at *
  have hbW := hbX9.trans hb8
  have hmX : w.heap.size ≤ m := by rw [hm]; exact Nat.le_trans HBX.out.size hbX9.size
  have hrows : RowsAt W9 (.slice a9 d.safe.length c9) d.safe (Fw F w W9) := ⟨us, G1.out, by rw [G1.out]; exact ownsRow_base ho8 (Nat.zero_le _), fun j u l hu hl => ⟨own_only (G3.out j u l hu hl).1 (Only.of_below hbW fun _ => False) (fun _ _ => id), fun k hk => .inl ((G3.out j u l hu hl).2 k hk)⟩, fun k hk => .inr ⟨Nat.le_trans HBX.out.size (World.ownsRow.lt ho8 k hk).1, (World.ownsRow.lt ho8 k hk).2⟩⟩
  have h9X : ∀ k, (Value.slice a9 d.safe.length c9).ownBlock = some k → X.heap.size ≤ k := fun k hk => (World.ownsRow.lt ho8 k hk).1
  have d1 := (hbW.cell (p := ⟨r, 1, none⟩) hrlX).trans HD1.out
  have HR9 := Lib.hid hr9
  have HBW := Lib.hid hbW
  have HRS := Lib.hid hrows
  have H9X := Lib.hid h9X
  have HMX := Lib.hid hmX
  clear hr9 hb8 ho8 hs8 ho9 hbX9 hbW hrows h9X hmX hm HO9 HB9 d0 fr ff f0
  go_wp2_with fail
  clear d1 hd o1 o2 o3 o4 o5 o6 o7 o8 hms hcs hma hca hmw hcw hfew
  go_loopw [12, 13, 244] (fun _ _ j wr => ∃ (k : Nat) (sl : List (List UInt8)), j = .int .i64 k ∧ k ≤ d.wait.length ∧ Hid (sl = crashOf a.keep 0 (d.wait.take k) d.safe) ∧ Hid (wr.heap[m]? = some (.cells #[.slice a9 d.safe.length c9, .slice none 0 0, .slice none 0 0, .int .i64 (-1)] 76 (0, 0))) ∧
      Hid (RowsAt wr (.slice a9 d.safe.length c9) sl (Fw F w wr)) ∧ Hid (Below X.heap.size X wr)) (fun _ _ j _ => d.wait.length - (intOf j).toNat)
  case atStart => exact ⟨0, d.safe, rfl, by omega, Lib.hid (by simp [crashOf]), HR9, HRS, HBW⟩
  case round =>
    obtain ⟨k, sl, rfl, hk, HSL, HR, HSS, HBR⟩ := hrel
    by_cases hlt : k < d.wait.length
    · obtain ⟨x, hx⟩ : ∃ x, d.wait[k]? = some x := ⟨_, List.getElem?_eq_getElem hlt⟩
      have hxo := HOK.out.wait x (List.mem_of_getElem? hx)
      have hct := crash_take a.keep d k x hx
      rw [← HSL.out] at hct
      have hAr : OwnInts 0 wr (.slice aa d.wait.length ca) (d.wait.map (·.1)) := own_only HAX.out (Only.of_below HBR.out fun _ => False) fun _ _ => id
      obtain ⟨ga, ca', e3, hca', hfa⟩ := hAr.at k x.1 (by rw [List.getElem?_map, hx]; rfl)
      rw [List.length_map] at e3
      cases e3
      obtain ⟨gw, cw', uw, e5, hFgw, hcw, hfw, how, hFw⟩ := (HWX.out.below HBR.out).at k x.2 (by rw [List.getElem?_map, hx]; rfl)
      rw [List.length_map] at e5
      cases e5
      have hsll : sl.length = d.safe.length := by rw [HSL.out, crashOf_length]
      obtain ⟨ls, hls⟩ : ∃ ls, sl[x.1]? = some ls := ⟨_, List.getElem?_eq_getElem (by rw [hsll]; exact hxo.2)⟩
      obtain ⟨gs, cs', us', e2, hFs, hcs', hfs, _, _⟩ := HSS.out.at x.1 ls hls
      rw [hsll] at e2
      cases e2
      obtain ⟨au, cu, rfl⟩ := RowsAt.isSlice how
      have hgsX := H9X.out gs rfl
      have hgwX : gw < X.heap.size := by
        obtain ⟨_, _, h, _⟩ := id HWX.out
        exact (World.ownsRow.lt h gw rfl).2
      have hx1 : (x.1 : Int) < d.safe.length := by have := hxo.2; omega
      have hrr := (HBR.out.block r hrlX).trans HRX.out
      have hnr := (HBR.out.block n0 (Array.getElem?_eq_some_iff.1 HNX.out).1).trans HNX.out
      obtain ⟨c0, -, -, -, cr⟩ := rrow4 HR.out
      obtain ⟨-, -, d2, -, fr⟩ := rrow4 hrr
      obtain ⟨-, -, -, -, -, -, -, f7, ff⟩ := arow8 hnr
      obtain ⟨_, _, ek, hkm, hkc, -, hkr⟩ := HKX.out.below HBR.out
      cases ek
      unfold maxLen at hkm
      have HKR := Lib.hid hkr
      have HXO := Lib.hid hxo
      have HX' := Lib.hid hx
      have HOW := Lib.hid how
      have HFW := Lib.hid hFw
      have HCT := Lib.hid hct
      clear hxo hx how hFw hct hkr hrr hnr hAr hls hsll
      by_cases hkp : a.keep.getD k false = true
      · have hkl : k < a.keep.length := by
          rcases (by omega : k < a.keep.length ∨ a.keep.length ≤ k) with h | h
          · exact h
          · rw [List.getD_eq_getElem?_getD, List.getElem?_eq_none h] at hkp; cases hkp
        have hkb : a.keep[k]? = some true := by
          rw [List.getD_eq_getElem?_getD, List.getElem?_eq_getElem hkl] at hkp
          rw [List.getElem?_eq_getElem hkl]
          exact congrArg some hkp
        obtain ⟨kg, ko, rfl, hcell⟩ : ∃ kg ko, ak = some ⟨kg, ko, none⟩ ∧ wr.cell? ⟨kg, ko + k, none⟩ = some (.bool true) := by
          rcases HKR.out with h | ⟨kg, ko, ha, hc⟩
          · rw [h] at hkl; simp at hkl
          · obtain ⟨u, hu, rfl⟩ := hc k true hkb
            exact ⟨kg, ko, ha, hu⟩
        have hkl' : (k : Int) < a.keep.length := by omega
        have hct := HCT.out
        rw [if_pos hkp] at hct
        have HCT2 := Lib.hid hct
        clear hct HCT hkp hkb
        go_upto_region 45 with fail
        clear hca' hfa f7 ff hcell hkl hkl' hkm hkc
        refine region_anyZ (z := 12) (S := fun w' => w'.cell? ⟨m, 0, none⟩ = some (.slice (some ⟨gs, 0, none⟩) d.safe.length c9) ∧ w'.cell? ⟨r, 2, none⟩ = some (.slice (some ⟨gw, 0, none⟩) d.wait.length cw) ∧ w'.cell? ⟨gw, k, none⟩ = some (.slice au x.2.length cu)) (by kernel_rfl) ?_
        refine anyZ_begin (fun hcl0 => ?_)
        refine anyZ_held (by exact ⟨c0, d2, hcw⟩) (fun hHeld => ?_)
        -- 0: Op.move (Operand.tmp 11)
        refine' anyZ_pure (i := 0) (v := _) rfl (by rfl) (by kernel_rfl) (by kernel_rfl) (by kernel_rfl) hcl0 (fun _ _ _ h => h) (Or.inl ⟨by rfl, fun w _ => ?h1⟩) (fun _ => hHeld) (fun hcl1 => ?r1)
        case h1 => (simp only [List.getElem_toArray, List.getElem_cons_zero]; first | (go_simp; with_reducible rfl) | (go_simp; done) | rfl)
        simp only [List.getElem_toArray, List.getElem_cons_zero, Act.put, List.setIfInBounds_toArray, List.set_cons_zero, List.set_cons_succ]
        -- 1: Op.nilCheck (Operand.tmp 261)
        refine' anyZ_pure (i := 1) (v := _) rfl (by rfl) (by kernel_rfl) (by kernel_rfl) (by kernel_rfl) hcl1 (fun _ _ _ h => h) (Or.inl ⟨by rfl, fun w _ => ?h2⟩) (fun _ => hHeld) (fun hcl2 => ?r2)
        case h2 => (simp only [List.getElem_toArray, List.getElem_cons_succ, List.getElem_cons_zero]; first | (go_simp; with_reducible rfl) | (go_simp; done) | rfl)
        simp only [List.getElem_toArray, List.getElem_cons_succ, List.getElem_cons_zero, Act.put, List.setIfInBounds_toArray, List.set_cons_zero, List.set_cons_succ]
        -- 2: Op.fieldAddr 76 (Operand.tmp 262) 0
        refine' anyZ_pure (i := 2) (v := _) rfl (by rfl) (by kernel_rfl) (by kernel_rfl) (by kernel_rfl) hcl2 (fun _ _ _ h => h) (Or.inl ⟨by rfl, fun w _ => ?h3⟩) (fun _ => hHeld) (fun hcl3 => ?r3)
        case h3 => (simp only [List.getElem_toArray, List.getElem_cons_succ, List.getElem_cons_zero]; first | (go_simp; with_reducible rfl) | (go_simp; done) | rfl)
        simp only [List.getElem_toArray, List.getElem_cons_succ, List.getElem_cons_zero, Act.put, List.setIfInBounds_toArray, List.set_cons_zero, List.set_cons_succ]
        -- 3: Op.load 41 (Operand.tmp 263)
        refine' anyZ_take (i := 3) (v := _) rfl (by rfl) (by kernel_rfl) (by kernel_rfl) (by kernel_rfl) hcl3 2 (by kernel_rfl) (by kernel_rfl) (fun _ _ _ h => h) (Or.inl ⟨by rfl, fun w hSw => ?h4⟩) hHeld (fun hcl4 => ?r4)
        case h4 => (simp only [List.getElem_toArray, List.getElem_cons_succ, List.getElem_cons_zero]; obtain ⟨hS1, hS2, hS3⟩ := hSw; first | (go_simp; with_reducible rfl) | (go_simp; done) | rfl)
        simp only [List.getElem_toArray, List.getElem_cons_succ, List.getElem_cons_zero, Act.put, List.setIfInBounds_toArray, List.set_cons_zero, List.set_cons_succ]
        -- 4: Op.move (Operand.tmp 13)
        refine' anyZ_pure (i := 4) (v := _) rfl (by rfl) (by kernel_rfl) (by kernel_rfl) (by kernel_rfl) hcl4 (fun _ _ _ h => h) (Or.inl ⟨by rfl, fun w _ => ?h5⟩) (fun _ => hHeld) (fun hcl5 => ?r5)
        case h5 => (simp only [List.getElem_toArray, List.getElem_cons_succ, List.getElem_cons_zero]; first | (go_simp; with_reducible rfl) | (go_simp; done) | rfl)
        simp only [List.getElem_toArray, List.getElem_cons_succ, List.getElem_cons_zero, Act.put, List.setIfInBounds_toArray, List.set_cons_zero, List.set_cons_succ]
        -- 5: Op.move (Operand.tmp 0)
        refine' anyZ_pure (i := 5) (v := _) rfl (by rfl) (by kernel_rfl) (by kernel_rfl) (by kernel_rfl) hcl5 (fun _ _ _ h => h) (Or.inl ⟨by rfl, fun w _ => ?h6⟩) (fun _ => hHeld) (fun hcl6 => ?r6)
        case h6 => (simp only [List.getElem_toArray, List.getElem_cons_succ, List.getElem_cons_zero]; first | (go_simp; with_reducible rfl) | (go_simp; done) | rfl)
        simp only [List.getElem_toArray, List.getElem_cons_succ, List.getElem_cons_zero, Act.put, List.setIfInBounds_toArray, List.set_cons_zero, List.set_cons_succ]
        -- 6: Op.nilCheck (Operand.tmp 266)
        refine' anyZ_pure (i := 6) (v := _) rfl (by rfl) (by kernel_rfl) (by kernel_rfl) (by kernel_rfl) hcl6 (fun _ _ _ h => h) (Or.inl ⟨by rfl, fun w _ => ?h7⟩) (fun _ => hHeld) (fun hcl7 => ?r7)
        case h7 => (simp only [List.getElem_toArray, List.getElem_cons_succ, List.getElem_cons_zero]; first | (go_simp; with_reducible rfl) | (go_simp; done) | rfl)
        simp only [List.getElem_toArray, List.getElem_cons_succ, List.getElem_cons_zero, Act.put, List.setIfInBounds_toArray, List.set_cons_zero, List.set_cons_succ]
        -- 7: Op.fieldAddr 76 (Operand.tmp 267) 2
        refine' anyZ_pure (i := 7) (v := _) rfl (by rfl) (by kernel_rfl) (by kernel_rfl) (by kernel_rfl) hcl7 (fun _ _ _ h => h) (Or.inl ⟨by rfl, fun w _ => ?h8⟩) (fun _ => hHeld) (fun hcl8 => ?r8)
        case h8 => (simp only [List.getElem_toArray, List.getElem_cons_succ, List.getElem_cons_zero]; first | (go_simp; with_reducible rfl) | (go_simp; done) | rfl)
        simp only [List.getElem_toArray, List.getElem_cons_succ, List.getElem_cons_zero, Act.put, List.setIfInBounds_toArray, List.set_cons_zero, List.set_cons_succ]
        -- 8: Op.load 41 (Operand.tmp 268)
        refine' anyZ_take (i := 8) (v := _) rfl (by rfl) (by kernel_rfl) (by kernel_rfl) (by kernel_rfl) hcl8 2 (by kernel_rfl) (by kernel_rfl) (fun _ _ _ h => h) (Or.inl ⟨by rfl, fun w hSw => ?h9⟩) hHeld (fun hcl9 => ?r9)
        case h9 => (simp only [List.getElem_toArray, List.getElem_cons_succ, List.getElem_cons_zero]; obtain ⟨hS1, hS2, hS3⟩ := hSw; first | (go_simp; with_reducible rfl) | (go_simp; done) | rfl)
        simp only [List.getElem_toArray, List.getElem_cons_succ, List.getElem_cons_zero, Act.put, List.setIfInBounds_toArray, List.set_cons_zero, List.set_cons_succ]
        -- 9: Op.move (Operand.tmp 12)
        refine' anyZ_pure (i := 9) (v := _) rfl (by rfl) (by kernel_rfl) (by kernel_rfl) (by kernel_rfl) hcl9 (fun _ _ _ h => h) (Or.inl ⟨by rfl, fun w _ => ?h10⟩) (fun _ => hHeld) (fun hcl10 => ?r10)
        case h10 => (simp only [List.getElem_toArray, List.getElem_cons_succ, List.getElem_cons_zero]; first | (go_simp; with_reducible rfl) | (go_simp; done) | rfl)
        simp only [List.getElem_toArray, List.getElem_cons_succ, List.getElem_cons_zero, Act.put, List.setIfInBounds_toArray, List.set_cons_zero, List.set_cons_succ]
        -- 10: Op.indexAddr 41 (Operand.tmp 269) (Operand.tmp 270)
        refine' anyZ_pure (i := 10) (v := _) rfl (by rfl) (by kernel_rfl) (by kernel_rfl) (by kernel_rfl) hcl10 (fun _ _ _ h => h) (Or.inl ⟨by rfl, fun w _ => ?h11⟩) (fun _ => hHeld) (fun hcl11 => ?r11)
        case h11 => (simp only [List.getElem_toArray, List.getElem_cons_succ, List.getElem_cons_zero]; first | (go_simp; with_reducible rfl) | (go_simp; done) | rfl)
        simp only [List.getElem_toArray, List.getElem_cons_succ, List.getElem_cons_zero, Act.put, List.setIfInBounds_toArray, List.set_cons_zero, List.set_cons_succ]
        -- 11: Op.load 22 (Operand.tmp 271)
        refine' anyZ_take (i := 11) (v := _) rfl (by rfl) (by kernel_rfl) (by kernel_rfl) (by kernel_rfl) hcl11 2 (by kernel_rfl) (by kernel_rfl) (fun _ _ _ h => h) (Or.inl ⟨by rfl, fun w hSw => ?h12⟩) hHeld (fun hcl12 => ?r12)
        case h12 => (simp only [List.getElem_toArray, List.getElem_cons_succ, List.getElem_cons_zero]; obtain ⟨hS1, hS2, hS3⟩ := hSw; first | (go_simp; with_reducible rfl) | (go_simp; done) | rfl)
        simp only [List.getElem_toArray, List.getElem_cons_succ, List.getElem_cons_zero, Act.put, List.setIfInBounds_toArray, List.set_cons_zero, List.set_cons_succ]
        clear hHeld
        refine anyZ_chain_at (by kernel_rfl) ?_
        simp only [List.drop_succ_cons, List.drop_zero]
        go_wp2_with fail
        have ho9 : Only wr.drew (wr.drew.setCell ⟨gs, x.1, none⟩ (.slice au x.2.length cu)) (fun k => k = gs) := Only.setCell _ _ _
        have hdr : Only wr wr.drew (fun k => k = gs) := Only.of_below (bdr (bre wr)) _
        have ho8 : Only wr (wr.drew.setCell ⟨gs, x.1, none⟩ (.slice au x.2.length cu)) (fun k => k = gs) := hdr.trans ho9 fun _ _ h => h
        have hmg : m ≠ gs := fun e => by
          obtain ⟨_, _, g2, _⟩ := HSS.out
          exact own_ne g2 HR.out (by decide) (by rw [e]; rfl)
        have hr9 := (ho8.block m (Array.getElem?_eq_some_iff.1 HR.out).1 hmg).trans HR.out
        have hs9 := ((HSS.out.below (bdr (bre wr))).set x.1 (.slice au x.2.length cu) x.2 (own_only HOW.out (Only.of_below (bdr (bre wr)) fun _ => False) fun _ _ => id) (fun k hk => .inl (HFW.out k hk))).fw ho8.size
        rw [← HCT2.out] at hs9
        have hb9 : Below X.heap.size X (wr.drew.setCell ⟨gs, x.1, none⟩ (.slice au x.2.length cu)) := (HBR.out.trans ((bdr (bre wr)).mono HBR.out.size)).setCell hgsX (p := ⟨gs, x.1, none⟩) _
        go_roundw
        case rel => exact ⟨k + 1, _, by go_num, by omega, Lib.hid rfl, Lib.hid hr9, Lib.hid hs9, Lib.hid hb9⟩
        case measure => first | (simp [intOf]; done) | (simp [intOf]; omega)
      · have hct := HCT.out
        rw [if_neg hkp] at hct
        have HCT2 := Lib.hid hct
        clear hct HCT
        rcases (by omega : k < a.keep.length ∨ a.keep.length ≤ k) with hkl | hkl
        · have hkb : a.keep[k]? = some false := by
            rw [List.getD_eq_getElem?_getD, List.getElem?_eq_getElem hkl] at hkp
            rw [List.getElem?_eq_getElem hkl]
            exact congrArg some (by simpa using hkp)
          obtain ⟨kg, ko, rfl, hcell⟩ : ∃ kg ko, ak = some ⟨kg, ko, none⟩ ∧ wr.cell? ⟨kg, ko + k, none⟩ = some (.bool false) := by
            rcases HKR.out with h | ⟨kg, ko, ha, hc⟩
            · rw [h] at hkl; simp at hkl
            · obtain ⟨u, hu, rfl⟩ := hc k false hkb
              exact ⟨kg, ko, ha, hu⟩
          have hkl' : (k : Int) < a.keep.length := by omega
          clear hkp hkb
          go_wp2_with fail
          go_roundw
          case rel => exact ⟨k + 1, sl, by go_num, by omega, Lib.hid HCT2.out.symm, HR, HSS, HBR⟩
          case measure => first | (simp [intOf]; done) | (simp [intOf]; omega)
        · have hkl' : (a.keep.length : Int) ≤ k := by omega
          clear hkp hkl
          go_wp2_with fail
          go_roundw
          case rel => exact ⟨k + 1, sl, by go_num, by omega, Lib.hid HCT2.out.symm, HR, HSS, HBR⟩
          case measure => first | (simp [intOf]; done) | (simp [intOf]; omega)
    · have e : k = d.wait.length := by omega
      subst e
      have hsl := HSL.out
      rw [List.take_length] at hsl
      have HSL9 := Lib.hid hsl
      clear hsl
      go_wp2_with fail
      go_ret2
      have hbw := HBX.out.trans (HBR.out.mono HBX.out.size)
      have hml := (Array.getElem?_eq_some_iff.1 HR.out).1
      have hlr : ∀ k, Fw F w wr k → k < wr.heap.size := fun k hk => hk.elim (fun h => Nat.lt_of_lt_of_le (H8.out k h) hbw.size) (·.2)
      refine ⟨m, Fw F w wr, rfl, ⟨⟨?_, (fun x hx => by cases hx), ?_⟩, .slice a9 d.safe.length c9, .slice none 0 0, .slice none 0 0, HR.out, ?_, World.ownsRow_nil _ _ _ _, (fun k hk => by cases hk), RowsAt.nil _ _, .inr ⟨HMX.out, hml⟩, ?_, hlr⟩, Only.of_below hbw _, fun k hk => hk.imp id (·.1)⟩
      · exact crashOf_ok _ _ (fun y hy => (HOK.out.wait y hy).1) _ _ HOK.out.safe
      · show (crashOf a.keep 0 d.wait d.safe).length ≤ 4096
        rw [crashOf_length]; exact HOK.out.few
      · rw [show (d.crashed a.keep).safe = sl from HSL9.out.symm]
        exact HSS.out
      · cases hvs : (Value.slice a9 d.safe.length c9).ownBlock with
        | none => exact .inl rfl
        | some q => exact .inr (by simp [Value.ownBlock])

end Go.Proofs.Ytkonjjanoifinaa
