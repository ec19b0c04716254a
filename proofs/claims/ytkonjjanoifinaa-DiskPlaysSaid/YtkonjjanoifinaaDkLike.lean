/- Walk: is a disk the document's? -/
import Derived.Test.YtkonjjanoifinaaRkRead
import Derived.Test.YtkonjjanoifinaaOrdG
import Derived.Test.YtkonjjanoifinaaMake
import Derived.Test.YtkonjjanoifinaaSame
import Derived.Test.YtkonjjanoifinaaDkWait
import Derived.Deep.QuietTactic
import Derived.BigQuiet
namespace Go.Proofs.Ytkonjjanoifinaa
open Go.RowKit

set_option maxRecDepth 10000 in
set_option maxHeartbeats 3200000 in
theorem like_any (g r : Nat) (d d2 : Dk) (F G : Nat → Prop) (w : World) (h : DiskAt w g d F) (hr : RefAt w r d2 G) (hs : d2.safe = d.safe) (hwt : d2.wait = d.wait) (hlen : d.wait.length ≤ 1000000) :
    Calls Try.prog 25 #[.pointer (some ⟨g, 0, none⟩), .pointer (some ⟨r, 0, none⟩)] w fun e w' => e = .returned (.bool true) ∧ Below w.heap.size w w' := by
  have hfew := h.ok.few
  have hnow : ∀ i, d2.now i = d.now i := fun i => by unfold Dk.now; rw [hs, hwt]
  have hd2l : d2.wait.length ≤ 1000000 := by rw [hwt]; exact hlen
  have hd2s : d2.safe.length = d.safe.length := by rw [hs]
  have HR0 := Lib.hid hr
  obtain ⟨_, vs, va, vw, h1, h2, h3, h4, h5, h6, h7, h8⟩ := hr
  rw [hs] at h2
  rw [hwt] at h3
  obtain ⟨as0, cs, rfl, hms, hcs⟩ := h2.lies
  obtain ⟨aa, ca, rfl, hma, hca⟩ := h3.lies
  rw [List.length_map] at hma hca h1 h3
  have hrl := h8 r h6
  have HD := Lib.hid h
  have H1 := Lib.hid h1
  have H3 := Lib.hid h3
  have HNOW := Lib.hid hnow
  have HL2 := Lib.hid hd2l
  have HS2 := Lib.hid hd2s
  clear h h1 h2 h3 h4 h5 h6 h7 h8 hnow hd2l hd2s hs hwt
  go_enter Try.func25, Try.ntmps25
  go_wp2_with fail
  refine (waiting_any g d F w HD.out hlen).mono ?_
  rintro e w1 ⟨v5, rfl, ho5, hb1⟩
  obtain ⟨a5, c5, rfl, hm5, hc5⟩ := OwnInts.lies ho5
  rw [List.length_map] at hm5 hc5 ho5 ⊢
  have h11 := (hb1.block r hrl).trans H1.out
  obtain ⟨d0, d1, _, _, fr⟩ := rrow4 h11
  have HO5 := Lib.hid ho5
  have HB1 := Lib.hid hb1
  have H11 := Lib.hid h11
  clear ho5 hb1 h11
  go_upto_region 2 with fail
  go_cut [5, 30] from 11 (fun t b w' => t = .slice a5 d.wait.length c5 ∧ b = .bool false ∧ ∃ q, w' = w1.drewN q)
  case first =>
    go_quiet ((go_at_call 27; first | exact Calls.quiet_of_same (sectors_any g d F _ (HD.out.below (HB1.out.trans ((bdn (bre w1) _).mono HB1.out.size)))) | exact Calls.quiet_of_same (sectors_any g d F _ (HD.out.below HB1.out))))
    go_wp2_with fail
    go_meet
    case rel => exact ⟨rfl, rfl, _, rfl⟩
  case rest =>
  obtain ⟨rfl, rfl, q, rfl⟩ := hcut
  have hb2 := bdn (bre w1) q
  have h12 : (w1.drewN q).heap[r]? = _ := H11.out
  have ho2 : OwnInts w.heap.size (w1.drewN q) (.slice a5 d.wait.length c5) (d.wait.map (·.1)) := own_only HO5.out (Only.of_below hb2 fun _ => False) fun _ _ => id
  have h32 : OwnInts 0 (w1.drewN q) (.slice aa d.wait.length ca) (d.wait.map (·.1)) := own_only H3.out (Only.of_below (HB1.out.trans (hb2.mono HB1.out.size)) fun _ => False) fun _ _ => id
  have hbw := HB1.out.trans (hb2.mono HB1.out.size)
  generalize w1.drewN q = w2 at *
  obtain ⟨d0, d1, _, _, fr⟩ := rrow4 h12
  have HO2 := Lib.hid ho2
  have H32 := Lib.hid h32
  have HB2 := Lib.hid hbw
  have H12 := Lib.hid h12
  clear hb2 h12 ho2 h32 hbw
  go_wp2_with fail
  go_loopw [6, 33] (fun _ j wr => ∃ (k : Nat), j = .int .i64 k ∧ k ≤ d.wait.length ∧ Hid (∃ q, wr = w2.drewN q)) (fun _ j _ => d.wait.length - (intOf j).toNat)
  case atStart => exact ⟨0, rfl, by omega, Lib.hid ⟨0, rfl⟩⟩
  case round =>
    obtain ⟨k, rfl, hk, HQ⟩ := hrel
    obtain ⟨q, rfl⟩ := HQ.out
    by_cases hlt : k < d.wait.length
    · obtain ⟨x, hx⟩ : ∃ x, d.wait[k]? = some x := ⟨_, List.getElem?_eq_getElem hlt⟩
      obtain ⟨ga, ca', e3, hca', hfa⟩ := H32.out.at k x.1 (by rw [List.getElem?_map, hx]; rfl)
      obtain ⟨g5, c5', e5, hc5', hf5⟩ := HO2.out.at k x.1 (by rw [List.getElem?_map, hx]; rfl)
      rw [List.length_map] at e3 e5
      cases e3
      cases e5
      clear hx
      go_upto_region 7 with fail
      go_quiet (fail)
      go_wp2_with fail
      go_roundw
      case rel => exact ⟨k + 1, by go_num, by omega, (by first | exact HQ | exact Lib.hid ⟨q + 1, rfl⟩ | exact Lib.hid ⟨_, rfl⟩)⟩
      case measure => first | (simp [intOf]; done) | (simp [intOf]; omega)
    · have e : k = d.wait.length := by omega
      subst e
      have hb3 := HB2.out.trans ((bdn (bre w2) q).mono HB2.out.size)
      have h13 : (w2.drewN q).heap[r]? = _ := H12.out
      clear hlt HQ
      generalize w2.drewN q = w3 at *
      obtain ⟨d0', d1', _, _, fr'⟩ := rrow4 h13
      have HB3 := Lib.hid hb3
      clear hb3 h13 d0 d1 fr
      go_wp2_with fail
      clear d0' d1' fr'
      go_loopw [7, 8, 9, 10, 54] (fun _ _ _ _ j wr => ∃ (k : Nat), j = .int .i64 k ∧ k ≤ d.safe.length ∧ Hid (Below w.heap.size w wr)) (fun _ _ _ _ j _ => d.safe.length - (intOf j).toNat)
      case atStart => exact ⟨0, rfl, by omega, HB3⟩
      case round =>
        obtain ⟨k, rfl, hk, HB⟩ := hrel
        by_cases hlt : k < d.safe.length
        · obtain ⟨p, hp⟩ : ∃ p, p = d.now k := ⟨_, rfl⟩
          have HP := Lib.hid hp
          clear hp
          go_wp2_with fail
          refine (dread_ok g d F k wr (HD.out.below HB.out) hlt hlen).mono ?_
          rintro e w4 ⟨v8, rfl, ho8, hb4⟩
          rw [← HP.out] at ho8
          have hb04 := HB.out.trans (hb4.mono HB.out.size)
          have HO8 := Lib.hid ho8.bytes
          have HB04 := Lib.hid hb04
          obtain ⟨a8, c8, rfl, _⟩ := id HO8.out
          clear ho8 hb4 hb04
          go_wp2_with fail
          refine (refread_any r d2 G k w4 (HR0.out.below HB04.out) (by rw [HS2.out]; exact hlt) HL2.out).mono ?_
          rintro e w5 ⟨v10, rfl, hy10, hb5⟩
          rw [HNOW.out, ← HP.out] at hy10
          have hb05 := HB04.out.trans (hb5.mono HB04.out.size)
          have hy8 := HO8.out.below hb5
          obtain ⟨a10, c10, rfl, _⟩ := id hy10
          have HY8 := Lib.hid hy8
          have HY10 := Lib.hid hy10
          have HB05 := Lib.hid hb05
          clear hy8 hy10 hb5 hb05
          have hsame : ∀ wx, Below w5.heap.size w5 wx → Calls Try.prog 18 #[.slice a8 p.length c8, .slice a10 p.length c10] wx fun e w' => e = .returned (.bool true) ∧ ∃ n, w' = wx.drewN n := fun wx hbx => by
            have := same_any _ _ p p wx (HY8.out.below hbx) (HY10.out.below hbx)
            rw [decide_eq_true rfl] at this
            exact this
          have HSM := Lib.hid hsame
          clear hsame
          go_upto_region 15 with fail
          refine region_anyZ (z := 14) (S := fun _ => True) (by kernel_rfl) ?_
          refine anyZ_begin (fun hcl0 => ?_)
          refine anyZ_held (by exact trivial) (fun hHeld => ?_)
          -- 0: Op.move (Operand.tmp 9)
          refine' anyZ_pure (i := 0) (v := _) rfl (by rfl) (by kernel_rfl) (by kernel_rfl) (by kernel_rfl) hcl0 (fun _ _ _ h => h) (Or.inl ⟨by rfl, fun w _ => ?h1⟩) (fun _ => hHeld) (fun hcl1 => ?r1)
          case h1 => (simp only [List.getElem_toArray, List.getElem_cons_zero]; first | (go_simp; with_reducible rfl) | (go_simp; done) | rfl)
          simp only [List.getElem_toArray, List.getElem_cons_zero, Act.put, List.setIfInBounds_toArray, List.set_cons_zero, List.set_cons_succ]
          -- 1: Op.binOp BinOp.neq 25 (Operand.tmp 66) (Operand.const (Value
          refine' anyZ_pure (i := 1) (v := _) rfl (by rfl) (by kernel_rfl) (by kernel_rfl) (by kernel_rfl) hcl1 (fun _ _ _ h => h) (Or.inl ⟨by rfl, fun w _ => ?h2⟩) (fun _ => hHeld) (fun hcl2 => ?r2)
          case h2 => (simp only [List.getElem_toArray, List.getElem_cons_succ, List.getElem_cons_zero]; first | (go_simp; with_reducible rfl) | (go_simp; done) | rfl)
          simp only [List.getElem_toArray, List.getElem_cons_succ, List.getElem_cons_zero, Act.put, List.setIfInBounds_toArray, List.set_cons_zero, List.set_cons_succ]
          -- 2: Op.move (Operand.tmp 67)
          refine' anyZ_pure (i := 2) (v := _) rfl (by rfl) (by kernel_rfl) (by kernel_rfl) (by kernel_rfl) hcl2 (fun _ _ _ h => h) (Or.inl ⟨by rfl, fun w _ => ?h3⟩) (fun _ => hHeld) (fun hcl3 => ?r3)
          case h3 => (simp only [List.getElem_toArray, List.getElem_cons_succ, List.getElem_cons_zero]; first | (go_simp; with_reducible rfl) | (go_simp; done) | rfl)
          simp only [List.getElem_toArray, List.getElem_cons_succ, List.getElem_cons_zero, Act.put, List.setIfInBounds_toArray, List.set_cons_zero, List.set_cons_succ]
          -- 3: Op.move (Operand.tmp 8)
          refine' anyZ_pure (i := 3) (v := _) rfl (by rfl) (by kernel_rfl) (by kernel_rfl) (by kernel_rfl) hcl3 (fun _ _ _ h => h) (Or.inl ⟨by rfl, fun w _ => ?h4⟩) (fun _ => hHeld) (fun hcl4 => ?r4)
          case h4 => (simp only [List.getElem_toArray, List.getElem_cons_succ, List.getElem_cons_zero]; first | (go_simp; with_reducible rfl) | (go_simp; done) | rfl)
          simp only [List.getElem_toArray, List.getElem_cons_succ, List.getElem_cons_zero, Act.put, List.setIfInBounds_toArray, List.set_cons_zero, List.set_cons_succ]
          -- 4: Op.move (Operand.tmp 10)
          refine' anyZ_pure (i := 4) (v := _) rfl (by rfl) (by kernel_rfl) (by kernel_rfl) (by kernel_rfl) hcl4 (fun _ _ _ h => h) (Or.inl ⟨by rfl, fun w _ => ?h5⟩) (fun _ => hHeld) (fun hcl5 => ?r5)
          case h5 => (simp only [List.getElem_toArray, List.getElem_cons_succ, List.getElem_cons_zero]; first | (go_simp; with_reducible rfl) | (go_simp; done) | rfl)
          simp only [List.getElem_toArray, List.getElem_cons_succ, List.getElem_cons_zero, Act.put, List.setIfInBounds_toArray, List.set_cons_zero, List.set_cons_succ]
          -- 5: Op.call { callee := Callee.value (Operand.func 18), args := 
          refine anyZ_oneG (i := 5) hcl5 (by kernel_rfl) (by simp only [List.getElem?_toArray, List.getElem?_cons_succ, List.getElem?_cons_zero]; rfl) (by rfl) (fun hcl6 K hK => ?_)
          go_simp
          refine (HSM.out _ (bdr (bre w5))).mono ?_
          rintro e w6 ⟨rfl, n6, rfl⟩
          have hb6 := btr (bdr (bre w5)) (bdn (bre w5.drew) n6)
          generalize w5.drew.drewN n6 = w6 at *
          refine hK _ _ (fun _ => ?_) ?_
          · exact trivial
          clear hK K hHeld
          have hHeld := (True.intro)
          try simp only [Act.put, List.setIfInBounds_toArray, List.set_cons_zero, List.set_cons_succ]
          -- 6: Op.unOp UnOp.not 4 (Operand.tmp 71)
          refine' anyZ_pure (i := 6) (v := _) rfl (by rfl) (by kernel_rfl) (by kernel_rfl) (by kernel_rfl) hcl6 (fun _ _ _ h => h) (Or.inl ⟨by rfl, fun w _ => ?h7⟩) (fun _ => hHeld) (fun hcl7 => ?r7)
          case h7 => (simp only [List.getElem_toArray, List.getElem_cons_succ, List.getElem_cons_zero]; first | (go_simp; with_reducible rfl) | (go_simp; done) | rfl)
          simp only [List.getElem_toArray, List.getElem_cons_succ, List.getElem_cons_zero, Act.put, List.setIfInBounds_toArray, List.set_cons_zero, List.set_cons_succ]
          -- 7: Op.pick (Operand.tmp 68) (Operand.const (Value.bool true)) (
          refine' anyZ_pure (i := 7) (v := _) rfl (by rfl) (by kernel_rfl) (by kernel_rfl) (by kernel_rfl) hcl7 (fun _ _ _ h => h) (Or.inl ⟨by rfl, fun w _ => ?h8⟩) (fun _ => hHeld) (fun hcl8 => ?r8)
          case h8 => (simp only [List.getElem_toArray, List.getElem_cons_succ, List.getElem_cons_zero]; first | (go_simp; with_reducible rfl) | (go_simp; done) | rfl)
          simp only [List.getElem_toArray, List.getElem_cons_succ, List.getElem_cons_zero, Act.put, List.setIfInBounds_toArray, List.set_cons_zero, List.set_cons_succ]
          -- 8: Op.move (Operand.tmp 73)
          refine' anyZ_pure (i := 8) (v := _) rfl (by rfl) (by kernel_rfl) (by kernel_rfl) (by kernel_rfl) hcl8 (fun _ _ _ h => h) (Or.inl ⟨by rfl, fun w _ => ?h9⟩) (fun _ => hHeld) (fun hcl9 => ?r9)
          case h9 => (simp only [List.getElem_toArray, List.getElem_cons_succ, List.getElem_cons_zero]; first | (go_simp; with_reducible rfl) | (go_simp; done) | rfl)
          simp only [List.getElem_toArray, List.getElem_cons_succ, List.getElem_cons_zero, Act.put, List.setIfInBounds_toArray, List.set_cons_zero, List.set_cons_succ]
          -- 9: Op.move (Operand.tmp 0)
          refine' anyZ_pure (i := 9) (v := _) rfl (by rfl) (by kernel_rfl) (by kernel_rfl) (by kernel_rfl) hcl9 (fun _ _ _ h => h) (Or.inl ⟨by rfl, fun w _ => ?h10⟩) (fun _ => hHeld) (fun hcl10 => ?r10)
          case h10 => (simp only [List.getElem_toArray, List.getElem_cons_succ, List.getElem_cons_zero]; first | (go_simp; with_reducible rfl) | (go_simp; done) | rfl)
          simp only [List.getElem_toArray, List.getElem_cons_succ, List.getElem_cons_zero, Act.put, List.setIfInBounds_toArray, List.set_cons_zero, List.set_cons_succ]
          -- 10: Op.move (Operand.tmp 7)
          refine' anyZ_pure (i := 10) (v := _) rfl (by rfl) (by kernel_rfl) (by kernel_rfl) (by kernel_rfl) hcl10 (fun _ _ _ h => h) (Or.inl ⟨by rfl, fun w _ => ?h11⟩) (fun _ => hHeld) (fun hcl11 => ?r11)
          case h11 => (simp only [List.getElem_toArray, List.getElem_cons_succ, List.getElem_cons_zero]; first | (go_simp; with_reducible rfl) | (go_simp; done) | rfl)
          simp only [List.getElem_toArray, List.getElem_cons_succ, List.getElem_cons_zero, Act.put, List.setIfInBounds_toArray, List.set_cons_zero, List.set_cons_succ]
          -- 12: Op.move (Operand.tmp 10)
          refine' anyZ_pure (i := 12) (v := _) rfl (by rfl) (by kernel_rfl) (by kernel_rfl) (by kernel_rfl) hcl11 (fun _ _ _ h => h) (Or.inl ⟨by rfl, fun w _ => ?h12⟩) (fun _ => hHeld) (fun hcl12 => ?r12)
          case h12 => (simp only [List.getElem_toArray, List.getElem_cons_succ, List.getElem_cons_zero]; first | (go_simp; with_reducible rfl) | (go_simp; done) | rfl)
          simp only [List.getElem_toArray, List.getElem_cons_succ, List.getElem_cons_zero, Act.put, List.setIfInBounds_toArray, List.set_cons_zero, List.set_cons_succ]
          refine anyZ_twoG (i := 11) (j := 13) hcl12 (by kernel_rfl) (by simp only [List.getElem?_toArray, List.getElem?_cons_succ, List.getElem?_cons_zero]; rfl) (by rfl) (by simp only [List.getElem?_toArray, List.getElem?_cons_succ, List.getElem?_cons_zero]; rfl) (by rfl) (fun hcl13 K hK => ?_) (fun hcl13 K hK => ?_)
          · go_simp
            refine (blank_ok g d F k _ (HD.out.below (HB05.out.trans (hb6.mono HB05.out.size))) hlt hlen).mono ?_
            rintro e w7 ⟨rfl, hb7⟩
            rw [← HP.out]
            refine hK _ _ (fun _ => trivial) ?_
            clear hK K
            try simp only [Act.put, List.setIfInBounds_toArray, List.set_cons_zero, List.set_cons_succ]
            refine anyZ_oneG (i := 13) hcl13 (by kernel_rfl) (by simp only [List.getElem?_toArray, List.getElem?_cons_succ, List.getElem?_cons_zero]; rfl) (by rfl) (fun hcl14 K hK => ?_)
            refine wp_make8 _ _ 22 5 make8 rfl 512 rfl rfl (by omega) ?_
            intro w8 hm8 hb8
            refine hK _ _ (fun _ => trivial) ?_
            clear hK K
            try simp only [Act.put, List.setIfInBounds_toArray, List.set_cons_zero, List.set_cons_succ]
            refine anyZ_chain_at (by kernel_rfl) ?_
            simp only [List.drop_succ_cons, List.drop_zero]
            go_wp2_with fail
            refine (same_any _ _ p blank512 w8 (HY10.out.below (btr hb6 (btr hb7 hb8))) hm8.bytes).mono ?_
            rintro e w9 ⟨rfl, n9, rfl⟩
            have hbF := HB05.out.trans ((btr (btr hb6 (btr hb7 hb8)) (bdn (bre w8) n9)).mono HB05.out.size)
            go_wp2_with fail
            go_roundw
            case rel => exact ⟨k + 1, by go_num, by omega, Lib.hid hbF⟩
            case measure => first | (simp [intOf]; done) | (simp [intOf]; omega)
          · refine wp_make8 _ _ 22 5 make8 rfl 512 rfl rfl (by omega) ?_
            intro w8 hm8 hb8
            refine hK _ _ (fun _ => trivial) ?_
            clear hK K
            try simp only [Act.put, List.setIfInBounds_toArray, List.set_cons_zero, List.set_cons_succ]
            refine anyZ_oneG (i := 11) hcl13 (by kernel_rfl) (by simp only [List.getElem?_toArray, List.getElem?_cons_succ, List.getElem?_cons_zero]; rfl) (by rfl) (fun hcl14 K hK => ?_)
            go_simp
            refine (blank_ok g d F k _ (HD.out.below (HB05.out.trans ((btr hb6 hb8).mono HB05.out.size))) hlt hlen).mono ?_
            rintro e w7 ⟨rfl, hb7⟩
            rw [← HP.out]
            refine hK _ _ (fun _ => trivial) ?_
            clear hK K
            try simp only [Act.put, List.setIfInBounds_toArray, List.set_cons_zero, List.set_cons_succ]
            refine anyZ_chain_at (by kernel_rfl) ?_
            simp only [List.drop_succ_cons, List.drop_zero]
            go_wp2_with fail
            refine (same_any _ _ p blank512 w7 (HY10.out.below (btr (btr hb6 hb8) hb7)) (hm8.bytes.below hb7)).mono ?_
            rintro e w9 ⟨rfl, n9, rfl⟩
            have hbF := HB05.out.trans ((btr (btr (btr hb6 hb8) hb7) (bdn (bre w7) n9)).mono HB05.out.size)
            go_wp2_with fail
            go_roundw
            case rel => exact ⟨k + 1, by go_num, by omega, Lib.hid hbF⟩
            case measure => first | (simp [intOf]; done) | (simp [intOf]; omega)
        · have e : k = d.safe.length := by omega
          subst e
          go_wp2_with fail
          go_ret
          exact ⟨rfl, HB.out⟩
end Go.Proofs.Ytkonjjanoifinaa
