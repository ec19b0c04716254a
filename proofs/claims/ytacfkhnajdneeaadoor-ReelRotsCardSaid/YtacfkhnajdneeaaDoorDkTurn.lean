/- Walk: bits of a sector are turned. -/
import Derived.Test.YtacfkhnajdneeaaDoorDkCrash
import Derived.IntWalk
import Derived.Test.YtacfkhnajdneeaaDoorTurnV
namespace Go.Proofs.YtacfkhnajdneeaaDoor
open Go.RowKit

/-- one bit of a row of bytes, turned if asked -/
def turnAt (l : List UInt8) (t : Nat) (on : Nat) : List UInt8 := l.set (t / 8) (l.getD (t / 8) 0 ^^^ UInt8.ofNat (on * 2 ^ (t % 8)))
/-- so many bits from one on, as a mask has them -/
def turnOf (l : List UInt8) (bit : Nat) (mask : Nat) : Nat → List UInt8
  | 0 => l
  | k + 1 => turnAt (turnOf l bit mask k) (bit + k) (mask / 2 ^ k % 2)
theorem turnAt_length (l : List UInt8) (t on : Nat) : (turnAt l t on).length = l.length := by unfold turnAt; rw [List.length_set]
theorem turnOf_length (l : List UInt8) (bit mask : Nat) : ∀ k, (turnOf l bit mask k).length = l.length
  | 0 => rfl
  | k + 1 => by rw [turnOf, turnAt_length, turnOf_length]

theorem setAll_self (xs : List Value) (o : Nat) (cs : List Value) (ho : o + cs.length ≤ xs.length) (h : ∀ j, j < cs.length → xs[o + j]? = cs[j]?) : setAll xs o cs = xs := by
  apply List.ext_getElem?
  intro k
  rw [setAll_get _ _ _ _ ho]
  by_cases hk : o ≤ k ∧ k < o + cs.length
  · rw [if_pos hk, ← h (k - o) (by omega), show o + (k - o) = k by omega]
  · rw [if_neg hk]
theorem setAll_set (xs : List Value) (o : Nat) (cs : List Value) (q : Nat) (v : Value) (ho : o + cs.length ≤ xs.length) (hq : q < cs.length) : (setAll xs o cs).set (o + q) v = setAll xs o (cs.set q v) := by
  apply List.ext_getElem?
  intro k
  rw [setAll_get _ _ _ _ (by rw [List.length_set]; exact ho), List.length_set]
  by_cases hk : k = o + q
  · subst hk
    rw [List.getElem?_set_self (by rw [setAll_length]; omega), if_pos (by omega), show o + q - o = q by omega, List.getElem?_set_self hq]
  · rw [List.getElem?_set_ne (fun e => hk e.symm), setAll_get _ _ _ _ ho]
    by_cases hk2 : o ≤ k ∧ k < o + cs.length
    · rw [if_pos hk2, if_pos hk2, List.getElem?_set_ne (by omega)]
    · rw [if_neg hk2, if_neg hk2]

set_option maxRecDepth 10000 in
set_option maxHeartbeats 1600000 in
theorem turn_any (b o base e size n c : Nat) (xs : List Value) (l : List UInt8) (bit len mask : Nat) (w : World) (hl : l.length = 512) (hown : w.ownsRow base e size (.slice (some ⟨b, 0, none⟩) n c) n xs) (ho : o + 512 ≤ n * size)
    (hxs : ∀ j, j < 512 → xs[o + j]? = (secCells l)[j]?) (hlen : len ≤ 32) (hbit : bit + len ≤ 4096) (hmask : mask < 4294967296) :
    Calls Tryd.prog 65 #[.pointer (some ⟨b, o, none⟩), .int .i64 bit, .int .i64 len, .int .u32 mask] w fun e' w' => e' = .returned (.tuple #[]) ∧ w'.ownsRow base e size (.slice (some ⟨b, 0, none⟩) n c) n (setAll xs o (secCells (turnOf l bit mask len))) ∧ Only w w' (fun k => k = b) := by
  have hxl := hown.1
  have hsl : (secCells l).length = 512 := by unfold secCells; rw [List.length_map]; exact hl
  have hst : w.ownsRow base e size (.slice (some ⟨b, 0, none⟩) n c) n (setAll xs o (secCells l)) := by
    rw [setAll_self xs o _ (by rw [hsl]; omega) (fun j hj => hxs j (by omega))]; exact hown
  have HST := Lib.hid hst
  have HXL := Lib.hid hxl
  have HO := Lib.hid ho
  clear hst hxl hown hxs hsl ho
  go_enter Tryd.func65, Tryd.ntmps65
  go_wp2
  go_loopw [8, 9, 11] (fun _ _ i wr => ∃ (k : Nat) (m : List UInt8), i = .int .i64 k ∧ k ≤ len ∧ Hid (m = turnOf l bit mask k) ∧ Hid (wr.ownsRow base e size (.slice (some ⟨b, 0, none⟩) n c) n (setAll xs o (secCells m))) ∧ Only w wr (fun k => k = b)) (fun _ _ i _ => len - (intOf i).toNat)
  case atStart => exact ⟨0, l, rfl, by omega, Lib.hid rfl, HST, Only.refl _ _⟩
  case round =>
    obtain ⟨k, m, rfl, hk, HM, HR, hon⟩ := hrel
    by_cases hlt : k < len
    · have hml : m.length = 512 := by rw [HM.out, turnOf_length, hl]
      obtain ⟨t, ht⟩ : ∃ t, t = bit + k := ⟨_, rfl⟩
      have htI : (bit : Int) + k = t := by omega
      have ht8 : t / 8 < m.length := by omega
      obtain ⟨x, hx⟩ : ∃ x, m[t / 8]? = some x := ⟨_, List.getElem?_eq_getElem ht8⟩
      have hsm : (secCells m).length = 512 := by unfold secCells; rw [List.length_map]; exact hml
      have hin : o + (secCells m).length ≤ xs.length := by rw [hsm, HXL.out]; exact HO.out
      have hc : wr.cell? ⟨b, o + t / 8, none⟩ = some (.int .u8 x.toNat) := by
        have h1 := HO.out
        rw [World.ownsRow.cellAt HR.out (o + t / 8) (by omega), setAll_get _ _ _ _ hin, if_pos (by omega), show o + t / 8 - o = t / 8 by omega]
        unfold secCells
        rw [List.getElem?_map, hx]; rfl
      have hfz := World.ownsRow.frozenAt HR.out (o + t / 8)
      have HSM := Lib.hid hsm
      have HIN := Lib.hid hin
      have HX := Lib.hid hx
      clear hsm hin hx
      have HT := Lib.hid ht
      clear ht
      have hki : (k : Int) < len := by omega
      obtain ⟨q, hq⟩ : ∃ q, q = t / 8 := ⟨_, rfl⟩
      rw [← hq] at hc ht8 hfz HX
      have hw1 : IntKind.i64.wrap ((t : Int) / 8) = (q : Int) := by rw [IntWalk.i64_in _ (by omega)]; omega
      have hq0 : (0 : Int) ≤ q := by omega
      have hq1 : (q : Int) < 512 := by omega
      have HQ := Lib.hid hq
      clear hq
      have h64 : (t : Int) ≤ 4096 := by omega
      have hk32 : (k : Int) ≤ 32 := by omega
      go_upto_region 4 with fail
      refine region_anyZ (z := 16) (S := fun w' => w'.cell? ⟨b, o + q, none⟩ = some (.int .u8 x.toNat)) (by kernel_rfl) ?_
      refine anyZ_begin (fun hcl0 => ?_)
      refine anyZ_held (by exact hc) (fun hHeld => ?_)
      -- 0: Op.move (Operand.tmp 0)
      refine' anyZ_pure (i := 0) (v := _) rfl (by rfl) (by kernel_rfl) (by kernel_rfl) (by kernel_rfl) hcl0 (fun _ _ _ h => h) (Or.inl ⟨by rfl, fun w _ => ?h1⟩) (fun _ => hHeld) (fun hcl1 => ?r1)
      case h1 => (simp only [List.getElem_toArray, List.getElem_cons_zero]; first | (go_simp; with_reducible rfl) | (go_simp; done) | rfl)
      simp only [List.getElem_toArray, List.getElem_cons_zero, Act.put, List.setIfInBounds_toArray, List.set_cons_zero, List.set_cons_succ]
      -- 1: Op.move (Operand.tmp 9)
      refine' anyZ_pure (i := 1) (v := _) rfl (by rfl) (by kernel_rfl) (by kernel_rfl) (by kernel_rfl) hcl1 (fun _ _ _ h => h) (Or.inl ⟨by rfl, fun w _ => ?h2⟩) (fun _ => hHeld) (fun hcl2 => ?r2)
      case h2 => (simp only [List.getElem_toArray, List.getElem_cons_succ, List.getElem_cons_zero]; first | (go_simp; with_reducible rfl) | (go_simp; done) | rfl)
      simp only [List.getElem_toArray, List.getElem_cons_succ, List.getElem_cons_zero, Act.put, List.setIfInBounds_toArray, List.set_cons_zero, List.set_cons_succ]
      -- 2: Op.binOp BinOp.quo 3 (Operand.tmp 18) (Operand.const (Value.
      refine' anyZ_pure (i := 2) (v := _) rfl (by rfl) (by kernel_rfl) (by kernel_rfl) (by kernel_rfl) hcl2 (fun _ _ _ h => h) (Or.inl ⟨by rfl, fun w _ => ?h3⟩) (fun _ => hHeld) (fun hcl3 => ?r3)
      case h3 => (simp only [List.getElem_toArray, List.getElem_cons_succ, List.getElem_cons_zero]; first | (go_simp; with_reducible rfl) | (go_simp; done) | rfl)
      simp only [List.getElem_toArray, List.getElem_cons_succ, List.getElem_cons_zero, Act.put, List.setIfInBounds_toArray, List.set_cons_zero, List.set_cons_succ]
      -- 3: Op.nilCheck (Operand.tmp 17)
      refine' anyZ_pure (i := 3) (v := _) rfl (by rfl) (by kernel_rfl) (by kernel_rfl) (by kernel_rfl) hcl3 (fun _ _ _ h => h) (Or.inl ⟨by rfl, fun w _ => ?h4⟩) (fun _ => hHeld) (fun hcl4 => ?r4)
      case h4 => (simp only [List.getElem_toArray, List.getElem_cons_succ, List.getElem_cons_zero]; first | (go_simp; with_reducible rfl) | (go_simp; done) | rfl)
      simp only [List.getElem_toArray, List.getElem_cons_succ, List.getElem_cons_zero, Act.put, List.setIfInBounds_toArray, List.set_cons_zero, List.set_cons_succ]
      -- 4: Op.indexAddr 67 (Operand.tmp 20) (Operand.tmp 19)
      refine' anyZ_pure (i := 4) (v := _) rfl (by rfl) (by kernel_rfl) (by kernel_rfl) (by kernel_rfl) hcl4 (fun _ _ _ h => h) (Or.inl ⟨by rfl, fun w _ => ?h5⟩) (fun _ => hHeld) (fun hcl5 => ?r5)
      case h5 => (simp only [List.getElem_toArray, List.getElem_cons_succ, List.getElem_cons_zero]; first | (go_simp; with_reducible rfl) | (go_simp; done) | rfl)
      simp only [List.getElem_toArray, List.getElem_cons_succ, List.getElem_cons_zero, Act.put, List.setIfInBounds_toArray, List.set_cons_zero, List.set_cons_succ]
      -- 5: Op.load 5 (Operand.tmp 21)
      refine' anyZ_take (i := 5) (v := _) rfl (by rfl) (by kernel_rfl) (by kernel_rfl) (by kernel_rfl) hcl5 2 (by kernel_rfl) (by kernel_rfl) (fun _ _ _ h => h) (Or.inl ⟨by rfl, fun w hSw => ?h6⟩) hHeld (fun hcl6 => ?r6)
      case h6 => (simp only [List.getElem_toArray, List.getElem_cons_succ, List.getElem_cons_zero]; first | (go_simp; with_reducible rfl) | (go_simp; done) | rfl)
      simp only [List.getElem_toArray, List.getElem_cons_succ, List.getElem_cons_zero, Act.put, List.setIfInBounds_toArray, List.set_cons_zero, List.set_cons_succ]
      -- 6: Op.move (Operand.tmp 3)
      refine' anyZ_pure (i := 6) (v := _) rfl (by rfl) (by kernel_rfl) (by kernel_rfl) (by kernel_rfl) hcl6 (fun _ _ _ h => h) (Or.inl ⟨by rfl, fun w _ => ?h7⟩) (fun _ => hHeld) (fun hcl7 => ?r7)
      case h7 => (simp only [List.getElem_toArray, List.getElem_cons_succ, List.getElem_cons_zero]; first | (go_simp; with_reducible rfl) | (go_simp; done) | rfl)
      simp only [List.getElem_toArray, List.getElem_cons_succ, List.getElem_cons_zero, Act.put, List.setIfInBounds_toArray, List.set_cons_zero, List.set_cons_succ]
      -- 7: Op.move (Operand.tmp 8)
      refine' anyZ_pure (i := 7) (v := _) rfl (by rfl) (by kernel_rfl) (by kernel_rfl) (by kernel_rfl) hcl7 (fun _ _ _ h => h) (Or.inl ⟨by rfl, fun w _ => ?h8⟩) (fun _ => hHeld) (fun hcl8 => ?r8)
      case h8 => (simp only [List.getElem_toArray, List.getElem_cons_succ, List.getElem_cons_zero]; first | (go_simp; with_reducible rfl) | (go_simp; done) | rfl)
      simp only [List.getElem_toArray, List.getElem_cons_succ, List.getElem_cons_zero, Act.put, List.setIfInBounds_toArray, List.set_cons_zero, List.set_cons_succ]
      -- 8: Op.binOp BinOp.shr 46 (Operand.tmp 23) (Operand.tmp 24) 3
      refine' anyZ_pure (i := 8) (v := _) rfl (by rfl) (by kernel_rfl) (by kernel_rfl) (by kernel_rfl) hcl8 (fun _ _ _ h => h) (Or.inl ⟨by rfl, fun w _ => ?h9⟩) (fun _ => hHeld) (fun hcl9 => ?r9)
      case h9 => (simp only [List.getElem_toArray, List.getElem_cons_succ, List.getElem_cons_zero]; first | (go_simp; with_reducible rfl) | (go_simp; done) | rfl)
      simp only [List.getElem_toArray, List.getElem_cons_succ, List.getElem_cons_zero, Act.put, List.setIfInBounds_toArray, List.set_cons_zero, List.set_cons_succ]
      -- 9: Op.binOp BinOp.and 46 (Operand.tmp 25) (Operand.const (Value
      refine' anyZ_pure (i := 9) (v := _) rfl (by rfl) (by kernel_rfl) (by kernel_rfl) (by kernel_rfl) hcl9 (fun _ _ _ h => h) (Or.inl ⟨by rfl, fun w _ => ?h10⟩) (fun _ => hHeld) (fun hcl10 => ?r10)
      case h10 => (simp only [List.getElem_toArray, List.getElem_cons_succ, List.getElem_cons_zero]; first | (go_simp; with_reducible rfl) | (go_simp; done) | rfl)
      simp only [List.getElem_toArray, List.getElem_cons_succ, List.getElem_cons_zero, Act.put, List.setIfInBounds_toArray, List.set_cons_zero, List.set_cons_succ]
      -- 10: Op.convert 46 5 (Operand.tmp 26)
      refine' anyZ_pure (i := 10) (v := _) rfl (by rfl) (by kernel_rfl) (by kernel_rfl) (by kernel_rfl) hcl10 (fun _ _ _ h => h) (Or.inl ⟨by rfl, fun w _ => ?h11⟩) (fun _ => hHeld) (fun hcl11 => ?r11)
      case h11 => (simp only [List.getElem_toArray, List.getElem_cons_succ, List.getElem_cons_zero]; first | (go_simp; with_reducible rfl) | (go_simp; done) | rfl)
      simp only [List.getElem_toArray, List.getElem_cons_succ, List.getElem_cons_zero, Act.put, List.setIfInBounds_toArray, List.set_cons_zero, List.set_cons_succ]
      -- 11: Op.move (Operand.tmp 9)
      refine' anyZ_pure (i := 11) (v := _) rfl (by rfl) (by kernel_rfl) (by kernel_rfl) (by kernel_rfl) hcl11 (fun _ _ _ h => h) (Or.inl ⟨by rfl, fun w _ => ?h12⟩) (fun _ => hHeld) (fun hcl12 => ?r12)
      case h12 => (simp only [List.getElem_toArray, List.getElem_cons_succ, List.getElem_cons_zero]; first | (go_simp; with_reducible rfl) | (go_simp; done) | rfl)
      simp only [List.getElem_toArray, List.getElem_cons_succ, List.getElem_cons_zero, Act.put, List.setIfInBounds_toArray, List.set_cons_zero, List.set_cons_succ]
      -- 12: Op.binOp BinOp.rem 3 (Operand.tmp 28) (Operand.const (Value.
      refine' anyZ_pure (i := 12) (v := _) rfl (by rfl) (by kernel_rfl) (by kernel_rfl) (by kernel_rfl) hcl12 (fun _ _ _ h => h) (Or.inl ⟨by rfl, fun w _ => ?h13⟩) (fun _ => hHeld) (fun hcl13 => ?r13)
      case h13 => (simp only [List.getElem_toArray, List.getElem_cons_succ, List.getElem_cons_zero]; first | (go_simp; with_reducible rfl) | (go_simp; done) | rfl)
      simp only [List.getElem_toArray, List.getElem_cons_succ, List.getElem_cons_zero, Act.put, List.setIfInBounds_toArray, List.set_cons_zero, List.set_cons_succ]
      -- 13: Op.binOp BinOp.shl 5 (Operand.tmp 27) (Operand.tmp 29) 3
      refine' anyZ_pure (i := 13) (v := _) rfl (by rfl) (by kernel_rfl) (by kernel_rfl) (by kernel_rfl) hcl13 (fun _ _ _ h => h) (Or.inl ⟨by rfl, fun w _ => ?h14⟩) (fun _ => hHeld) (fun hcl14 => ?r14)
      case h14 => (simp only [List.getElem_toArray, List.getElem_cons_succ, List.getElem_cons_zero]; first | (go_simp; with_reducible rfl) | (go_simp; done) | rfl)
      simp only [List.getElem_toArray, List.getElem_cons_succ, List.getElem_cons_zero, Act.put, List.setIfInBounds_toArray, List.set_cons_zero, List.set_cons_succ]
      -- 14: Op.binOp BinOp.xor 5 (Operand.tmp 22) (Operand.tmp 30) 5
      refine' anyZ_pure (i := 14) (v := _) rfl (by rfl) (by kernel_rfl) (by kernel_rfl) (by kernel_rfl) hcl14 (fun _ _ _ h => h) (Or.inl ⟨by rfl, fun w _ => ?h15⟩) (fun _ => hHeld) (fun hcl15 => ?r15)
      case h15 => (simp only [List.getElem_toArray, List.getElem_cons_succ, List.getElem_cons_zero]; first | (go_simp; with_reducible rfl) | (go_simp; done) | rfl)
      simp only [List.getElem_toArray, List.getElem_cons_succ, List.getElem_cons_zero, Act.put, List.setIfInBounds_toArray, List.set_cons_zero, List.set_cons_succ]
      -- 15: Op.nilCheck (Operand.tmp 17)
      refine' anyZ_pure (i := 15) (v := _) rfl (by rfl) (by kernel_rfl) (by kernel_rfl) (by kernel_rfl) hcl15 (fun _ _ _ h => h) (Or.inl ⟨by rfl, fun w _ => ?h16⟩) (fun _ => hHeld) (fun hcl16 => ?r16)
      case h16 => (simp only [List.getElem_toArray, List.getElem_cons_succ, List.getElem_cons_zero]; first | (go_simp; with_reducible rfl) | (go_simp; done) | rfl)
      simp only [List.getElem_toArray, List.getElem_cons_succ, List.getElem_cons_zero, Act.put, List.setIfInBounds_toArray, List.set_cons_zero, List.set_cons_succ]
      clear hHeld
      refine anyZ_chain_at (by kernel_rfl) ?_
      simp only [List.drop_succ_cons, List.drop_zero]
      rw [turn_val x mask k t hmask]
      go_wp2_with fail
      have hs9 := World.ownsRow.stored (w := wr.drew) HR.out (o + q) (B8 (x ^^^ UInt8.ofNat (mask / 2 ^ k % 2 * 2 ^ (t % 8))))
      rw [setAll_set xs o _ q _ HIN.out (by rw [HSM.out]; omega)] at hs9
      have hmn : (secCells m).set q (B8 (x ^^^ UInt8.ofNat (mask / 2 ^ k % 2 * 2 ^ (t % 8)))) = secCells (turnOf l bit mask (k + 1)) := by
        rw [turnOf, ← HM.out, ← HT.out]
        unfold turnAt secCells
        rw [List.map_set, ← HQ.out, List.getD_eq_getElem?_getD, HX.out]; rfl
      rw [hmn] at hs9
      have ho9 : Only w _ (fun k => k = b) := (Only.drew hon).trans ((Only.setCell wr.drew ⟨b, o + q, none⟩ (B8 (x ^^^ UInt8.ofNat (mask / 2 ^ k % 2 * 2 ^ (t % 8))))).mono (T := fun k => k = b) fun _ _ h => h) fun _ _ h => h
      go_roundw
      case rel => exact ⟨k + 1, turnOf l bit mask (k + 1), by go_num, by omega, Lib.hid rfl, Lib.hid hs9.1, ho9⟩
      case measure => first | (simp [intOf]; done) | (simp [intOf]; omega)
    · have e' : k = len := by omega
      subst e'
      have hm := HM.out
      subst hm
      go_wp2
      refine bodyPost_end (results_none rfl _ _ _) rfl ?_
      exact ⟨rfl, HR.out, hon⟩
end Go.Proofs.YtacfkhnajdneeaaDoor
