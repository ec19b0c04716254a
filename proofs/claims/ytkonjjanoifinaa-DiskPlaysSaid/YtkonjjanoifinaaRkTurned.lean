/- Walk: the document's answer for bits that are turned. -/
import Derived.Test.YtkonjjanoifinaaDkRot
import Derived.Test.YtkonjjanoifinaaJoin
import Derived.Test.YtkonjjanoifinaaOrd
namespace Go.Proofs.Ytkonjjanoifinaa
open Go.RowKit

def bitTab : List UInt8 := [1, 2, 4, 8, 16, 32, 64, 128]
theorem bitTab_get (q : Nat) (hq : q < 8) : bitTab[q]? = some (UInt8.ofNat (2 ^ q)) := by
  rcases (by omega : q = 0 ∨ q = 1 ∨ q = 2 ∨ q = 3 ∨ q = 4 ∨ q = 5 ∨ q = 6 ∨ q = 7) with rfl | rfl | rfl | rfl | rfl | rfl | rfl | rfl <;> rfl

theorem tab_get (r : Nat) (hr : r < 8) : ([Value.int .u8 1, .int .u8 2, .int .u8 4, .int .u8 8, .int .u8 16, .int .u8 32, .int .u8 64, .int .u8 128] : List Value)[r]? = some (.int .u8 ((2 ^ r : Nat) : Int)) := by
  rcases (by omega : r = 0 ∨ r = 1 ∨ r = 2 ∨ r = 3 ∨ r = 4 ∨ r = 5 ∨ r = 6 ∨ r = 7) with rfl | rfl | rfl | rfl | rfl | rfl | rfl | rfl <;> rfl

theorem tmod_bit (z : Nat) : (((z : Nat) : Int).tmod 2 == 1) = decide (z % 2 = 1) := by
  rw [Int.tmod_eq_emod_of_nonneg (Int.natCast_nonneg _), Bool.eq_iff_iff]
  simp only [beq_iff_eq, decide_eq_true_eq]
  omega

theorem turnOf_off (l : List UInt8) (bit mask k : Nat) (h : mask / 2 ^ k % 2 = 0) (hk : (bit + k) / 8 < l.length) : turnOf l bit mask (k + 1) = turnOf l bit mask k := by
  rw [turnOf, h]
  unfold turnAt
  have hx := List.getElem?_eq_getElem (l := turnOf l bit mask k) (i := (bit + k) / 8) (by rw [turnOf_length]; exact hk)
  rw [List.getD_eq_getElem?_getD, hx]
  show List.set _ _ (_ ^^^ UInt8.ofNat (0 * _)) = _
  rw [Nat.zero_mul, show UInt8.ofNat 0 = 0 from rfl, UInt8.xor_zero]
  exact list_set_self _ _ _ hx
theorem turnOf_on (l : List UInt8) (bit mask k : Nat) (h : mask / 2 ^ k % 2 = 1) : turnOf l bit mask (k + 1) = (turnOf l bit mask k).set ((bit + k) / 8) ((turnOf l bit mask k).getD ((bit + k) / 8) 0 ^^^ UInt8.ofNat (2 ^ ((bit + k) % 8))) := by
  rw [turnOf, h]
  unfold turnAt
  rw [Nat.one_mul]

set_option maxRecDepth 10000 in
set_option maxHeartbeats 1600000 in
theorem turned_any (v : Value) (p : List UInt8) (bit n mask : Nat) (w : World) (hv : Bytes w v p) (hp : p.length = 512) (hn : n ≤ 32) (hbit : bit + n ≤ 4096) :
    Calls Try.prog 37 #[v, .int .i64 bit, .int .i64 n, .int .u32 mask] w fun e w' => ∃ v', e = .returned v' ∧ Own8 5 w.heap.size w' v' (turnOf p bit mask n) ∧ Below w.heap.size w w' := by
  have hv0 := hv
  obtain ⟨a, c, rfl, _⟩ := hv0
  have HP := Lib.hid hp
  clear hp
  go_enter Try.func37, Try.ntmps37
  go_wp2_with fail
  have hone : [p].flatten = p := by simp
  refine (join_any _ [p] _ (rows_lit1 _ _ p _ _ rfl hv) (by rw [hone, HP.out]; omega)).mono ?_
  rintro e w1 ⟨v1, rfl, ho1, hb1⟩
  rw [hone] at ho1
  have hbx := btr (bal (bre w) (.cells #[.slice a p.length c] 22)) hb1
  have ho2 := ownsRow_base (base' := w.heap.size) ho1 (by simp)
  obtain ⟨gq, cq, rfl, hgb, _, _⟩ := Own8.shape (base := w.heap.size) ho2 (by intro h; have hp := HP.out; rw [h] at hp; cases hp)
  have hpl := HP.out
  rw [hpl] at ho2 ⊢
  have HO2 := Lib.hid (show Own8 5 w.heap.size w1 (.slice (some ⟨gq, 0, none⟩) 512 cq) p by unfold Own8; rw [hpl]; exact ho2)
  have HB := Lib.hid hbx
  clear ho1 ho2 hb1 hbx hv hone hpl
  go_wp2_with fail
  go_loopw [10, 11] (fun i _ wr => ∃ (k : Nat) (m : List UInt8), i = .int .i64 k ∧ k ≤ n ∧ Hid (m = turnOf p bit mask k) ∧ Hid (Own8 5 w.heap.size wr (.slice (some ⟨gq, 0, none⟩) 512 cq) m) ∧ Hid (Below w.heap.size w wr)) (fun i _ _ => n - (intOf i).toNat)
  case atStart => exact ⟨0, p, rfl, by omega, Lib.hid rfl, HO2, HB⟩
  case round =>
    obtain ⟨k, m, rfl, hk, HM, HR, HBR⟩ := hrel
    by_cases hlt : k < n
    · obtain ⟨t, ht⟩ : ∃ t, t = bit + k := ⟨_, rfl⟩
      have htI : (bit : Int) + k = t := by omega
      have hml : m.length = 512 := by rw [HM.out, turnOf_length]; exact HP.out
      obtain ⟨q, hq⟩ : ∃ q, q = t / 8 := ⟨_, rfl⟩
      obtain ⟨r, hr⟩ : ∃ r, r = t % 8 := ⟨_, rfl⟩
      have hqm : q < m.length := by omega
      have hki : (k : Int) < n := by omega
      have h0 : (mask : Int) / 2 ^ k = ((mask / 2 ^ k : Nat) : Int) := by simp
      by_cases hon : mask / 2 ^ k % 2 = 1
      · have hon' : (((mask : Int) / 2 ^ k).tmod 2 == 1) = true := by rw [h0, tmod_bit, hon]; rfl
        obtain ⟨hcell, hfr⟩ := Own8.cell HR.out q hqm
        obtain ⟨x, hx⟩ : ∃ x, m[q]? = some x := ⟨_, List.getElem?_eq_getElem hqm⟩
        have hxe : m[q] = x := by rw [List.getElem?_eq_getElem hqm] at hx; exact Option.some.inj hx
        rw [hxe] at hcell
        unfold B8 at hcell
        have hw1 : IntKind.i64.wrap ((t : Int) / 8) = (q : Int) := by rw [IntWalk.i64_in _ (by omega)]; omega
        have hw2 : (t : Int).tmod 8 = (r : Int) := by rw [Int.tmod_eq_emod_of_nonneg (by omega)]; omega
        have HT := Lib.hid ht
        have HQ := Lib.hid hq
        have HRR := Lib.hid hr
        have HX := Lib.hid hx
        have HML := Lib.hid hml
        have HON := Lib.hid hon
        have hq512 : q < 512 := by omega
        have hr8 : (r : Int) < 8 := by omega
        have hq0 : (0 : Int) ≤ q := by omega
        have hq1 : (q : Int) < 512 := by omega
        have hr0 : (0 : Int) ≤ r := by omega
        clear h0 ht hq hr hx hml hon hqm hxe
        have hgl : gq < wr.heap.size := (World.ownsRow.lt HR.out gq rfl).2
        have htab : ([Value.int .u8 1, .int .u8 2, .int .u8 4, .int .u8 8, .int .u8 16, .int .u8 32, .int .u8 64, .int .u8 128] : List Value)[r]? = some (.int .u8 ((2 ^ r : Nat) : Int)) := tab_get r (by omega)
        go_upto_region 7 with fail
        refine region_anyZ (z := 10) (S := fun w' => w'.cell? ⟨gq, q, none⟩ = some (.int .u8 x.toNat)) (by kernel_rfl) ?_
        refine anyZ_begin (fun hcl0 => ?_)
        refine anyZ_held (by exact hcell) (fun hHeld => ?_)
        -- 0: Op.move (Operand.tmp 9)
        refine' anyZ_pure (i := 0) (v := _) rfl (by rfl) (by kernel_rfl) (by kernel_rfl) (by kernel_rfl) hcl0 (fun _ _ _ h => h) (Or.inl ⟨by rfl, fun w _ => ?h1⟩) (fun _ => hHeld) (fun hcl1 => ?r1)
        case h1 => (simp only [List.getElem_toArray, List.getElem_cons_zero]; first | (go_simp; with_reducible rfl) | (go_simp; done) | rfl)
        simp only [List.getElem_toArray, List.getElem_cons_zero, Act.put, List.setIfInBounds_toArray, List.set_cons_zero, List.set_cons_succ]
        -- 1: Op.move (Operand.tmp 11)
        refine' anyZ_pure (i := 1) (v := _) rfl (by rfl) (by kernel_rfl) (by kernel_rfl) (by kernel_rfl) hcl1 (fun _ _ _ h => h) (Or.inl ⟨by rfl, fun w _ => ?h2⟩) (fun _ => hHeld) (fun hcl2 => ?r2)
        case h2 => (simp only [List.getElem_toArray, List.getElem_cons_succ, List.getElem_cons_zero]; first | (go_simp; with_reducible rfl) | (go_simp; done) | rfl)
        simp only [List.getElem_toArray, List.getElem_cons_succ, List.getElem_cons_zero, Act.put, List.setIfInBounds_toArray, List.set_cons_zero, List.set_cons_succ]
        -- 2: Op.binOp BinOp.quo 3 (Operand.tmp 29) (Operand.const (Value.
        refine' anyZ_pure (i := 2) (v := _) rfl (by rfl) (by kernel_rfl) (by kernel_rfl) (by kernel_rfl) hcl2 (fun _ _ _ h => h) (Or.inl ⟨by rfl, fun w _ => ?h3⟩) (fun _ => hHeld) (fun hcl3 => ?r3)
        case h3 => (simp only [List.getElem_toArray, List.getElem_cons_succ, List.getElem_cons_zero]; first | (go_simp; with_reducible rfl) | (go_simp; done) | rfl)
        simp only [List.getElem_toArray, List.getElem_cons_succ, List.getElem_cons_zero, Act.put, List.setIfInBounds_toArray, List.set_cons_zero, List.set_cons_succ]
        -- 3: Op.indexAddr 22 (Operand.tmp 28) (Operand.tmp 30)
        refine' anyZ_pure (i := 3) (v := _) rfl (by rfl) (by kernel_rfl) (by kernel_rfl) (by kernel_rfl) hcl3 (fun _ _ _ h => h) (Or.inl ⟨by rfl, fun w _ => ?h4⟩) (fun _ => hHeld) (fun hcl4 => ?r4)
        case h4 => (simp only [List.getElem_toArray, List.getElem_cons_succ, List.getElem_cons_zero]; first | (go_simp; with_reducible rfl) | (go_simp; done) | rfl)
        simp only [List.getElem_toArray, List.getElem_cons_succ, List.getElem_cons_zero, Act.put, List.setIfInBounds_toArray, List.set_cons_zero, List.set_cons_succ]
        -- 4: Op.load 5 (Operand.tmp 31)
        refine' anyZ_take (i := 4) (v := _) rfl (by rfl) (by kernel_rfl) (by kernel_rfl) (by kernel_rfl) hcl4 2 (by kernel_rfl) (by kernel_rfl) (fun _ _ _ h => h) (Or.inl ⟨by rfl, fun w hSw => ?h5⟩) hHeld (fun hcl5 => ?r5)
        case h5 => (simp only [List.getElem_toArray, List.getElem_cons_succ, List.getElem_cons_zero]; first | (go_simp; with_reducible rfl) | (go_simp; done) | rfl)
        simp only [List.getElem_toArray, List.getElem_cons_succ, List.getElem_cons_zero, Act.put, List.setIfInBounds_toArray, List.set_cons_zero, List.set_cons_succ]
        -- 6: Op.move (Operand.tmp 11)
        refine' anyZ_pure (i := 6) (v := _) rfl (by rfl) (by kernel_rfl) (by kernel_rfl) (by kernel_rfl) hcl5 (fun _ _ _ h => h) (Or.inl ⟨by rfl, fun w _ => ?h6⟩) (fun _ => hHeld) (fun hcl6 => ?r6)
        case h6 => (simp only [List.getElem_toArray, List.getElem_cons_succ, List.getElem_cons_zero]; first | (go_simp; with_reducible rfl) | (go_simp; done) | rfl)
        simp only [List.getElem_toArray, List.getElem_cons_succ, List.getElem_cons_zero, Act.put, List.setIfInBounds_toArray, List.set_cons_zero, List.set_cons_succ]
        -- 7: Op.binOp BinOp.rem 3 (Operand.tmp 34) (Operand.const (Value.
        refine' anyZ_pure (i := 7) (v := _) rfl (by rfl) (by kernel_rfl) (by kernel_rfl) (by kernel_rfl) hcl6 (fun _ _ _ h => h) (Or.inl ⟨by rfl, fun w _ => ?h7⟩) (fun _ => hHeld) (fun hcl7 => ?r7)
        case h7 => (simp only [List.getElem_toArray, List.getElem_cons_succ, List.getElem_cons_zero]; first | (go_simp; with_reducible rfl) | (go_simp; done) | rfl)
        simp only [List.getElem_toArray, List.getElem_cons_succ, List.getElem_cons_zero, Act.put, List.setIfInBounds_toArray, List.set_cons_zero, List.set_cons_succ]
        -- 5: Op.buildSlice 22 8 #[(0, Operand.const (Value.int IntKind.u8
        refine anyZ_one (i := 5) hcl7 (by kernel_rfl) (by simp only [List.getElem?_toArray, List.getElem?_cons_succ, List.getElem?_cons_zero]; rfl) (by rfl) (fun hcl8 K hK => ?_)
        go_simp
        refine hK _ _ (fun _ => ?_) ?_
        · exact (((bal (bre wr) (.cells #[Value.int .u8 1, .int .u8 2, .int .u8 4, .int .u8 8, .int .u8 16, .int .u8 32, .int .u8 64, .int .u8 128] 5)).cell (p := ⟨gq, q, none⟩) hgl).trans hcell)
        clear hK K hHeld
        have hHeld := (((bal (bre wr) (.cells #[Value.int .u8 1, .int .u8 2, .int .u8 4, .int .u8 8, .int .u8 16, .int .u8 32, .int .u8 64, .int .u8 128] 5)).cell (p := ⟨gq, q, none⟩) hgl).trans hcell)
        try simp only [Act.put, List.setIfInBounds_toArray, List.set_cons_zero, List.set_cons_succ]
        -- 8: Op.indexAddr 22 (Operand.tmp 33) (Operand.tmp 35)
        refine' anyZ_pure (i := 8) (v := _) rfl (by rfl) (by kernel_rfl) (by kernel_rfl) (by kernel_rfl) hcl8 (fun _ _ _ h => h) (Or.inl ⟨by rfl, fun w _ => ?h9⟩) (fun _ => hHeld) (fun hcl9 => ?r9)
        case h9 => (simp only [List.getElem_toArray, List.getElem_cons_succ, List.getElem_cons_zero]; first | (go_simp; with_reducible rfl) | (go_simp; done) | rfl)
        simp only [List.getElem_toArray, List.getElem_cons_succ, List.getElem_cons_zero, Act.put, List.setIfInBounds_toArray, List.set_cons_zero, List.set_cons_succ]
        -- 9: Op.load 5 (Operand.tmp 36)
        refine anyZ_one (i := 9) hcl9 (by kernel_rfl) (by simp only [List.getElem?_toArray, List.getElem?_cons_succ, List.getElem?_cons_zero]; rfl) (by rfl) (fun hcl10 K hK => ?_)
        go_simp
        refine hK _ _ (fun _ => ?_) ?_
        · exact (((bal (bre wr) (.cells #[Value.int .u8 1, .int .u8 2, .int .u8 4, .int .u8 8, .int .u8 16, .int .u8 32, .int .u8 64, .int .u8 128] 5)).cell (p := ⟨gq, q, none⟩) hgl).trans hcell)
        clear hK K hHeld
        try simp only [Act.put, List.setIfInBounds_toArray, List.set_cons_zero, List.set_cons_succ]
        refine anyZ_chain_at (by kernel_rfl) ?_
        simp only [List.drop_succ_cons, List.drop_zero]
        have hval : bits .xor .u8 (x.toNat : Int) ((2 : Int) ^ r) = ((x ^^^ UInt8.ofNat (2 ^ r)).toNat : Int) := by
          have hp : 2 ^ r < 256 := by
            have : 2 ^ r ≤ 2 ^ 7 := Nat.pow_le_pow_right (by omega) (by omega)
            omega
          rw [show (2 : Int) ^ r = ((2 ^ r : Nat) : Int) by simp, u8_xor_nat _ _ x.toNat_lt hp, UInt8.toNat_xor, UInt8.toNat_ofNat_of_lt' (show _ < UInt8.size by simp [UInt8.size]; exact hp)]
        go_wp2_with fail
        rw [show Value.int .u8 ((x.toNat ^^^ 2 ^ r % 256 : Nat) : Int) = B8 (x ^^^ UInt8.ofNat (2 ^ r)) by unfold B8; rw [UInt8.toNat_xor, UInt8.toNat_ofNat']]
        have hst := Own8.store HR.out q (x ^^^ UInt8.ofNat (2 ^ r))
        have hm9 : m.set q (x ^^^ UInt8.ofNat (2 ^ r)) = turnOf p bit mask (k + 1) := by
          rw [turnOf_on p bit mask k HON.out, ← HM.out, ← HT.out, ← HQ.out, ← HRR.out, List.getD_eq_getElem?_getD, HX.out]; rfl
        rw [hm9] at hst
        have hbz := bdr (bal (bre (wr.setCell ⟨gq, q, none⟩ (B8 (x ^^^ UInt8.ofNat (2 ^ r))))) (.cells #[Value.int .u8 1, .int .u8 2, .int .u8 4, .int .u8 8, .int .u8 16, .int .u8 32, .int .u8 64, .int .u8 128] 5))
        have hst9 := Own8.kept hst.1 (Nat.le_refl _) hbz
        have hb9 := btr (HBR.out.trans hst.2) hbz
        go_roundw
        case rel => exact ⟨k + 1, _, by go_num, by omega, Lib.hid rfl, Lib.hid hst9, Lib.hid hb9⟩
        case measure => first | (simp [intOf]; done) | (simp [intOf]; omega)
      · have hon' : (((mask : Int) / 2 ^ k).tmod 2 == 1) = false := by rw [h0, tmod_bit]; exact decide_eq_false hon
        have hl9 : m = turnOf p bit mask (k + 1) := by
          rw [turnOf_off p bit mask k (by omega) (by have := HP.out; omega)]; exact HM.out
        have HL9 := Lib.hid hl9
        clear h0 hq hr ht hl9
        go_wp2_with fail
        go_roundw
        case rel => exact ⟨k + 1, m, by go_num, by omega, HL9, HR, HBR⟩
        case measure => first | (simp [intOf]; done) | (simp [intOf]; omega)
    · have e' : k = n := by omega
      subst e'
      have hm := HM.out
      subst hm
      go_wp2_with fail
      go_ret
      exact ⟨_, rfl, HR.out, HBR.out⟩
end Go.Proofs.Ytkonjjanoifinaa
